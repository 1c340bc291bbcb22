/- Walks: the document's 'run': reckon, less, same. Conditions: the machine lies there; what stands where an instruction is looked at. Printed by genrunb.py. -/
import Derived.Test.YtlbomnbpahmphaaGreatD33
import Derived.Test.YtlbomnbpahmphaaGreatD37
set_option maxRecDepth 100000
set_option maxHeartbeats 600000
namespace Go.Proofs.YtlbomnbpahmphaaGreat
open Go.RowKit
section
variable {base:Nat} {P:Pr} {kinds:List Int} {A0 A:Nat→Prop} {T:Nat} {w0 w:World} {m fb rb:Nat} {io:Option Addr} {ic:Nat} {c0 c:Cl} {S0 S:St} {x:In} {xb ab bb cb:Nat} {la:Option Addr} {lc n0:Nat} {Q:Exit→Act→World→Prop} {a:Act}
theorem nreckon_c (w:World) (op a b:Int) (ho:op=8∨op=9∨op=10) (ha:I64 a) (hb:I64 b):Calls Tryz.prog 109 #[.int .i64 op,.int .i64 a,.int .i64 b] w fun e w'=>∃ v,e=.returned (.tuple #[.int .i64 v,.bool (reckonS op a b).2])∧((reckonS op a b).2=true→v=(reckonS op a b).1)∧Fr Non w w':=by
 rcases ho with rfl|rfl|rfl
 · refine (nreckon_add w a b ha hb).mono ?_;rintro e w' ⟨rfl,hf⟩;exact ⟨_,rfl,fun _=>rfl,hf⟩
 · refine (nreckon_sub w a b ha hb).mono ?_;rintro e w' ⟨rfl,hf⟩;exact ⟨_,rfl,fun _=>rfl,hf⟩
 · exact nreckon_mul w 10 a b (by decide) (by decide) ha hb
theorem nbit_t (w:World):Calls Tryz.prog 110 #[.bool true] w fun e w'=>e=.returned (.int .i64 1)∧Fr Non w w':=nbit_c w true
theorem nbit_f (w:World):Calls Tryz.prog 110 #[.bool false] w fun e w'=>e=.returned (.int .i64 0)∧Fr Non w w':=nbit_c w false
theorem rn_reckon (hQ:RunQ base P kinds A0 (T+1) w0 m fb rb io ic c0 S0 n0 Q) (h:SwR base P kinds A0 T w0 m fb rb io ic c0 S0 n0 A w c S x xb ab bb cb la lc a) (ho:x.op=8∨x.op=9∨x.op=10):Code.wp Tryz.prog (runBr 8) Q a w:=by
 obtain ⟨ia,hia,hia2⟩:=Reg.nat (h.sw.hat.ok.ra (by rcases ho with e|e|e <;> simp [e]));have hia0:(0:Int)≤(ia:Int):=by omega
 have hia1:(ia:Int)<16:=by omega
 obtain ⟨ib,hib,hib2⟩:=Reg.nat (h.sw.hat.ok.rb (by rcases ho with e|e|e <;> simp [e]));have hib0:(0:Int)≤(ib:Int):=by omega
 have hib1:(ib:Int)<16:=by omega
 obtain ⟨ic,hic,hic2⟩:=Reg.nat (h.sw.hat.ok.rc (by rcases ho with e|e|e <;> simp [e]));have hic0:(0:Int)≤(ic:Int):=by omega
 have hic1:(ic:Int)<16:=by omega
 have qb:=h.sw.rb_;rw [fieldW_reg (show 0≤x.b by omega) (show x.b<16 by omega),hib] at qb;have hlbb:=qb.lt;obtain ⟨bb0,bb1,bb2,bbz⟩:=row3 qb;have qc:=h.sw.rc;rw [fieldW_reg (show 0≤x.c by omega) (show x.c<16 by omega),hic] at qc;have hlcb:=qc.lt;obtain ⟨cb0,cb1,cb2,cbz⟩:=row3 qc;obtain ⟨x0,x1,x2,x3,x4,xz⟩:=row5 h.sw.rx;have hlx:=h.sw.rx.lt;have hlr:=h.sw.lp.rrb.lt;have hne:=h.ne_x;have hl0:=h.sw.hat.ok.lab (by rcases ho with e|e|e <;> simp [e]);obtain ⟨n,hn⟩:∃ n,x.l[0]?=some n:=⟨x.l[0],List.getElem?_eq_getElem hl0⟩;have hn2:=h.sw.hat.ok.tO n (List.mem_of_getElem? hn);have hnl:x.lab 0=n:=by unfold In.lab;rw [List.getD_eq_getElem?_getD,show (0:Int).toNat=0 from rfl,hn];rfl
 obtain ⟨lb,lo,hla,hcl⟩:=h.sw.il 0 n hn;rw [hla] at x4;have cl:=hcl.2;rw [Nat.add_zero] at cl;have hll:=World.block_lt_of_cell? w _ cl;have hl1:(0:Int)<(x.l.length:Int):=by omega
 rw [hia] at x1
 have hgo:reckonsS c.inc x=if (c.reg ib).p∨(c.reg ic).p then (c.inc,11) else if (reckonS x.op (c.reg ib).n (c.reg ic).n).2 then (c.inc.put ia (num (reckonS x.op (c.reg ib).n (c.reg ic).n).1),0) else ({ c with at_:=n },0):=by
  unfold reckonsS;rw [if_neg (by omega),if_neg (by omega),hia,hib,hic,hnl,show c.inc.reg ib=c.reg ib from rfl,show c.inc.reg ic=c.reg ic from rfl];split
  · rfl
  · rw [if_neg (by omega),if_neg (by omega)]
    rfl
 have hbn:=reg_ok h.sw.hat.hc.fits (ib:Int);have hcn:=reg_ok h.sw.hat.hc.fits (ic:Int);have hS:=Lib.hid fun w1=>nreckon_c w1 x.op _ _ ho hbn hcn;have hrk:=reckon_ok x.op (c.reg ib).n (c.reg ic).n;generalize reckonS x.op (c.reg ib).n (c.reg ic).n=R at *;obtain ⟨rv,rk⟩:=R;simp only at hS hgo hrk;have hno:x.op ∉ [13,15,27,28,(29:Int)]:=by rcases ho with e|e|e <;> simp [e]
 cases hbp:(c.reg ib).p with
 | true =>
  rw [hbp] at bb0;rw [if_pos (Or.inl hbp)] at hgo;have hR:Runs P kinds c S (6,11) S.tick:=Runs.reckonsBad h.sw.hat (by omega) hgo (by decide);have HH:=Lib.hid (And.intro hQ (And.intro h hR));obtain ⟨g,g0,g6,g10,g11,g12,g13,g14,g15,g16,g17,rfl⟩:=h.frame;rw [Fr532_lit,g0,g6,g10,g11,g12,g13,g14,g15,g16,g17];clear g0 g6 g10 g11 g12 g13 g14 g15 g16 g17 hQ h ho hR hn2 hgo hbp hia hib hic qb qc hbn hcn hrk hno hl0 hn hnl hla hcl
  conv=>arg 2;whnf
  go_wp2_with fail
  exact HH.out.1.ret _ _ ⟨(6,11),rfl,by kernel_rfl,by kernel_rfl,HH.out.2.1.over (Fr.refl _ _) HH.out.2.2⟩
 | false =>
  rw [hbp] at bb0;cases hcp:(c.reg ic).p with
  | true =>
   rw [hcp] at cb0;rw [if_pos (Or.inr hcp)] at hgo;have hR:Runs P kinds c S (6,11) S.tick:=Runs.reckonsBad h.sw.hat (by omega) hgo (by decide);have HH:=Lib.hid (And.intro hQ (And.intro h hR));obtain ⟨g,g0,g6,g10,g11,g12,g13,g14,g15,g16,g17,rfl⟩:=h.frame;rw [Fr532_lit,g0,g6,g10,g11,g12,g13,g14,g15,g16,g17];clear g0 g6 g10 g11 g12 g13 g14 g15 g16 g17 hQ h ho hR hn2 hgo hbp hcp hia hib hic qb qc hbn hcn hrk hno hl0 hn hnl hla hcl
   conv=>arg 2;whnf
   go_wp2_with fail
   exact HH.out.1.ret _ _ ⟨(6,11),rfl,by kernel_rfl,by kernel_rfl,HH.out.2.1.over (Fr.refl _ _) HH.out.2.2⟩
  | false =>
   rw [hcp] at cb0;rw [if_neg (by rw [hbp,hcp];decide)] at hgo;cases rk with
   | true =>
    rw [if_pos rfl] at hgo;have hR:∀ r S'',Runs P kinds (c.inc.put ia (num rv)) S.tick r S''→Runs P kinds c S r S'':=fun r S'' k=>Runs.reckons h.sw.hat (by omega) hgo k;have hrx:=h.sw.rx;rw [hia] at hrx;have HH:=Lib.hid (And.intro hQ (And.intro h (And.intro hno (And.intro hR (And.intro hrk hrx)))));obtain ⟨g,g0,g6,g10,g11,g12,g13,g14,g15,g16,g17,rfl⟩:=h.frame;rw [Fr532_lit,g0,g6,g10,g11,g12,g13,g14,g15,g16,g17];clear g0 g6 g10 g11 g12 g13 g14 g15 g16 g17 hQ h ho hR hn2 hgo hbp hcp hia hib hic qb qc hbn hcn hrk hno hrx hl0 hn hnl hla hcl
    conv=>arg 2;whnf
    go_wp2_with fail
    refine (hS.out _).mono ?_;rintro e1 w1 ⟨v,rfl,hv,hf⟩;have hv2:rv=v:=by simpa using Eq.symm (by simpa using hv)
    subst hv2;have hrx:=hf.row HH.out.2.2.2.2.2 id;obtain ⟨x0,x1,x2,x3,x4,xz⟩:=row5 hrx;have hlx:=hrx.lt;have hs1:=hf.size;have HF:=Lib.hid hf;clear hf hv hrx;go_wp2_with fail
    have cW:=@Mix.cls_drew w1 [xb];refine Mix.wp_region_mix [2] [(0,0),(0,1),(1,2),(0,3),(2,4),(0,5),(2,6)] (fun V=>∃ g,V=Mix.upon w1 [xb] g) (by kernel_rfl) (by kernel_rfl) cW ?_;clear cW;repeat (first|((first|refine Mix.qa ?_|refine Mix.qb ?_);intro K hK;simp only [nA,nB,nC];go_big_quiet_op;go_big_quiet_on)|refine Mix.qc ?_|refine Mix.qd ?_)
    refine Mix.S_eff rfl rfl ?_;intro K hK;simp only [nA,nB,nC];go_simp;refine (nnum_c _ rv).mono ?_;rintro e2 w2 ⟨rfl,hf⟩;refine hK _ _ ⟨Mix.cls_fr (D:=Non) hf (by simp [Non];omega),?_⟩;clear hK K;have hf1:Fr Non w1 w2:=Fr.trans (by exact (Fr.refl _ _).drew) hf;have hf2:=HF.out.trans hf1;obtain ⟨v0,v1,v2,vz⟩:=(HH.out.2.1.sw.lp.non hf2).cells hia2;have hs2:=hf2.size;have hlr1:rb<w2.heap.size:=by omega
    clear hf;repeat (first|((first|refine Mix.qa ?_|refine Mix.qb ?_);intro K hK;simp only [nA,nB,nC];go_big_quiet_op;go_big_quiet_on)|refine Mix.qc ?_|refine Mix.qd ?_)
    refine Mix.S_eff rfl rfl ?_;intro K hK;simp only [nA,nB,nC];go_simp;refine hK _ _ ⟨Mix.cls_fr (D:=fun y=>y=rb) (Fr.set3 _ _ _ _ _ _ _ _) (by simp;omega),?_⟩;clear hK K;refine Mix.S_done ?_
    (try simp only [Act.put,List.setIfInBounds_toArray,List.set_cons_succ,List.set_cons_zero])
    refine HH.out.1.on _ _ ⟨⟨by kernel_rfl,by kernel_rfl,by kernel_rfl,by kernel_rfl,by kernel_rfl,by kernel_rfl⟩,0,(c.at_+1),by kernel_rfl,by kernel_rfl,Or.inl ⟨rfl,HH.out.2.1.put (y:=num rv) hf2 HH.out.2.2.1 hia2 (num_ok HH.out.2.2.2.2.1) HH.out.2.2.2.1⟩⟩
   | false =>
    rw [if_neg (by decide)] at hgo;have hR:∀ r S'',Runs P kinds { c with at_:=n } S.tick r S''→Runs P kinds c S r S'':=fun r S'' k=>Runs.reckons h.sw.hat (by omega) hgo k;have hrx:=h.sw.rx;rw [hla] at hrx;have HH:=Lib.hid (And.intro hQ (And.intro h (And.intro hR (And.intro hn2 hrx))));obtain ⟨g,g0,g6,g10,g11,g12,g13,g14,g15,g16,g17,rfl⟩:=h.frame;rw [Fr532_lit,g0,g6,g10,g11,g12,g13,g14,g15,g16,g17];clear g0 g6 g10 g11 g12 g13 g14 g15 g16 g17 hQ h ho hR hn2 hgo hbp hcp hia hib hic qb qc hbn hcn hrk hno hrx hl0 hn hnl hla hcl
    conv=>arg 2;whnf
    go_wp2_with fail
    refine (hS.out _).mono ?_;rintro e1 w1 ⟨v,rfl,hv,hf⟩;have hrx:=hf.row HH.out.2.2.2.2 id;obtain ⟨x0,x1,x2,x3,x4,xz⟩:=row5 hrx;have hlx:=hrx.lt;have cl:=hf.cell cl id;have hs1:=hf.size;have hll:lb<w1.heap.size:=by omega
    have HF:=Lib.hid hf;clear hf hv hrx;go_wp2_with fail
    refine HH.out.1.on _ _ ⟨⟨by kernel_rfl,by kernel_rfl,by kernel_rfl,by kernel_rfl,by kernel_rfl,by kernel_rfl⟩,0,n,by kernel_rfl,by kernel_rfl,Or.inl ⟨rfl,HH.out.2.1.jump HF.out HH.out.2.2.2.1.1 HH.out.2.2.2.1.2 HH.out.2.2.1⟩⟩
theorem rn_less (hQ:RunQ base P kinds A0 (T+1) w0 m fb rb io ic c0 S0 n0 Q) (h:SwR base P kinds A0 T w0 m fb rb io ic c0 S0 n0 A w c S x xb ab bb cb la lc a) (ho:x.op=11):Code.wp Tryz.prog (runBr 9) Q a w:=by
 obtain ⟨ia,hia,hia2⟩:=Reg.nat (h.sw.hat.ok.ra (by simp [ho]));have hia0:(0:Int)≤(ia:Int):=by omega
 have hia1:(ia:Int)<16:=by omega
 obtain ⟨ib,hib,hib2⟩:=Reg.nat (h.sw.hat.ok.rb (by simp [ho]));have hib0:(0:Int)≤(ib:Int):=by omega
 have hib1:(ib:Int)<16:=by omega
 obtain ⟨ic,hic,hic2⟩:=Reg.nat (h.sw.hat.ok.rc (by simp [ho]));have hic0:(0:Int)≤(ic:Int):=by omega
 have hic1:(ic:Int)<16:=by omega
 have qb:=h.sw.rb_;rw [fieldW_reg (show 0≤x.b by omega) (show x.b<16 by omega),hib] at qb;have hlbb:=qb.lt;obtain ⟨bb0,bb1,bb2,bbz⟩:=row3 qb;have qc:=h.sw.rc;rw [fieldW_reg (show 0≤x.c by omega) (show x.c<16 by omega),hic] at qc;have hlcb:=qc.lt;obtain ⟨cb0,cb1,cb2,cbz⟩:=row3 qc;obtain ⟨x0,x1,x2,x3,x4,xz⟩:=row5 h.sw.rx;have hlx:=h.sw.rx.lt;have hlr:=h.sw.lp.rrb.lt;have hne:=h.ne_x;rw [hia] at x1
 have hgo:reckonsS c.inc x=if (c.reg ib).p∨(c.reg ic).p then (c.inc,11) else (c.inc.put ia (num (bitS ((decide ((c.reg ib).n<(c.reg ic).n))))),0):=by
  unfold reckonsS;rw [if_neg (by omega),if_neg (by omega),hia,hib,hic,show c.inc.reg ib=c.reg ib from rfl,show c.inc.reg ic=c.reg ic from rfl];by_cases hpp:(c.reg ib).p=true∨(c.reg ic).p=true
  · rw [if_pos hpp,if_pos hpp]
  · rw [if_neg hpp,if_neg hpp,if_pos ho]
 rw [ho] at x0;cases hbp:(c.reg ib).p with
 | true =>
  rw [hbp] at bb0;rw [if_pos (Or.inl hbp)] at hgo;have hR:Runs P kinds c S (6,11) S.tick:=Runs.reckonsBad h.sw.hat (by omega) hgo (by decide);have HH:=Lib.hid (And.intro hQ (And.intro h hR));obtain ⟨g,g0,g6,g10,g11,g12,g13,g14,g15,g16,g17,rfl⟩:=h.frame;rw [Fr532_lit,g0,g6,g10,g11,g12,g13,g14,g15,g16,g17];clear g0 g6 g10 g11 g12 g13 g14 g15 g16 g17 hQ h ho hR hgo hbp hia hib hic qb qc
  conv=>arg 2;whnf
  go_wp2_with fail
  exact HH.out.1.ret _ _ ⟨(6,11),rfl,by kernel_rfl,by kernel_rfl,HH.out.2.1.over (Fr.refl _ _) HH.out.2.2⟩
 | false =>
  rw [hbp] at bb0;cases hcp:(c.reg ic).p with
  | true =>
   rw [hcp] at cb0;rw [if_pos (Or.inr hcp)] at hgo;have hR:Runs P kinds c S (6,11) S.tick:=Runs.reckonsBad h.sw.hat (by omega) hgo (by decide);have HH:=Lib.hid (And.intro hQ (And.intro h hR));obtain ⟨g,g0,g6,g10,g11,g12,g13,g14,g15,g16,g17,rfl⟩:=h.frame;rw [Fr532_lit,g0,g6,g10,g11,g12,g13,g14,g15,g16,g17];clear g0 g6 g10 g11 g12 g13 g14 g15 g16 g17 hQ h ho hR hgo hbp hcp hia hib hic qb qc
   conv=>arg 2;whnf
   go_wp2_with fail
   exact HH.out.1.ret _ _ ⟨(6,11),rfl,by kernel_rfl,by kernel_rfl,HH.out.2.1.over (Fr.refl _ _) HH.out.2.2⟩
  | false =>
   rw [hcp] at cb0;rw [if_neg (by rw [hbp,hcp];decide)] at hgo;have hR:∀ r S'',Runs P kinds (c.inc.put ia (num (bitS ((decide ((c.reg ib).n<(c.reg ic).n)))))) S.tick r S''→Runs P kinds c S r S'':=fun r S'' k=>Runs.reckons h.sw.hat (by omega) hgo k;generalize hvv:(decide ((c.reg ib).n<(c.reg ic).n))=bv at *;have hne2:¬ bb=rb∧¬ cb=rb:=⟨fun e=>h.sw.ne.2.1 e.symm,fun e=>h.sw.ne.2.2.1 e.symm⟩;cases bv
   · have HH:=Lib.hid (And.intro hQ (And.intro h (And.intro ho hR)));obtain ⟨g,g0,g6,g10,g11,g12,g13,g14,g15,g16,g17,rfl⟩:=h.frame;rw [Fr532_lit,g0,g6,g10,g11,g12,g13,g14,g15,g16,g17];clear g0 g6 g10 g11 g12 g13 g14 g15 g16 g17 hQ h ho hR hgo hbp hcp hia hib hic qb qc
     conv=>arg 2;whnf
     go_wp2_with fail
     have cW:=@Mix.cls_drew w [xb,bb,cb];refine Mix.wp_region_mix [2,4,8,10,15,19,21] [(0,0),(0,1),(1,2),(0,3),(1,4),(0,5),(0,6),(0,7),(1,8),(0,9),(1,10),(0,11),(0,12),(0,13),(0,14),(1,15),(0,16),(0,17),(0,18),(1,19),(0,20),(1,21),(0,22),(0,23),(0,24),(2,25),(2,26),(0,27),(2,28)] (fun V=>∃ g,V=Mix.upon w [xb,bb,cb] g) (by kernel_rfl) (by kernel_rfl) cW ?_;clear cW;refine Mix.Wq.out ?_;repeat (first|((first|refine Mix.q_pure rfl rfl ?_|refine Mix.q_load rfl rfl ?_);intro K hK;simp only [nA,nB,nC];go_big_quiet_op;go_big_quiet_on)|((first|refine Mix.q_skip0 rfl rfl ?_|refine Mix.q_skip1 rfl rfl ?_|refine Mix.q_skip2 rfl rfl ?_);simp only [nA,nB,nC];simp only [Act.put,List.setIfInBounds_toArray,List.set_cons_succ,List.set_cons_zero]))
     refine Mix.q_eff rfl rfl ?_;intro K hK;simp only [nA,nB,nC];go_simp;refine (nbit_f _).mono ?_;rintro e1 w1 ⟨rfl,hf⟩;refine hK _ _ ⟨Mix.cls_fr (D:=Non) hf (by simp [Non];omega),?_⟩;clear hK K;have hf1:Fr Non w w1:=Fr.trans (by exact (Fr.refl _ _).drew) hf;have hs1:=hf1.size;clear hf;refine Mix.q_eff rfl rfl ?_;intro K hK;simp only [nA,nB,nC];go_simp;refine (nnum_c _ 0).mono ?_;rintro e2 w2 ⟨rfl,hf⟩;refine hK _ _ ⟨Mix.cls_fr (D:=Non) hf (by simp [Non];omega),?_⟩;clear hK K;have hf2:=hf1.trans hf;obtain ⟨v0,v1,v2,vz⟩:=(HH.out.2.1.sw.lp.non hf2).cells hia2;have hs2:=hf2.size;have hlr1:rb<w2.heap.size:=by omega
     clear hf;repeat (first|((first|refine Mix.q_pure rfl rfl ?_|refine Mix.q_load rfl rfl ?_);intro K hK;simp only [nA,nB,nC];go_big_quiet_op;go_big_quiet_on)|((first|refine Mix.q_skip0 rfl rfl ?_|refine Mix.q_skip1 rfl rfl ?_|refine Mix.q_skip2 rfl rfl ?_);simp only [nA,nB,nC];simp only [Act.put,List.setIfInBounds_toArray,List.set_cons_succ,List.set_cons_zero]))
     refine Mix.q_eff rfl rfl ?_;intro K hK;simp only [nA,nB,nC];go_simp;refine hK _ _ ⟨Mix.cls_fr (D:=fun y=>y=rb) (Fr.set3 _ _ _ _ _ _ _ _) (by simp;omega),?_⟩;clear hK K;refine ⟨Mix.S_done ?_⟩
     (try simp only [Act.put,List.setIfInBounds_toArray,List.set_cons_succ,List.set_cons_zero])
     refine HH.out.1.on _ _ ⟨⟨by kernel_rfl,by kernel_rfl,by kernel_rfl,by kernel_rfl,by kernel_rfl,by kernel_rfl⟩,0,(c.at_+1),by kernel_rfl,by kernel_rfl,Or.inl ⟨rfl,HH.out.2.1.put (y:=num 0) hf2 (by simp [HH.out.2.2.1]) hia2 (num_ok (bit_ok false)) HH.out.2.2.2⟩⟩
   · have HH:=Lib.hid (And.intro hQ (And.intro h (And.intro ho hR)));obtain ⟨g,g0,g6,g10,g11,g12,g13,g14,g15,g16,g17,rfl⟩:=h.frame;rw [Fr532_lit,g0,g6,g10,g11,g12,g13,g14,g15,g16,g17];clear g0 g6 g10 g11 g12 g13 g14 g15 g16 g17 hQ h ho hR hgo hbp hcp hia hib hic qb qc
     conv=>arg 2;whnf
     go_wp2_with fail
     have cW:=@Mix.cls_drew w [xb,bb,cb];refine Mix.wp_region_mix [2,4,8,10,15,19,21] [(0,0),(0,1),(1,2),(0,3),(1,4),(0,5),(0,6),(0,7),(1,8),(0,9),(1,10),(0,11),(0,12),(0,13),(0,14),(1,15),(0,16),(0,17),(0,18),(1,19),(0,20),(1,21),(0,22),(0,23),(0,24),(2,25),(2,26),(0,27),(2,28)] (fun V=>∃ g,V=Mix.upon w [xb,bb,cb] g) (by kernel_rfl) (by kernel_rfl) cW ?_;clear cW;refine Mix.Wq.out ?_;repeat (first|((first|refine Mix.q_pure rfl rfl ?_|refine Mix.q_load rfl rfl ?_);intro K hK;simp only [nA,nB,nC];go_big_quiet_op;go_big_quiet_on)|((first|refine Mix.q_skip0 rfl rfl ?_|refine Mix.q_skip1 rfl rfl ?_|refine Mix.q_skip2 rfl rfl ?_);simp only [nA,nB,nC];simp only [Act.put,List.setIfInBounds_toArray,List.set_cons_succ,List.set_cons_zero]))
     refine Mix.q_eff rfl rfl ?_;intro K hK;simp only [nA,nB,nC];go_simp;refine (nbit_t _).mono ?_;rintro e1 w1 ⟨rfl,hf⟩;refine hK _ _ ⟨Mix.cls_fr (D:=Non) hf (by simp [Non];omega),?_⟩;clear hK K;have hf1:Fr Non w w1:=Fr.trans (by exact (Fr.refl _ _).drew) hf;have hs1:=hf1.size;clear hf;refine Mix.q_eff rfl rfl ?_;intro K hK;simp only [nA,nB,nC];go_simp;refine (nnum_c _ 1).mono ?_;rintro e2 w2 ⟨rfl,hf⟩;refine hK _ _ ⟨Mix.cls_fr (D:=Non) hf (by simp [Non];omega),?_⟩;clear hK K;have hf2:=hf1.trans hf;obtain ⟨v0,v1,v2,vz⟩:=(HH.out.2.1.sw.lp.non hf2).cells hia2;have hs2:=hf2.size;have hlr1:rb<w2.heap.size:=by omega
     clear hf;repeat (first|((first|refine Mix.q_pure rfl rfl ?_|refine Mix.q_load rfl rfl ?_);intro K hK;simp only [nA,nB,nC];go_big_quiet_op;go_big_quiet_on)|((first|refine Mix.q_skip0 rfl rfl ?_|refine Mix.q_skip1 rfl rfl ?_|refine Mix.q_skip2 rfl rfl ?_);simp only [nA,nB,nC];simp only [Act.put,List.setIfInBounds_toArray,List.set_cons_succ,List.set_cons_zero]))
     refine Mix.q_eff rfl rfl ?_;intro K hK;simp only [nA,nB,nC];go_simp;refine hK _ _ ⟨Mix.cls_fr (D:=fun y=>y=rb) (Fr.set3 _ _ _ _ _ _ _ _) (by simp;omega),?_⟩;clear hK K;refine ⟨Mix.S_done ?_⟩
     (try simp only [Act.put,List.setIfInBounds_toArray,List.set_cons_succ,List.set_cons_zero])
     refine HH.out.1.on _ _ ⟨⟨by kernel_rfl,by kernel_rfl,by kernel_rfl,by kernel_rfl,by kernel_rfl,by kernel_rfl⟩,0,(c.at_+1),by kernel_rfl,by kernel_rfl,Or.inl ⟨rfl,HH.out.2.1.put (y:=num 1) hf2 (by simp [HH.out.2.2.1]) hia2 (num_ok (bit_ok true)) HH.out.2.2.2⟩⟩
theorem rn_same (hQ:RunQ base P kinds A0 (T+1) w0 m fb rb io ic c0 S0 n0 Q) (h:SwR base P kinds A0 T w0 m fb rb io ic c0 S0 n0 A w c S x xb ab bb cb la lc a) (ho:x.op=12):Code.wp Tryz.prog (runBr 9) Q a w:=by
 obtain ⟨ia,hia,hia2⟩:=Reg.nat (h.sw.hat.ok.ra (by simp [ho]));have hia0:(0:Int)≤(ia:Int):=by omega
 have hia1:(ia:Int)<16:=by omega
 obtain ⟨ib,hib,hib2⟩:=Reg.nat (h.sw.hat.ok.rb (by simp [ho]));have hib0:(0:Int)≤(ib:Int):=by omega
 have hib1:(ib:Int)<16:=by omega
 obtain ⟨ic,hic,hic2⟩:=Reg.nat (h.sw.hat.ok.rc (by simp [ho]));have hic0:(0:Int)≤(ic:Int):=by omega
 have hic1:(ic:Int)<16:=by omega
 have qb:=h.sw.rb_;rw [fieldW_reg (show 0≤x.b by omega) (show x.b<16 by omega),hib] at qb;have hlbb:=qb.lt;obtain ⟨bb0,bb1,bb2,bbz⟩:=row3 qb;have qc:=h.sw.rc;rw [fieldW_reg (show 0≤x.c by omega) (show x.c<16 by omega),hic] at qc;have hlcb:=qc.lt;obtain ⟨cb0,cb1,cb2,cbz⟩:=row3 qc;obtain ⟨x0,x1,x2,x3,x4,xz⟩:=row5 h.sw.rx;have hlx:=h.sw.rx.lt;have hlr:=h.sw.lp.rrb.lt;have hne:=h.ne_x;rw [hia] at x1
 have hgo:reckonsS c.inc x=if (c.reg ib).p∨(c.reg ic).p then (c.inc,11) else (c.inc.put ia (num (bitS (((c.reg ib).n == (c.reg ic).n)))),0):=by
  unfold reckonsS;rw [if_neg (by omega),if_neg (by omega),hia,hib,hic,show c.inc.reg ib=c.reg ib from rfl,show c.inc.reg ic=c.reg ic from rfl];by_cases hpp:(c.reg ib).p=true∨(c.reg ic).p=true
  · rw [if_pos hpp,if_pos hpp]
  · rw [if_neg hpp,if_neg hpp,if_neg (by omega),if_pos ho]
 rw [ho] at x0;cases hbp:(c.reg ib).p with
 | true =>
  rw [hbp] at bb0;rw [if_pos (Or.inl hbp)] at hgo;have hR:Runs P kinds c S (6,11) S.tick:=Runs.reckonsBad h.sw.hat (by omega) hgo (by decide);have HH:=Lib.hid (And.intro hQ (And.intro h hR));obtain ⟨g,g0,g6,g10,g11,g12,g13,g14,g15,g16,g17,rfl⟩:=h.frame;rw [Fr532_lit,g0,g6,g10,g11,g12,g13,g14,g15,g16,g17];clear g0 g6 g10 g11 g12 g13 g14 g15 g16 g17 hQ h ho hR hgo hbp hia hib hic qb qc
  conv=>arg 2;whnf
  go_wp2_with fail
  exact HH.out.1.ret _ _ ⟨(6,11),rfl,by kernel_rfl,by kernel_rfl,HH.out.2.1.over (Fr.refl _ _) HH.out.2.2⟩
 | false =>
  rw [hbp] at bb0;cases hcp:(c.reg ic).p with
  | true =>
   rw [hcp] at cb0;rw [if_pos (Or.inr hcp)] at hgo;have hR:Runs P kinds c S (6,11) S.tick:=Runs.reckonsBad h.sw.hat (by omega) hgo (by decide);have HH:=Lib.hid (And.intro hQ (And.intro h hR));obtain ⟨g,g0,g6,g10,g11,g12,g13,g14,g15,g16,g17,rfl⟩:=h.frame;rw [Fr532_lit,g0,g6,g10,g11,g12,g13,g14,g15,g16,g17];clear g0 g6 g10 g11 g12 g13 g14 g15 g16 g17 hQ h ho hR hgo hbp hcp hia hib hic qb qc
   conv=>arg 2;whnf
   go_wp2_with fail
   exact HH.out.1.ret _ _ ⟨(6,11),rfl,by kernel_rfl,by kernel_rfl,HH.out.2.1.over (Fr.refl _ _) HH.out.2.2⟩
  | false =>
   rw [hcp] at cb0;rw [if_neg (by rw [hbp,hcp];decide)] at hgo;have hR:∀ r S'',Runs P kinds (c.inc.put ia (num (bitS (((c.reg ib).n == (c.reg ic).n))))) S.tick r S''→Runs P kinds c S r S'':=fun r S'' k=>Runs.reckons h.sw.hat (by omega) hgo k;generalize hvv:((c.reg ib).n == (c.reg ic).n)=bv at *;have hne2:¬ bb=rb∧¬ cb=rb:=⟨fun e=>h.sw.ne.2.1 e.symm,fun e=>h.sw.ne.2.2.1 e.symm⟩;cases bv
   · have HH:=Lib.hid (And.intro hQ (And.intro h (And.intro ho hR)));obtain ⟨g,g0,g6,g10,g11,g12,g13,g14,g15,g16,g17,rfl⟩:=h.frame;rw [Fr532_lit,g0,g6,g10,g11,g12,g13,g14,g15,g16,g17];clear g0 g6 g10 g11 g12 g13 g14 g15 g16 g17 hQ h ho hR hgo hbp hcp hia hib hic qb qc
     conv=>arg 2;whnf
     go_wp2_with fail
     have cW:=@Mix.cls_drew w [xb,bb,cb];refine Mix.wp_region_mix [2,4,8,10,15,19,21] [(0,0),(0,1),(1,2),(0,3),(1,4),(0,5),(0,6),(0,7),(1,8),(0,9),(1,10),(0,11),(0,12),(0,13),(0,14),(1,15),(0,16),(0,17),(0,18),(1,19),(0,20),(1,21),(0,22),(0,23),(0,24),(2,25),(2,26),(0,27),(2,28)] (fun V=>∃ g,V=Mix.upon w [xb,bb,cb] g) (by kernel_rfl) (by kernel_rfl) cW ?_;clear cW;refine Mix.Wq.out ?_;repeat (first|((first|refine Mix.q_pure rfl rfl ?_|refine Mix.q_load rfl rfl ?_);intro K hK;simp only [nA,nB,nC];go_big_quiet_op;go_big_quiet_on)|((first|refine Mix.q_skip0 rfl rfl ?_|refine Mix.q_skip1 rfl rfl ?_|refine Mix.q_skip2 rfl rfl ?_);simp only [nA,nB,nC];simp only [Act.put,List.setIfInBounds_toArray,List.set_cons_succ,List.set_cons_zero]))
     refine Mix.q_eff rfl rfl ?_;intro K hK;simp only [nA,nB,nC];go_simp;refine (nbit_f _).mono ?_;rintro e1 w1 ⟨rfl,hf⟩;refine hK _ _ ⟨Mix.cls_fr (D:=Non) hf (by simp [Non];omega),?_⟩;clear hK K;have hf1:Fr Non w w1:=Fr.trans (by exact (Fr.refl _ _).drew) hf;have hs1:=hf1.size;clear hf;refine Mix.q_eff rfl rfl ?_;intro K hK;simp only [nA,nB,nC];go_simp;refine (nnum_c _ 0).mono ?_;rintro e2 w2 ⟨rfl,hf⟩;refine hK _ _ ⟨Mix.cls_fr (D:=Non) hf (by simp [Non];omega),?_⟩;clear hK K;have hf2:=hf1.trans hf;obtain ⟨v0,v1,v2,vz⟩:=(HH.out.2.1.sw.lp.non hf2).cells hia2;have hs2:=hf2.size;have hlr1:rb<w2.heap.size:=by omega
     clear hf;repeat (first|((first|refine Mix.q_pure rfl rfl ?_|refine Mix.q_load rfl rfl ?_);intro K hK;simp only [nA,nB,nC];go_big_quiet_op;go_big_quiet_on)|((first|refine Mix.q_skip0 rfl rfl ?_|refine Mix.q_skip1 rfl rfl ?_|refine Mix.q_skip2 rfl rfl ?_);simp only [nA,nB,nC];simp only [Act.put,List.setIfInBounds_toArray,List.set_cons_succ,List.set_cons_zero]))
     refine Mix.q_eff rfl rfl ?_;intro K hK;simp only [nA,nB,nC];go_simp;refine hK _ _ ⟨Mix.cls_fr (D:=fun y=>y=rb) (Fr.set3 _ _ _ _ _ _ _ _) (by simp;omega),?_⟩;clear hK K;refine ⟨Mix.S_done ?_⟩
     (try simp only [Act.put,List.setIfInBounds_toArray,List.set_cons_succ,List.set_cons_zero])
     refine HH.out.1.on _ _ ⟨⟨by kernel_rfl,by kernel_rfl,by kernel_rfl,by kernel_rfl,by kernel_rfl,by kernel_rfl⟩,0,(c.at_+1),by kernel_rfl,by kernel_rfl,Or.inl ⟨rfl,HH.out.2.1.put (y:=num 0) hf2 (by simp [HH.out.2.2.1]) hia2 (num_ok (bit_ok false)) HH.out.2.2.2⟩⟩
   · have HH:=Lib.hid (And.intro hQ (And.intro h (And.intro ho hR)));obtain ⟨g,g0,g6,g10,g11,g12,g13,g14,g15,g16,g17,rfl⟩:=h.frame;rw [Fr532_lit,g0,g6,g10,g11,g12,g13,g14,g15,g16,g17];clear g0 g6 g10 g11 g12 g13 g14 g15 g16 g17 hQ h ho hR hgo hbp hcp hia hib hic qb qc
     conv=>arg 2;whnf
     go_wp2_with fail
     have cW:=@Mix.cls_drew w [xb,bb,cb];refine Mix.wp_region_mix [2,4,8,10,15,19,21] [(0,0),(0,1),(1,2),(0,3),(1,4),(0,5),(0,6),(0,7),(1,8),(0,9),(1,10),(0,11),(0,12),(0,13),(0,14),(1,15),(0,16),(0,17),(0,18),(1,19),(0,20),(1,21),(0,22),(0,23),(0,24),(2,25),(2,26),(0,27),(2,28)] (fun V=>∃ g,V=Mix.upon w [xb,bb,cb] g) (by kernel_rfl) (by kernel_rfl) cW ?_;clear cW;refine Mix.Wq.out ?_;repeat (first|((first|refine Mix.q_pure rfl rfl ?_|refine Mix.q_load rfl rfl ?_);intro K hK;simp only [nA,nB,nC];go_big_quiet_op;go_big_quiet_on)|((first|refine Mix.q_skip0 rfl rfl ?_|refine Mix.q_skip1 rfl rfl ?_|refine Mix.q_skip2 rfl rfl ?_);simp only [nA,nB,nC];simp only [Act.put,List.setIfInBounds_toArray,List.set_cons_succ,List.set_cons_zero]))
     refine Mix.q_eff rfl rfl ?_;intro K hK;simp only [nA,nB,nC];go_simp;refine (nbit_t _).mono ?_;rintro e1 w1 ⟨rfl,hf⟩;refine hK _ _ ⟨Mix.cls_fr (D:=Non) hf (by simp [Non];omega),?_⟩;clear hK K;have hf1:Fr Non w w1:=Fr.trans (by exact (Fr.refl _ _).drew) hf;have hs1:=hf1.size;clear hf;refine Mix.q_eff rfl rfl ?_;intro K hK;simp only [nA,nB,nC];go_simp;refine (nnum_c _ 1).mono ?_;rintro e2 w2 ⟨rfl,hf⟩;refine hK _ _ ⟨Mix.cls_fr (D:=Non) hf (by simp [Non];omega),?_⟩;clear hK K;have hf2:=hf1.trans hf;obtain ⟨v0,v1,v2,vz⟩:=(HH.out.2.1.sw.lp.non hf2).cells hia2;have hs2:=hf2.size;have hlr1:rb<w2.heap.size:=by omega
     clear hf;repeat (first|((first|refine Mix.q_pure rfl rfl ?_|refine Mix.q_load rfl rfl ?_);intro K hK;simp only [nA,nB,nC];go_big_quiet_op;go_big_quiet_on)|((first|refine Mix.q_skip0 rfl rfl ?_|refine Mix.q_skip1 rfl rfl ?_|refine Mix.q_skip2 rfl rfl ?_);simp only [nA,nB,nC];simp only [Act.put,List.setIfInBounds_toArray,List.set_cons_succ,List.set_cons_zero]))
     refine Mix.q_eff rfl rfl ?_;intro K hK;simp only [nA,nB,nC];go_simp;refine hK _ _ ⟨Mix.cls_fr (D:=fun y=>y=rb) (Fr.set3 _ _ _ _ _ _ _ _) (by simp;omega),?_⟩;clear hK K;refine ⟨Mix.S_done ?_⟩
     (try simp only [Act.put,List.setIfInBounds_toArray,List.set_cons_succ,List.set_cons_zero])
     refine HH.out.1.on _ _ ⟨⟨by kernel_rfl,by kernel_rfl,by kernel_rfl,by kernel_rfl,by kernel_rfl,by kernel_rfl⟩,0,(c.at_+1),by kernel_rfl,by kernel_rfl,Or.inl ⟨rfl,HH.out.2.1.put (y:=num 1) hf2 (by simp [HH.out.2.2.1]) hia2 (num_ok (bit_ok true)) HH.out.2.2.2⟩⟩
end
end Go.Proofs.YtlbomnbpahmphaaGreat
