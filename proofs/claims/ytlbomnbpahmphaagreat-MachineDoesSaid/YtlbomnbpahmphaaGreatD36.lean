/- Walks: the document's 'run': start, jump, if, table. Conditions: the machine lies there; what stands where an instruction is looked at. Printed by genrunb.py. -/
import Derived.Test.YtlbomnbpahmphaaGreatD33
set_option maxRecDepth 100000
set_option maxHeartbeats 600000
namespace Go.Proofs.YtlbomnbpahmphaaGreat
open Go.RowKit
section
variable {base:Nat} {P:Pr} {kinds:List Int} {A0 A:Nat→Prop} {T:Nat} {w0 w:World} {m fb rb:Nat} {io:Option Addr} {ic:Nat} {c0 c:Cl} {S0 S:St} {x:In} {xb ab bb cb:Nat} {la:Option Addr} {lc n0:Nat} {Q:Exit→Act→World→Prop} {a:Act}
theorem rn_start (hQ:RunQ base P kinds A0 (T+1) w0 m fb rb io ic c0 S0 n0 Q) (h:SwR base P kinds A0 T w0 m fb rb io ic c0 S0 n0 A w c S x xb ab bb cb la lc a) (ho:x.op=22):Code.wp Tryz.prog (runBr 17) Q a w:=by
 obtain ⟨ia,hia,hia2⟩:=Reg.nat (h.sw.hat.ok.ra (by simp [ho]));have hia0:(0:Int)≤(ia:Int):=by omega
 have hia1:(ia:Int)<16:=by omega
 obtain ⟨x0,x1,x2,x3,x4,xz⟩:=row5 h.sw.rx;have hlx:=h.sw.rx.lt;have hlr:=h.sw.lp.rrb.lt;have hne:=h.ne_x;obtain ⟨Y,hI⟩:=h.sw.lp.inv;have c2:=hI.c2;have hlm:=hI.mlt;rw [hia] at x1;obtain ⟨hc0,hc1⟩:=h.sw.hat.ok.co ho;obtain ⟨i,hib⟩:=Int.eq_ofNat_of_zero_le hc0;have hil:i<P.cos.length:=by omega
 rw [hib] at x2;have hS:=Lib.hid fun w1 (f:Fr Non w w1)=>nframe_c (hI.frN f) h.max hil;have hxb:=(h.sw.hat.hc.ins h.sw.hat.hP h.sw.hat.hx).2.2.1;have hw:wordsS P S.mem c.inc x=((frameS P S.mem i).1,c.inc.put ia (frameS P S.mem i).2.1,(frameS P S.mem i).2.2):=by unfold wordsS;rw [if_neg (by omega),if_neg (by omega),if_neg (by omega),if_neg (by omega),if_neg (by omega),if_neg (by omega),if_neg (by omega),if_neg (by omega),if_neg (by omega),if_neg (by omega),if_pos ho,hia,hib]
 have hft:=frame_fits (P:=P) h.sw.hat.hm (co:=(i:Int)) (by rw [← hib];exact hxb);have hmm:S.tick.mem=S.mem:=rfl;rw [hmm] at hS;generalize frameS P S.mem i=R at *;obtain ⟨M',⟨yp,ya,yn⟩,er⟩:=R;have hR0:er=0→∀ r S'',Runs P kinds (c.inc.put ia ⟨yp,ya,yn⟩) { S.tick with mem:=M' } r S''→Runs P kinds c S r S'':=fun e r S'' k=>Runs.words h.sw.hat (by simp [ho]) (by rw [hw,e]) k;have hR1:er≠0→Runs P kinds c S (outR er) { S.tick with mem:=M' }:=fun e=>Runs.wordsBad h.sw.hat (by simp [ho]) hw e;simp only at hS hft;have hAt:=fun (w1:World) (hA:NAft base P A (T+1) w w1 m { S.tick with mem:=M' })=>h.after hA hft.1 rfl;have hnx:=h.sw.nx.1;have HH:=Lib.hid (And.intro hQ (And.intro h (And.intro ho (And.intro hR0 (And.intro hR1 (And.intro hAt (And.intro hft.2 hnx)))))));obtain ⟨g,g0,g6,g10,g11,g12,g13,g14,g15,g16,g17,rfl⟩:=h.frame;rw [Fr532_lit,g0,g6,g10,g11,g12,g13,g14,g15,g16,g17];clear g0 g6 g10 g11 g12 g13 g14 g15 g16 g17 hQ h ho hR0 hR1 hAt hft hw hI hia hib hc0 hc1 hmm hxb hnx
 conv=>arg 2;whnf
 have cW:=@Mix.cls_drew w [xb];refine Mix.wp_region_mix [2,5] [(0,0),(0,1),(1,2),(0,3),(0,4),(1,5),(2,6),(0,7),(0,8),(0,9),(0,10),(2,11),(0,12)] (fun V=>∃ g,V=Mix.upon w [xb] g) (by kernel_rfl) (by kernel_rfl) cW ?_;clear cW;repeat (first|((first|refine Mix.qa ?_|refine Mix.qb ?_);intro K hK;simp only [nA,nB,nC];go_big_quiet_op;go_big_quiet_on)|refine Mix.qc ?_|refine Mix.qd ?_)
 refine Mix.S_eff rfl rfl ?_;intro K hK;simp only [nA,nB,nC];go_simp;refine (hS.out _ (by exact (Fr.refl _ _).drew)).mono ?_;rintro e1 w1 ⟨rfl,hA1⟩;have hA2:=NAft.ahead (by exact (Fr.refl Non w).drew) hlm hA1;obtain ⟨A',hl,hsb,hfr⟩:=HH.out.2.2.2.2.2.1 w1 hA2;refine hK _ _ ⟨Mix.cls_fr (D:=A) (w:=w.drew) ⟨hfr.os,hfr.tape,hfr.output,hfr.size,hfr.keep⟩ (by simp;exact ⟨by omega,HH.out.2.2.2.2.2.2.2⟩),?_⟩;clear hK K;obtain ⟨v0,v1,v2,vz⟩:=hl.cells hia2;have hlr1:=hl.rrb.lt;have hs1:=hfr.size;have HL:=Lib.hid hl;clear hA1 hA2 hl hsb hfr;repeat (first|((first|refine Mix.qa ?_|refine Mix.qb ?_);intro K hK;simp only [nA,nB,nC];go_big_quiet_op;go_big_quiet_on)|refine Mix.qc ?_|refine Mix.qd ?_)
 refine Mix.S_eff rfl rfl ?_;intro K hK;simp only [nA,nB,nC];go_simp;refine hK _ _ ⟨Mix.cls_fr (D:=fun y=>y=rb) (Fr.set3 _ _ _ _ _ _ _ _) (by simp;omega),?_⟩;clear hK K;repeat (first|((first|refine Mix.qa ?_|refine Mix.qb ?_);intro K hK;simp only [nA,nB,nC];go_big_quiet_op;go_big_quiet_on)|refine Mix.qc ?_|refine Mix.qd ?_)
 refine Mix.S_done ?_
 (try simp only [Act.put,List.setIfInBounds_toArray,List.set_cons_succ,List.set_cons_zero])
 by_cases her:er=0
 · subst her;refine HH.out.1.on _ _ ⟨⟨by kernel_rfl,by kernel_rfl,by kernel_rfl,by kernel_rfl,by kernel_rfl,by kernel_rfl⟩,0,(c.at_+1),by kernel_rfl,by kernel_rfl,Or.inl ⟨rfl,HH.out.2.1.memPut (y:=⟨yp,ya,yn⟩) HL.out (Int.le_refl _) (by simp [HH.out.2.2.1]) hia2 HH.out.2.2.2.2.2.2.1 (HH.out.2.2.2.1 rfl)⟩⟩
 · refine HH.out.1.on _ _ ⟨⟨by kernel_rfl,by kernel_rfl,by kernel_rfl,by kernel_rfl,by kernel_rfl,by kernel_rfl⟩,er,(c.at_+1),by kernel_rfl,by kernel_rfl,Or.inr ⟨her,HH.out.2.1.bad (HL.out.reg (y:=⟨yp,ya,yn⟩) hia2 HH.out.2.2.2.2.2.2.1) (HH.out.2.2.2.2.1 her)⟩⟩
theorem rn_jump (hQ:RunQ base P kinds A0 (T+1) w0 m fb rb io ic c0 S0 n0 Q) (h:SwR base P kinds A0 T w0 m fb rb io ic c0 S0 n0 A w c S x xb ab bb cb la lc a) (ho:x.op=13):Code.wp Tryz.prog (runBr 10) Q a w:=by
 obtain ⟨x0,x1,x2,x3,x4,xz⟩:=row5 h.sw.rx;have hlx:=h.sw.rx.lt;have hlr:=h.sw.lp.rrb.lt;have hne:=h.ne_x;have hl0:=h.sw.hat.ok.lab (by simp [ho]);obtain ⟨n,hn⟩:∃ n,x.l[0]?=some n:=⟨x.l[0],List.getElem?_eq_getElem hl0⟩;have hn2:=h.sw.hat.ok.tO n (List.mem_of_getElem? hn);have hnl:x.lab 0=n:=by unfold In.lab;rw [List.getD_eq_getElem?_getD,show (0:Int).toNat=0 from rfl,hn];rfl
 obtain ⟨lb,lo,hla,hcl⟩:=h.sw.il 0 n hn;rw [hla] at x4;have cl:=hcl.2;rw [Nat.add_zero] at cl;have hll:=World.block_lt_of_cell? w _ cl;have hl1:(0:Int)<(x.l.length:Int):=by omega
 have hR:∀ r S'',Runs P kinds { c with at_:=n } S.tick r S''→Runs P kinds c S r S'':=fun r S'' k=>Runs.reckons h.sw.hat (by omega) (by unfold reckonsS;rw [if_pos ho,hnl];rfl) k;have HH:=Lib.hid (And.intro hQ (And.intro h (And.intro ho (And.intro hR hn2))));obtain ⟨g,g0,g6,g10,g11,g12,g13,g14,g15,g16,g17,rfl⟩:=h.frame;rw [Fr532_lit,g0,g6,g10,g11,g12,g13,g14,g15,g16,g17];clear g0 g6 g10 g11 g12 g13 g14 g15 g16 g17 hQ h ho hR hn2 hl0 hn hnl hla hcl
 conv=>arg 2;whnf
 go_wp2_with fail
 refine HH.out.1.on _ _ ⟨⟨by kernel_rfl,by kernel_rfl,by kernel_rfl,by kernel_rfl,by kernel_rfl,by kernel_rfl⟩,0,n,by kernel_rfl,by kernel_rfl,Or.inl ⟨rfl,HH.out.2.1.jump (by exact (Fr.refl _ _)) HH.out.2.2.2.2.1 HH.out.2.2.2.2.2 HH.out.2.2.2.1⟩⟩
theorem rn_if (hQ:RunQ base P kinds A0 (T+1) w0 m fb rb io ic c0 S0 n0 Q) (h:SwR base P kinds A0 T w0 m fb rb io ic c0 S0 n0 A w c S x xb ab bb cb la lc a) (ho:x.op=14):Code.wp Tryz.prog (runBr 11) Q a w:=by
 obtain ⟨ia,hia,hia2⟩:=Reg.nat (h.sw.hat.ok.ra (by simp [ho]));have hia0:(0:Int)≤(ia:Int):=by omega
 have hia1:(ia:Int)<16:=by omega
 have qa:=h.sw.ra;rw [fieldW_reg (show 0≤x.a by omega) (show x.a<16 by omega),hia] at qa;have hlab:=qa.lt;obtain ⟨ab0,ab1,ab2,abz⟩:=row3 qa;obtain ⟨x0,x1,x2,x3,x4,xz⟩:=row5 h.sw.rx;have hlx:=h.sw.rx.lt;have hlr:=h.sw.lp.rrb.lt;have hne:=h.ne_x;have hl0:=h.sw.hat.ok.lab (by simp [ho]);obtain ⟨n,hn⟩:∃ n,x.l[0]?=some n:=⟨x.l[0],List.getElem?_eq_getElem hl0⟩;have hn2:=h.sw.hat.ok.tO n (List.mem_of_getElem? hn);have hnl:x.lab 0=n:=by unfold In.lab;rw [List.getD_eq_getElem?_getD,show (0:Int).toNat=0 from rfl,hn];rfl
 obtain ⟨lb,lo,hla,hcl⟩:=h.sw.il 0 n hn;rw [hla] at x4;have cl:=hcl.2;rw [Nat.add_zero] at cl;have hll:=World.block_lt_of_cell? w _ cl;have hl1:(0:Int)<(x.l.length:Int):=by omega
 have hgo:reckonsS c.inc x=goesS c.inc x:=by unfold reckonsS;rw [if_neg (by omega),if_pos (Or.inl ho)]
 unfold goesS at hgo;rw [hia,show c.inc.reg ia=c.reg ia from rfl] at hgo;cases hap:(c.reg ia).p with
 | true =>
  rw [hap] at ab0;rw [if_pos hap] at hgo;have hR:Runs P kinds c S (6,11) S.tick:=Runs.reckonsBad h.sw.hat (by omega) hgo (by decide);have HH:=Lib.hid (And.intro hQ (And.intro h hR));obtain ⟨g,g0,g6,g10,g11,g12,g13,g14,g15,g16,g17,rfl⟩:=h.frame;rw [Fr532_lit,g0,g6,g10,g11,g12,g13,g14,g15,g16,g17];clear g0 g6 g10 g11 g12 g13 g14 g15 g16 g17 hQ h ho hR hn2 hgo hap hia qa hl0 hn hnl hla hcl
  conv=>arg 2;whnf
  go_wp2_with fail
  exact HH.out.1.ret _ _ ⟨(6,11),rfl,by kernel_rfl,by kernel_rfl,HH.out.2.1.over (Fr.refl _ _) HH.out.2.2⟩
 | false =>
  rw [hap] at ab0;rw [if_neg (by rw [hap];decide)] at hgo;by_cases hz:(c.reg ia).n=0
  · rw [if_neg (fun e=>e.2 hz),if_pos ho] at hgo;rw [hz] at ab2;have hR:∀ r S'',Runs P kinds c.inc S.tick r S''→Runs P kinds c S r S'':=fun r S'' k=>Runs.reckons h.sw.hat (by omega) hgo k;have HH:=Lib.hid (And.intro hQ (And.intro h (And.intro ho hR)));obtain ⟨g,g0,g6,g10,g11,g12,g13,g14,g15,g16,g17,rfl⟩:=h.frame;rw [Fr532_lit,g0,g6,g10,g11,g12,g13,g14,g15,g16,g17];clear g0 g6 g10 g11 g12 g13 g14 g15 g16 g17 hQ h ho hR hn2 hgo hap hia qa hz hl0 hn hnl hla hcl
    conv=>arg 2;whnf
    go_wp2_with fail
    refine HH.out.1.on _ _ ⟨⟨by kernel_rfl,by kernel_rfl,by kernel_rfl,by kernel_rfl,by kernel_rfl,by kernel_rfl⟩,0,(c.at_+1),by kernel_rfl,by kernel_rfl,Or.inl ⟨rfl,HH.out.2.1.jump (by exact (Fr.refl _ _)) (HH.out.2.1.sw.hat.nx (by simp [HH.out.2.2.1])).1 (HH.out.2.1.sw.hat.nx (by simp [HH.out.2.2.1])).2 HH.out.2.2.2⟩⟩
  · rw [if_pos ⟨ho,hz⟩,hnl] at hgo;have hzb:((c.reg ia).n != 0)=true:=by simpa using hz
    have hR:∀ r S'',Runs P kinds { c with at_:=n } S.tick r S''→Runs P kinds c S r S'':=fun r S'' k=>Runs.reckons h.sw.hat (by omega) hgo k;have HH:=Lib.hid (And.intro hQ (And.intro h (And.intro ho (And.intro hR hn2))));obtain ⟨g,g0,g6,g10,g11,g12,g13,g14,g15,g16,g17,rfl⟩:=h.frame;rw [Fr532_lit,g0,g6,g10,g11,g12,g13,g14,g15,g16,g17];clear g0 g6 g10 g11 g12 g13 g14 g15 g16 g17 hQ h ho hR hn2 hgo hap hia qa hz hl0 hn hnl hla hcl
    conv=>arg 2;whnf
    go_wp2_with fail
    refine HH.out.1.on _ _ ⟨⟨by kernel_rfl,by kernel_rfl,by kernel_rfl,by kernel_rfl,by kernel_rfl,by kernel_rfl⟩,0,n,by kernel_rfl,by kernel_rfl,Or.inl ⟨rfl,HH.out.2.1.jump (by exact (Fr.refl _ _)) HH.out.2.2.2.2.1 HH.out.2.2.2.2.2 HH.out.2.2.2.1⟩⟩
theorem rn_table (hQ:RunQ base P kinds A0 (T+1) w0 m fb rb io ic c0 S0 n0 Q) (h:SwR base P kinds A0 T w0 m fb rb io ic c0 S0 n0 A w c S x xb ab bb cb la lc a) (ho:x.op=15):Code.wp Tryz.prog (runBr 12) Q a w:=by
 obtain ⟨ia,hia,hia2⟩:=Reg.nat (h.sw.hat.ok.ra (by simp [ho]));have hia0:(0:Int)≤(ia:Int):=by omega
 have hia1:(ia:Int)<16:=by omega
 have qa:=h.sw.ra;rw [fieldW_reg (show 0≤x.a by omega) (show x.a<16 by omega),hia] at qa;have hlab:=qa.lt;obtain ⟨ab0,ab1,ab2,abz⟩:=row3 qa;obtain ⟨x0,x1,x2,x3,x4,xz⟩:=row5 h.sw.rx;have hlx:=h.sw.rx.lt;have hlr:=h.sw.lp.rrb.lt;have hne:=h.ne_x;have hgo:reckonsS c.inc x=goesS c.inc x:=by unfold reckonsS;rw [if_neg (by omega),if_pos (Or.inr ho)]
 unfold goesS at hgo;rw [hia,show c.inc.reg ia=c.reg ia from rfl] at hgo;cases hap:(c.reg ia).p with
 | true =>
  rw [hap] at ab0;rw [if_pos hap] at hgo;have hR:Runs P kinds c S (6,11) S.tick:=Runs.reckonsBad h.sw.hat (by omega) hgo (by decide);have HH:=Lib.hid (And.intro hQ (And.intro h hR));obtain ⟨g,g0,g6,g10,g11,g12,g13,g14,g15,g16,g17,rfl⟩:=h.frame;rw [Fr532_lit,g0,g6,g10,g11,g12,g13,g14,g15,g16,g17];clear g0 g6 g10 g11 g12 g13 g14 g15 g16 g17 hQ h ho hR hgo hap hia qa
  conv=>arg 2;whnf
  go_wp2_with fail
  exact HH.out.1.ret _ _ ⟨(6,11),rfl,by kernel_rfl,by kernel_rfl,HH.out.2.1.over (Fr.refl _ _) HH.out.2.2⟩
 | false =>
  rw [hap] at ab0;rw [if_neg (by rw [hap];decide),if_neg (by omega),if_neg (by omega)] at hgo;by_cases hneg:(c.reg ia).n<0
  · have d0:decide ((c.reg ia).n<0)=true:=decide_eq_true hneg;rw [if_pos (Or.inl hneg)] at hgo;have hR:Runs P kinds c S (6,31) S.tick:=Runs.reckonsBad h.sw.hat (by omega) hgo (by decide);have HH:=Lib.hid (And.intro hQ (And.intro h hR));obtain ⟨g,g0,g6,g10,g11,g12,g13,g14,g15,g16,g17,rfl⟩:=h.frame;rw [Fr532_lit,g0,g6,g10,g11,g12,g13,g14,g15,g16,g17];clear g0 g6 g10 g11 g12 g13 g14 g15 g16 g17 hQ h ho hR hgo hap hia qa hneg
    conv=>arg 2;whnf
    go_wp2_with fail
    exact HH.out.1.ret _ _ ⟨(6,31),rfl,by kernel_rfl,by kernel_rfl,HH.out.2.1.over (Fr.refl _ _) HH.out.2.2⟩
  · have d0:decide ((c.reg ia).n<0)=false:=decide_eq_false hneg;by_cases hbig:(x.l.length:Int)≤(c.reg ia).n
    · have d1:decide ((x.l.length:Int)≤(c.reg ia).n)=true:=decide_eq_true hbig;rw [if_pos (Or.inr hbig)] at hgo;have hR:Runs P kinds c S (6,31) S.tick:=Runs.reckonsBad h.sw.hat (by omega) hgo (by decide);have HH:=Lib.hid (And.intro hQ (And.intro h hR));obtain ⟨g,g0,g6,g10,g11,g12,g13,g14,g15,g16,g17,rfl⟩:=h.frame;rw [Fr532_lit,g0,g6,g10,g11,g12,g13,g14,g15,g16,g17];clear g0 g6 g10 g11 g12 g13 g14 g15 g16 g17 hQ h ho hR hgo hap hia qa hneg hbig
      conv=>arg 2;whnf
      go_wp2_with fail
      exact HH.out.1.ret _ _ ⟨(6,31),rfl,by kernel_rfl,by kernel_rfl,HH.out.2.1.over (Fr.refl _ _) HH.out.2.2⟩
    · have d1:decide ((x.l.length:Int)≤(c.reg ia).n)=false:=decide_eq_false hbig;rw [if_neg (by omega)] at hgo;obtain ⟨j,hj⟩:=Int.eq_ofNat_of_zero_le (show 0≤(c.reg ia).n by omega);have hjl:j<x.l.length:=by omega
      obtain ⟨n,hn⟩:∃ n,x.l[j]?=some n:=⟨x.l[j],List.getElem?_eq_getElem hjl⟩;have hn2:=h.sw.hat.ok.tO n (List.mem_of_getElem? hn);have hnl:x.lab (c.reg ia).n=n:=by unfold In.lab;rw [List.getD_eq_getElem?_getD,hj,Int.toNat_natCast,hn];rfl
      obtain ⟨lb,lo,hla,hcl⟩:=h.sw.il j n hn;rw [hla] at x4;rw [hj] at ab2 d0 d1;have cl:=hcl.2;have hll:=World.block_lt_of_cell? w _ cl;have hl1:(j:Int)<(x.l.length:Int):=by omega
      have hl2:(0:Int)≤(j:Int):=by omega
      rw [hnl] at hgo;have hR:∀ r S'',Runs P kinds { c with at_:=n } S.tick r S''→Runs P kinds c S r S'':=fun r S'' k=>Runs.reckons h.sw.hat (by omega) hgo k;have HH:=Lib.hid (And.intro hQ (And.intro h (And.intro ho (And.intro hR hn2))));obtain ⟨g,g0,g6,g10,g11,g12,g13,g14,g15,g16,g17,rfl⟩:=h.frame;rw [Fr532_lit,g0,g6,g10,g11,g12,g13,g14,g15,g16,g17];clear g0 g6 g10 g11 g12 g13 g14 g15 g16 g17 hQ h ho hR hn2 hgo hap hia qa hneg hbig hj hn hnl hla hcl
      conv=>arg 2;whnf
      go_wp2_with fail
      refine HH.out.1.on _ _ ⟨⟨by kernel_rfl,by kernel_rfl,by kernel_rfl,by kernel_rfl,by kernel_rfl,by kernel_rfl⟩,0,n,by kernel_rfl,by kernel_rfl,Or.inl ⟨rfl,HH.out.2.1.jump (by exact (Fr.refl _ _)) HH.out.2.2.2.2.1 HH.out.2.2.2.2.2 HH.out.2.2.2.1⟩⟩
end
end Go.Proofs.YtlbomnbpahmphaaGreat
