/- Walks: the document's 'run': wait, return, abort, end. Conditions: the machine lies there; what stands where an instruction is looked at. Printed by genrunb.py. -/
import Derived.Test.YtlbomnbpahmphaaGreatD33
import Derived.Test.YtlbomnbpahmphaaGreatD31
set_option maxRecDepth 100000
set_option maxHeartbeats 600000
namespace Go.Proofs.YtlbomnbpahmphaaGreat
open Go.RowKit
section
variable {base:Nat} {P:Pr} {kinds:List Int} {A0 A:Nat→Prop} {T:Nat} {w0 w:World} {m fb rb:Nat} {io:Option Addr} {ic:Nat} {c0 c:Cl} {S0 S:St} {x:In} {xb ab bb cb:Nat} {la:Option Addr} {lc n0:Nat} {Q:Exit→Act→World→Prop} {a:Act}
theorem evOf_ok {l:List (Int × Int)} {k n:Int} (h:evOf l k=some n) (hl:∀ y∈l,I64 y.2):I64 n:=by
 unfold evOf at h;cases hf:l.find? fun e=>e.1 == k with
 | none=>rw [hf] at h;cases h
 | some y =>
  rw [hf] at h;have:=hl y (List.mem_of_find?_eq_some hf);rw [show y.2=n from Option.some.inj h] at this;exact this
theorem rn_wait (hQ:RunQ base P kinds A0 (T+1) w0 m fb rb io ic c0 S0 n0 Q) (h:SwR base P kinds A0 T w0 m fb rb io ic c0 S0 n0 A w c S x xb ab bb cb la lc a) (ho:x.op=21):Code.wp Tryz.prog (runBr 16) Q a w:=by
 obtain ⟨ia,hia,hia2⟩:=Reg.nat (h.sw.hat.ok.ra (by simp [ho]));have hia0:(0:Int)≤(ia:Int):=by omega
 have hia1:(ia:Int)<16:=by omega
 obtain ⟨ib,hib,hib2⟩:=Reg.nat (h.sw.hat.ok.rb (by simp [ho]));have hib0:(0:Int)≤(ib:Int):=by omega
 have hib1:(ib:Int)<16:=by omega
 have qb:=h.sw.rb_;rw [fieldW_reg (show 0≤x.b by omega) (show x.b<16 by omega),hib] at qb;have hlbb:=qb.lt;obtain ⟨bb0,bb1,bb2,bbz⟩:=row3 qb;obtain ⟨x0,x1,x2,x3,x4,xz⟩:=row5 h.sw.rx;have hlx:=h.sw.rx.lt;have hlr:=h.sw.lp.rrb.lt;have hne:=h.ne_x;obtain ⟨Y,hI⟩:=h.sw.lp.inv;have c2:=hI.c2;have hlm:=hI.mlt;rw [hia] at x1;cases hbp:(c.reg ib).p with
 | true =>
  rw [hbp] at bb0;have hR:Runs P kinds c S (6,11) S.tick:=Runs.waitBad h.sw.hat ho (by rw [hib];exact hbp);have HH:=Lib.hid (And.intro hQ (And.intro h hR));obtain ⟨g,g0,g6,g10,g11,g12,g13,g14,g15,g16,g17,rfl⟩:=h.frame;rw [Fr532_lit,g0,g6,g10,g11,g12,g13,g14,g15,g16,g17];clear g0 g6 g10 g11 g12 g13 g14 g15 g16 g17 hQ h ho hR hbp hia hib qb hI
  conv=>arg 2;whnf
  go_wp2_with fail
  exact HH.out.1.ret _ _ ⟨(6,11),rfl,by kernel_rfl,by kernel_rfl,HH.out.2.1.over (Fr.refl _ _) HH.out.2.2⟩
 | false =>
  rw [hbp] at bb0;have hS:=Lib.hid fun w1 (f:Fr Non w w1)=>nbrought_c (hI.frN f) (c.reg ib).n;have hev:S.tick.ev=S.ev:=rfl;rw [hev] at hS;cases hv:evOf S.ev (c.reg ib).n with
  | none =>
   rw [hv] at hS
   have hR:Runs P kinds c S (1,(c.reg ib).n) S.tick:=by
    have:=Runs.pend h.sw.hat ho (by rw [hib];exact hbp) (by rw [hib];exact hv);rw [hib] at this;exact this
   have HH:=Lib.hid (And.intro hQ (And.intro h (And.intro hR qb)));obtain ⟨g,g0,g6,g10,g11,g12,g13,g14,g15,g16,g17,rfl⟩:=h.frame;rw [Fr532_lit,g0,g6,g10,g11,g12,g13,g14,g15,g16,g17];clear g0 g6 g10 g11 g12 g13 g14 g15 g16 g17 hQ h ho hR hbp hia hib qb hI hev hv
   conv=>arg 2;whnf
   go_wp2_with fail
   refine (hS.out _ (by exact Fr.refl _ _)).mono ?_;rintro e1 w1 ⟨rfl,hf⟩;have hq:=hf.row HH.out.2.2.2 id;obtain ⟨bb0,bb1,bb2,bbz⟩:=row3 hq;have hlbb:=hq.lt;have HF:=Lib.hid hf;clear hf hq;go_wp2_with fail
   go_quiet (fail)
   go_wp2_with fail
   exact HH.out.1.ret _ _ ⟨(1,(c.reg ib).n),rfl,by kernel_rfl,by kernel_rfl,HH.out.2.1.over (by exact (HF.out.drewN _)) HH.out.2.2.1⟩
  | some n =>
   rw [hv] at hS;have hn:=evOf_ok hv h.sw.hat.he;have hR:∀ r S'',Runs P kinds (c.inc.put ia (num n)) S.tick r S''→Runs P kinds c S r S'':=fun r S'' k=>Runs.wait h.sw.hat ho (by rw [hib];exact hbp) (by rw [hib];exact hv) (by rw [hia];exact k);have hrx:=h.sw.rx;rw [hia] at hrx;have HH:=Lib.hid (And.intro hQ (And.intro h (And.intro ho (And.intro hR (And.intro hn hrx)))));obtain ⟨g,g0,g6,g10,g11,g12,g13,g14,g15,g16,g17,rfl⟩:=h.frame;rw [Fr532_lit,g0,g6,g10,g11,g12,g13,g14,g15,g16,g17];clear g0 g6 g10 g11 g12 g13 g14 g15 g16 g17 hQ h ho hR hbp hia hib qb hI hev hv hn hrx
   conv=>arg 2;whnf
   go_wp2_with fail
   refine (hS.out _ (by exact Fr.refl _ _)).mono ?_;rintro e1 w1 ⟨rfl,hf⟩;have hrx:=hf.row HH.out.2.2.2.2.2 id;obtain ⟨x0,x1,x2,x3,x4,xz⟩:=row5 hrx;have hlx:=hrx.lt;have hs1:=hf.size;have HF:=Lib.hid hf;clear hf hrx;go_wp2_with fail
   have cW:=@Mix.cls_drew w1 [xb];refine Mix.wp_region_mix [2] [(0,0),(0,1),(1,2),(0,3),(2,4),(0,5),(2,6)] (fun V=>∃ g,V=Mix.upon w1 [xb] g) (by kernel_rfl) (by kernel_rfl) cW ?_;clear cW;repeat (first|((first|refine Mix.qa ?_|refine Mix.qb ?_);intro K hK;simp only [nA,nB,nC];go_big_quiet_op;go_big_quiet_on)|refine Mix.qc ?_|refine Mix.qd ?_)
   refine Mix.S_eff rfl rfl ?_;intro K hK;simp only [nA,nB,nC];go_simp;refine (nnum_c _ n).mono ?_;rintro e2 w2 ⟨rfl,hf⟩;refine hK _ _ ⟨Mix.cls_fr (D:=Non) hf (by simp [Non];omega),?_⟩;clear hK K;have hf1:Fr Non w1 w2:=Fr.trans (by exact (Fr.refl _ _).drew) hf;have hf2:=HF.out.trans hf1;obtain ⟨v0,v1,v2,vz⟩:=(HH.out.2.1.sw.lp.non hf2).cells hia2;have hs2:=hf2.size;have hlr1:rb<w2.heap.size:=by omega
   clear hf;repeat (first|((first|refine Mix.qa ?_|refine Mix.qb ?_);intro K hK;simp only [nA,nB,nC];go_big_quiet_op;go_big_quiet_on)|refine Mix.qc ?_|refine Mix.qd ?_)
   refine Mix.S_eff rfl rfl ?_;intro K hK;simp only [nA,nB,nC];go_simp;refine hK _ _ ⟨Mix.cls_fr (D:=fun y=>y=rb) (Fr.set3 _ _ _ _ _ _ _ _) (by simp;omega),?_⟩;clear hK K;refine Mix.S_done ?_
   (try simp only [Act.put,List.setIfInBounds_toArray,List.set_cons_succ,List.set_cons_zero])
   refine HH.out.1.on _ _ ⟨⟨by kernel_rfl,by kernel_rfl,by kernel_rfl,by kernel_rfl,by kernel_rfl,by kernel_rfl⟩,0,(c.at_+1),by kernel_rfl,by kernel_rfl,Or.inl ⟨rfl,HH.out.2.1.put (y:=num n) hf2 (by simp [HH.out.2.2.1]) hia2 (num_ok HH.out.2.2.2.2.1) HH.out.2.2.2.1⟩⟩
theorem rn_return (hQ:RunQ base P kinds A0 (T+1) w0 m fb rb io ic c0 S0 n0 Q) (h:SwR base P kinds A0 T w0 m fb rb io ic c0 S0 n0 A w c S x xb ab bb cb la lc a) (ho:x.op=27):Code.wp Tryz.prog (runBr 22) Q a w:=by
 obtain ⟨Y,hI⟩:=h.sw.lp.inv;have c2:=hI.c2;have hlm:=hI.mlt;have hqm:¬ Y.Aq m:=fun e=>(hI.sep _ e).1 rfl;have hqf:¬ Y.Aq fb:=fun e=>h.sw.lp.nfb (hI.aq _ e);obtain ⟨f0,f1,f2,fz⟩:=row3 h.sw.lp.rfb;have hlf:=h.sw.lp.rfb.lt;have hS:=Lib.hid fun w1 (f:Fr Non w w1)=>qstore_j (M:=S.mem) (hI.mem.non f) hI.hB c.frame (num (-1));have hft:=store_fits h.sw.hat.hm (x:=num (-1)) (num_ok (by unfold I64;omega)) c.frame;have hln:=store_len S.mem c.frame (num (-1));generalize hst:S.mem.store c.frame (num (-1))=R at *;obtain ⟨M',er⟩:=R;have hR0:er=0→Runs P kinds c S (2,0) { S.tick with mem:=M' }:=fun e=>Runs.ends h.sw.hat (n:=-1) (k:=2) (by simp [ho]) (by rw [hst,e]);have hR1:er≠0→Runs P kinds c S (outR er) { S.tick with mem:=M' }:=fun e=>Runs.endsBad h.sw.hat (n:=-1) (by simp [ho]) hst e;simp only at hS hft hln;have hAt:=fun (D1:Nat→Prop) (w1:World) (hJ:RJ D1 (Y.B+1) w1 Y.q M') (hQ:QF Y.Aq D1 w w1)=>h.after (hI.aftOp h.max hJ hQ (by omega) (by rw [hln];exact Nat.le_succ _)) hft rfl;have HH:=Lib.hid (And.intro hQ (And.intro h (And.intro ho (And.intro hR0 (And.intro hR1 hAt)))));obtain ⟨g,g0,g6,g10,g11,g12,g13,g14,g15,g16,g17,rfl⟩:=h.frame;rw [Fr532_lit,g0,g6,g10,g11,g12,g13,g14,g15,g16,g17];clear g0 g6 g10 g11 g12 g13 g14 g15 g16 g17 hQ h ho hR0 hR1 hAt hft hln hst hI
 conv=>arg 2;whnf
 go_wp2_with fail
 have cW:=@Mix.cls_drew w [m,fb];refine Mix.wp_region_mix [3,4] [(0,0),(0,1),(0,2),(1,3),(1,4),(2,5),(2,6),(0,7)] (fun V=>∃ g,V=Mix.upon w [m,fb] g) (by kernel_rfl) (by kernel_rfl) cW ?_;clear cW;repeat (first|((first|refine Mix.qa ?_|refine Mix.qb ?_);intro K hK;simp only [nA,nB,nC];go_big_quiet_op;go_big_quiet_on)|refine Mix.qc ?_|refine Mix.qd ?_)
 refine Mix.S_eff rfl rfl ?_;intro K hK;simp only [nA,nB,nC];go_simp;refine (nnum_c _ (-1)).mono ?_;rintro e1 w1 ⟨rfl,hf⟩;refine hK _ _ ⟨Mix.cls_fr (D:=Non) hf (by simp [Non];omega),?_⟩;clear hK K;have hf1:Fr Non w w1:=Fr.trans (by exact (Fr.refl _ _).drew) hf;have hs1:=hf1.size;clear hf;refine Mix.S_eff rfl rfl ?_;intro K hK;simp only [nA,nB,nC];go_simp;refine (hS.out _ hf1).mono ?_;rintro e2 w2 ⟨rfl,D1,hJ1,hQ1⟩;refine hK _ _ ⟨Mix.cls_fr (D:=Y.Aq) hQ1.fr (by simp;exact ⟨⟨by omega,hqm⟩,⟨by omega,hqf⟩⟩),?_⟩;clear hK K;obtain ⟨A',hl,_,_⟩:=HH.out.2.2.2.2.2 D1 w2 hJ1 ((QF.non hf1).trans hQ1);have HL:=Lib.hid hl;clear hJ1 hQ1 hl;repeat (first|((first|refine Mix.qa ?_|refine Mix.qb ?_);intro K hK;simp only [nA,nB,nC];go_big_quiet_op;go_big_quiet_on)|refine Mix.qc ?_|refine Mix.qd ?_)
 refine Mix.S_done ?_
 (try simp only [Act.put,List.setIfInBounds_toArray,List.set_cons_succ,List.set_cons_zero])
 by_cases her:er=0
 · subst her;have HRr:=Lib.hid (HH.out.2.2.2.1 rfl);go_wp2_with fail
   exact HH.out.1.ret _ _ ⟨(2,0),rfl,by kernel_rfl,by kernel_rfl,HH.out.2.1.bad HL.out HRr.out⟩
 · have heb:(er == 0)=false:=beq_false_of_ne her;go_wp2_with fail
   refine HH.out.1.on _ _ ⟨⟨by kernel_rfl,by kernel_rfl,by kernel_rfl,by kernel_rfl,by kernel_rfl,by kernel_rfl⟩,er,(c.at_+1),by kernel_rfl,by kernel_rfl,Or.inr ⟨her,HH.out.2.1.bad HL.out (HH.out.2.2.2.2.1 her)⟩⟩
theorem rn_abort (hQ:RunQ base P kinds A0 (T+1) w0 m fb rb io ic c0 S0 n0 Q) (h:SwR base P kinds A0 T w0 m fb rb io ic c0 S0 n0 A w c S x xb ab bb cb la lc a) (ho:x.op=28):Code.wp Tryz.prog (runBr 23) Q a w:=by
 obtain ⟨Y,hI⟩:=h.sw.lp.inv;have c2:=hI.c2;have hlm:=hI.mlt;have hqm:¬ Y.Aq m:=fun e=>(hI.sep _ e).1 rfl;have hqf:¬ Y.Aq fb:=fun e=>h.sw.lp.nfb (hI.aq _ e);obtain ⟨f0,f1,f2,fz⟩:=row3 h.sw.lp.rfb;have hlf:=h.sw.lp.rfb.lt;have hS:=Lib.hid fun w1 (f:Fr Non w w1)=>qstore_j (M:=S.mem) (hI.mem.non f) hI.hB c.frame (num (-2));have hft:=store_fits h.sw.hat.hm (x:=num (-2)) (num_ok (by unfold I64;omega)) c.frame;have hln:=store_len S.mem c.frame (num (-2));generalize hst:S.mem.store c.frame (num (-2))=R at *;obtain ⟨M',er⟩:=R;have hR0:er=0→Runs P kinds c S (3,0) { S.tick with mem:=M' }:=fun e=>Runs.ends h.sw.hat (n:=-2) (k:=3) (by simp [ho]) (by rw [hst,e]);have hR1:er≠0→Runs P kinds c S (outR er) { S.tick with mem:=M' }:=fun e=>Runs.endsBad h.sw.hat (n:=-2) (by simp [ho]) hst e;simp only at hS hft hln;have hAt:=fun (D1:Nat→Prop) (w1:World) (hJ:RJ D1 (Y.B+1) w1 Y.q M') (hQ:QF Y.Aq D1 w w1)=>h.after (hI.aftOp h.max hJ hQ (by omega) (by rw [hln];exact Nat.le_succ _)) hft rfl;have HH:=Lib.hid (And.intro hQ (And.intro h (And.intro ho (And.intro hR0 (And.intro hR1 hAt)))));obtain ⟨g,g0,g6,g10,g11,g12,g13,g14,g15,g16,g17,rfl⟩:=h.frame;rw [Fr532_lit,g0,g6,g10,g11,g12,g13,g14,g15,g16,g17];clear g0 g6 g10 g11 g12 g13 g14 g15 g16 g17 hQ h ho hR0 hR1 hAt hft hln hst hI
 conv=>arg 2;whnf
 go_wp2_with fail
 have cW:=@Mix.cls_drew w [m,fb];refine Mix.wp_region_mix [3,4] [(0,0),(0,1),(0,2),(1,3),(1,4),(2,5),(2,6),(0,7)] (fun V=>∃ g,V=Mix.upon w [m,fb] g) (by kernel_rfl) (by kernel_rfl) cW ?_;clear cW;repeat (first|((first|refine Mix.qa ?_|refine Mix.qb ?_);intro K hK;simp only [nA,nB,nC];go_big_quiet_op;go_big_quiet_on)|refine Mix.qc ?_|refine Mix.qd ?_)
 refine Mix.S_eff rfl rfl ?_;intro K hK;simp only [nA,nB,nC];go_simp;refine (nnum_c _ (-2)).mono ?_;rintro e1 w1 ⟨rfl,hf⟩;refine hK _ _ ⟨Mix.cls_fr (D:=Non) hf (by simp [Non];omega),?_⟩;clear hK K;have hf1:Fr Non w w1:=Fr.trans (by exact (Fr.refl _ _).drew) hf;have hs1:=hf1.size;clear hf;refine Mix.S_eff rfl rfl ?_;intro K hK;simp only [nA,nB,nC];go_simp;refine (hS.out _ hf1).mono ?_;rintro e2 w2 ⟨rfl,D1,hJ1,hQ1⟩;refine hK _ _ ⟨Mix.cls_fr (D:=Y.Aq) hQ1.fr (by simp;exact ⟨⟨by omega,hqm⟩,⟨by omega,hqf⟩⟩),?_⟩;clear hK K;obtain ⟨A',hl,_,_⟩:=HH.out.2.2.2.2.2 D1 w2 hJ1 ((QF.non hf1).trans hQ1);have HL:=Lib.hid hl;clear hJ1 hQ1 hl;repeat (first|((first|refine Mix.qa ?_|refine Mix.qb ?_);intro K hK;simp only [nA,nB,nC];go_big_quiet_op;go_big_quiet_on)|refine Mix.qc ?_|refine Mix.qd ?_)
 refine Mix.S_done ?_
 (try simp only [Act.put,List.setIfInBounds_toArray,List.set_cons_succ,List.set_cons_zero])
 by_cases her:er=0
 · subst her;have HRr:=Lib.hid (HH.out.2.2.2.1 rfl);go_wp2_with fail
   exact HH.out.1.ret _ _ ⟨(3,0),rfl,by kernel_rfl,by kernel_rfl,HH.out.2.1.bad HL.out HRr.out⟩
 · have heb:(er == 0)=false:=beq_false_of_ne her;go_wp2_with fail
   refine HH.out.1.on _ _ ⟨⟨by kernel_rfl,by kernel_rfl,by kernel_rfl,by kernel_rfl,by kernel_rfl,by kernel_rfl⟩,er,(c.at_+1),by kernel_rfl,by kernel_rfl,Or.inr ⟨her,HH.out.2.1.bad HL.out (HH.out.2.2.2.2.1 her)⟩⟩
theorem rn_end (hQ:RunQ base P kinds A0 (T+1) w0 m fb rb io ic c0 S0 n0 Q) (h:SwR base P kinds A0 T w0 m fb rb io ic c0 S0 n0 A w c S x xb ab bb cb la lc a) (ho:x.op=29):Code.wp Tryz.prog (runBr 24) Q a w:=by
 have hR:=Runs.end_ h.sw.hat ho;have HH:=Lib.hid (And.intro hQ (And.intro h hR));obtain ⟨g,g0,g6,g10,g11,g12,g13,g14,g15,g16,g17,rfl⟩:=h.frame;rw [Fr532_lit,g0,g6,g10,g11,g12,g13,g14,g15,g16,g17];clear g0 g6 g10 g11 g12 g13 g14 g15 g16 g17 hQ h ho hR
 conv=>arg 2;whnf
 go_wp2_with fail
 exact HH.out.1.ret _ _ ⟨(2,0),rfl,by kernel_rfl,by kernel_rfl,HH.out.2.1.over (Fr.refl _ _) HH.out.2.2⟩
end
section
variable {base:Nat} {P:Pr} {kinds:List Int} {A0 A:Nat→Prop} {T:Nat} {w0 w:World} {m fb rb:Nat} {io:Option Addr} {ic:Nat} {c0 c:Cl} {S0 S:St} {x:In} {xb ab bb cb:Nat} {la:Option Addr} {lc n0:Nat} {Q:Exit→Act→World→Prop} {a:Act}
theorem SwR.gone (h:SwR base P kinds A0 T w0 m fb rb io ic c0 S0 n0 A w c S x xb ab bb cb la lc a) {r:Int × Int} {S':St} {w':World} (hA:NAft base P A T w w' m S') (lv:Leaves S.tick r S') :
 ∃ A',LoopS base P kinds A0 w0 m fb rb io A' (T+1) w' c S'∧Row w' xb 128 [.int .i64 x.op,.int .i64 x.a,.int .i64 x.b,.int .i64 x.c,.slice la x.l.length lc]∧(∀ (b o:Nat) (v:Value),CB base w b o v→w'.cell? ⟨b,o,none⟩=some v)∧w.heap.size≤w'.heap.size:=by
 obtain ⟨A',hl,hsub,hf⟩:=h.sw.lp.step hA lv.mem lv.ev;obtain ⟨Y,hI⟩:=h.sw.lp.inv;exact ⟨A',hl.moreT (Nat.le_succ T) h.max,hf.row h.sw.rx h.sw.nx.1,fun b o v hc=>(hc.fr hf hI.high).2,hf.size⟩
theorem rn_poll {N:Nat} (hRC:RunC base P kinds N) (hN:S.tick.fuel.toNat≤N) (hQ:RunQ base P kinds A0 (T+1) w0 m fb rb io ic c0 S0 n0 Q) (h:SwR base P kinds A0 T w0 m fb rb io ic c0 S0 n0 A w c S x xb ab bb cb la lc a) (ho:x.op=23):Code.wp Tryz.prog (runBr 18) Q a w:=by
 obtain ⟨ia,hia,hia2⟩:=Reg.nat (h.sw.hat.ok.ra (by simp [ho]));have hia0:(0:Int)≤(ia:Int):=by omega
 have hia1:(ia:Int)<16:=by omega
 have qa:=h.sw.ra;rw [fieldW_reg (show 0≤x.a by omega) (show x.a<16 by omega),hia] at qa;have hlab:=qa.lt;obtain ⟨ab0,ab1,ab2,abz⟩:=row3 qa;obtain ⟨x0,x1,x2,x3,x4,xz⟩:=row5 h.sw.rx;have hlx:=h.sw.rx.lt;have hlr:=h.sw.lp.rrb.lt;have hne:=h.ne_x;obtain ⟨Y,hI⟩:=h.sw.lp.inv;have hS:=Lib.hid (ngoOn_c h.sw.hat.hP hRC hI hN h.sw.hat.hm h.sw.hat.he (c.reg ia) (reg_ok h.sw.hat.hc.fits (ia:Int)));have hl0:=h.sw.hat.ok.lab (by simp [ho]);obtain ⟨n,hn⟩:∃ n,x.l[0]?=some n:=⟨x.l[0],List.getElem?_eq_getElem hl0⟩;have hn2:=h.sw.hat.ok.tO n (List.mem_of_getElem? hn);have hnl:x.lab 0=n:=by unfold In.lab;rw [List.getD_eq_getElem?_getD,show (0:Int).toNat=0 from rfl,hn];rfl
 obtain ⟨lb,lo,hla,hcl⟩:=h.sw.il 0 n hn;have cl:=hcl.2;rw [Nat.add_zero] at cl;have hll:=World.block_lt_of_cell? w _ cl;have hl1:(0:Int)<(x.l.length:Int):=by omega
 have hat:=h.sw.hat;have hpa:c.reg x.a=c.reg ia:=by rw [hia]
 have hE:=Lib.hid hcl;have HH:=Lib.hid (And.intro hQ (And.intro h (And.intro ho (And.intro hat (And.intro hpa (And.intro hnl (And.intro hla (And.intro hcl hn2))))))));obtain ⟨g,g0,g6,g10,g11,g12,g13,g14,g15,g16,g17,rfl⟩:=h.frame;rw [Fr532_lit,g0,g6,g10,g11,g12,g13,g14,g15,g16,g17];clear g0 g6 g10 g11 g12 g13 g14 g15 g16 g17 hQ h ho hat hpa hn2 hia qa hI hE hll cl hl0 hn hnl hla hcl
 conv=>arg 2;whnf
 go_wp2_with fail
 refine hS.out.mono ?_;rintro e1 w1 ⟨r,S1,rfl,hg,hA⟩;obtain ⟨A1,hl,hrx,hcl,hs1⟩:=HH.out.2.1.gone hA hg.lv;have HL:=Lib.hid hl;obtain ⟨x0,x1,x2,x3,x4,xz⟩:=row5 hrx;have hlx:=hrx.lt;obtain ⟨r1,r2⟩:=r;have hla:=HH.out.2.2.2.2.2.2.1;have cl:=hcl _ _ _ HH.out.2.2.2.2.2.2.2.1;rw [Nat.add_zero] at cl;have hll:=World.block_lt_of_cell? w1 _ cl;rw [hla] at x4;have HG:=Lib.hid hg;clear hl hrx hcl hla hg hA;by_cases h3:r1=3
 · subst h3;go_wp2_with fail
   refine HH.out.1.on _ _ ⟨⟨by kernel_rfl,by kernel_rfl,by kernel_rfl,by kernel_rfl,by kernel_rfl,by kernel_rfl⟩,0,n,by kernel_rfl,by kernel_rfl,Or.inl ⟨rfl,HH.out.2.1.goes (c':={ c with at_:=n }) (HL.out.goto HH.out.2.2.2.2.2.2.2.2.1 HH.out.2.2.2.2.2.2.2.2.2) HG.out.lv.fuel rfl fun r S2 k=>Runs.goAb HH.out.2.2.2.1 (Or.inl ⟨HH.out.2.2.1,HH.out.2.2.2.2.1.symm⟩) HG.out rfl (by rw [HH.out.2.2.2.2.2.1];exact k)⟩⟩
 have b3:(r1 == 3)=false:=beq_false_of_ne h3;by_cases h2:r1=2
 · subst h2;go_wp2_with fail
   refine HH.out.1.on _ _ ⟨⟨by kernel_rfl,by kernel_rfl,by kernel_rfl,by kernel_rfl,by kernel_rfl,by kernel_rfl⟩,0,(c.at_+1),by kernel_rfl,by kernel_rfl,Or.inl ⟨rfl,HH.out.2.1.mem HL.out HG.out.lv.fuel (by simp [HH.out.2.2.1]) fun r S2 k=>Runs.pollOn HH.out.2.2.2.1 HH.out.2.2.1 (by rw [HH.out.2.2.2.2.1];exact HG.out) rfl k⟩⟩
 have b2:(r1 != 2)=true:=bne_iff_ne.mpr h2;go_wp2_with fail
 exact HH.out.1.ret _ _ ⟨(r1,r2),rfl,by kernel_rfl,by kernel_rfl,HH.out.2.1.bad HL.out (Runs.goOut HH.out.2.2.2.1 (Or.inl ⟨HH.out.2.2.1,HH.out.2.2.2.2.1.symm⟩) HG.out (by have:=HG.out.lv.kind;simp only at this ⊢;by_cases e:3<r1;exact Or.inl e;exact Or.inr ⟨HH.out.2.2.1,by omega⟩))⟩
theorem rn_cancel {N:Nat} (hRC:RunC base P kinds N) (hN:S.tick.fuel.toNat≤N) (hQ:RunQ base P kinds A0 (T+1) w0 m fb rb io ic c0 S0 n0 Q) (h:SwR base P kinds A0 T w0 m fb rb io ic c0 S0 n0 A w c S x xb ab bb cb la lc a) (ho:x.op=25):Code.wp Tryz.prog (runBr 20) Q a w:=by
 obtain ⟨ia,hia,hia2⟩:=Reg.nat (h.sw.hat.ok.ra (by simp [ho]));have hia0:(0:Int)≤(ia:Int):=by omega
 have hia1:(ia:Int)<16:=by omega
 have qa:=h.sw.ra;rw [fieldW_reg (show 0≤x.a by omega) (show x.a<16 by omega),hia] at qa;have hlab:=qa.lt;obtain ⟨ab0,ab1,ab2,abz⟩:=row3 qa;obtain ⟨x0,x1,x2,x3,x4,xz⟩:=row5 h.sw.rx;have hlx:=h.sw.rx.lt;have hlr:=h.sw.lp.rrb.lt;have hne:=h.ne_x;obtain ⟨Y,hI⟩:=h.sw.lp.inv;have hS:=Lib.hid (nstop_c h.sw.hat.hP hRC hI hN h.sw.hat.hm h.sw.hat.he (c.reg ia) (reg_ok h.sw.hat.hc.fits (ia:Int)));have hat:=h.sw.hat;have hpa:c.reg x.a=c.reg ia:=by rw [hia]
 have HH:=Lib.hid (And.intro hQ (And.intro h (And.intro ho (And.intro hat hpa))));obtain ⟨g,g0,g6,g10,g11,g12,g13,g14,g15,g16,g17,rfl⟩:=h.frame;rw [Fr532_lit,g0,g6,g10,g11,g12,g13,g14,g15,g16,g17];clear g0 g6 g10 g11 g12 g13 g14 g15 g16 g17 hQ h ho hat hpa hia qa hI
 conv=>arg 2;whnf
 go_wp2_with fail
 refine hS.out.mono ?_;rintro e1 w1 ⟨r,S1,rfl,hg,hA⟩;obtain ⟨A1,hl,hrx,hcl,hs1⟩:=HH.out.2.1.gone hA hg.lv;have HL:=Lib.hid hl;obtain ⟨x0,x1,x2,x3,x4,xz⟩:=row5 hrx;have hlx:=hrx.lt;obtain ⟨r1,r2⟩:=r;have HG:=Lib.hid hg;clear hl hrx hcl hg hA;by_cases h2:r1=2
 · subst h2;go_wp2_with fail
   refine HH.out.1.on _ _ ⟨⟨by kernel_rfl,by kernel_rfl,by kernel_rfl,by kernel_rfl,by kernel_rfl,by kernel_rfl⟩,0,(c.at_+1),by kernel_rfl,by kernel_rfl,Or.inl ⟨rfl,HH.out.2.1.mem HL.out HG.out.lv.fuel (by simp [HH.out.2.2.1]) fun r S2 k=>Runs.stopOn HH.out.2.2.2.1 HH.out.2.2.1 (by rw [HH.out.2.2.2.2];exact HG.out) rfl k⟩⟩
 have b2:(r1 != 2)=true:=bne_iff_ne.mpr h2;go_wp2_with fail
 exact HH.out.1.ret _ _ ⟨(r1,r2),rfl,by kernel_rfl,by kernel_rfl,HH.out.2.1.bad HL.out (Runs.stopOut HH.out.2.2.2.1 HH.out.2.2.1 (by rw [HH.out.2.2.2.2];exact HG.out) h2)⟩
theorem rn_call {N:Nat} (hRC:RunC base P kinds N) (hN:S.tick.fuel.toNat≤N) (hQ:RunQ base P kinds A0 (T+1) w0 m fb rb io ic c0 S0 n0 Q) (h:SwR base P kinds A0 T w0 m fb rb io ic c0 S0 n0 A w c S x xb ab bb cb la lc a) (ho:x.op=26):Code.wp Tryz.prog (runBr 21) Q a w:=by
 obtain ⟨ia,hia,hia2⟩:=Reg.nat (h.sw.hat.ok.ra (by simp [ho]));have hia0:(0:Int)≤(ia:Int):=by omega
 have hia1:(ia:Int)<16:=by omega
 have qa:=h.sw.ra;rw [fieldW_reg (show 0≤x.a by omega) (show x.a<16 by omega),hia] at qa;have hlab:=qa.lt;obtain ⟨ab0,ab1,ab2,abz⟩:=row3 qa;obtain ⟨x0,x1,x2,x3,x4,xz⟩:=row5 h.sw.rx;have hlx:=h.sw.rx.lt;have hlr:=h.sw.lp.rrb.lt;have hne:=h.ne_x;have hgl:=glue_calm h.sw.hat ho;have hfx:=h.sw.hat.ok.fn ho;have hS0:=hRC A T w m S.tick x.b Wd.zero (c.reg ia) hN h.sw.lp.inv h.sw.hat.hm h.sw.hat.he hfx.1 hfx.2 (by rw [← hia,cal_glue];exact hgl.2);rw [← hia,cal_glue,hia] at hS0;have hS:=Lib.hid hS0;have hat:=h.sw.hat;have HH:=Lib.hid (And.intro hQ (And.intro h (And.intro ho hat)));obtain ⟨g,g0,g6,g10,g11,g12,g13,g14,g15,g16,g17,rfl⟩:=h.frame;rw [Fr532_lit,g0,g6,g10,g11,g12,g13,g14,g15,g16,g17];clear g0 g6 g10 g11 g12 g13 g14 g15 g16 g17 hQ h ho hat hgl hfx hS0 hia qa
 conv=>arg 2;whnf
 go_wp2_with fail
 refine hS.out.mono ?_;rintro e1 w1 ⟨r,S1,rfl,hg,hA⟩;obtain ⟨A1,hl,hrx,hcl,hs1⟩:=HH.out.2.1.gone hA hg.lv;have HL:=Lib.hid hl;obtain ⟨x0,x1,x2,x3,x4,xz⟩:=row5 hrx;have hlx:=hrx.lt;obtain ⟨r1,r2⟩:=r;have HG:=Lib.hid hg;clear hl hrx hcl hg hA;by_cases h2:r1=2
 · subst h2;go_wp2_with fail
   refine HH.out.1.on _ _ ⟨⟨by kernel_rfl,by kernel_rfl,by kernel_rfl,by kernel_rfl,by kernel_rfl,by kernel_rfl⟩,0,(c.at_+1),by kernel_rfl,by kernel_rfl,Or.inl ⟨rfl,HH.out.2.1.mem HL.out HG.out.lv.fuel (by simp [HH.out.2.2.1]) fun r S2 k=>Runs.callOn HH.out.2.2.2 HH.out.2.2.1 HG.out rfl k⟩⟩
 have b2:(r1 != 2)=true:=bne_iff_ne.mpr h2;go_wp2_with fail
 exact HH.out.1.ret _ _ ⟨(r1,r2),rfl,by kernel_rfl,by kernel_rfl,HH.out.2.1.bad HL.out (Runs.callOut HH.out.2.2.2 HH.out.2.2.1 HG.out h2)⟩
end
end Go.Proofs.YtlbomnbpahmphaaGreat
