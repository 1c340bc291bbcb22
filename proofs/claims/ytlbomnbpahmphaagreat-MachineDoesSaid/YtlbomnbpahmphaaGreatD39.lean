/- Walks: the document's 'run': print, drop, yield. Conditions: the machine lies there; what stands where an instruction is looked at. Printed by genrunb.py. -/
import Derived.Test.YtlbomnbpahmphaaGreatD33
import Derived.Test.YtlbomnbpahmphaaGreatD31
set_option maxRecDepth 100000
set_option maxHeartbeats 3000000
namespace Go.Proofs.YtlbomnbpahmphaaGreat
open Go.RowKit
section
variable {base:Nat} {P:Pr} {kinds:List Int} {A0 A:Nat→Prop} {T:Nat} {w0 w:World} {m fb rb:Nat} {io:Option Addr} {ic:Nat} {c0 c:Cl} {S0 S:St} {x:In} {xb ab bb cb:Nat} {la:Option Addr} {lc n0:Nat} {Q:Exit→Act→World→Prop} {a:Act}
theorem NL.aftTold {m:Nat} {S:St} {Y:NY} {w w2:World} (h:NL base P A T w m S Y) (hT:T+1≤400000) {tv':Value} {e:Ev} (r:Row w2 m 61 (Y.cells P S.fuel S.task)) (ho:Own w2 tv' 74 4 (S.told.length+1) (evs S.told ++ evs [e])) (f:Fr (fun y=>y=m∨Y.tv.ownBlock=some y) w w2)
 (hg:∀ y,tv'.ownBlock=some y→Y.tv.ownBlock=some y∨w.heap.size≤y):NAft base P A (T+1) w (w2.setCell ⟨m,4,none⟩ tv') m { S with told:=S.told ++ [e] }:=by
 have f2:=f.setCell (a:=⟨m,4,none⟩) (Or.inl (Or.inl rfl)) tv'
 have hup:=(h.more (Nat.le_succ T) hT).upTold (w':=w2.setCell ⟨m,4,none⟩ tv') (tv':=tv') (t':=S.told ++ [e]) (r.set_same 4 _) (by
  rw [evs_append,List.length_append]
  exact Own.fr (D:=fun y=>y=m) ho (Fr.set1 _ m 4 _) fun y hy e=>ho.ne r (by decide) (e ▸ hy)) hg f2 (by have:=h.few;rw [List.length_append,List.length_singleton];omega)
 refine ⟨_,⟨_,hup⟩,?_,f2.mono fun y _ hy=>?_,Kp.rows h.row hup.row rfl⟩
 · rintro y (hy|hy)
   · exact Or.inl hy
   · exact (hg y hy).imp (h.at_ y) id
 · rcases hy with rfl|hy
   · exact h.am
   · exact h.at_ y hy
theorem rn_yield (hQ:RunQ base P kinds A0 (T+1) w0 m fb rb io ic c0 S0 n0 Q) (h:SwR base P kinds A0 T w0 m fb rb io ic c0 S0 n0 A w c S x xb ab bb cb la lc a) (ho:x.op=20):Code.wp Tryz.prog (runBr 15) Q a w:=by
 obtain ⟨ia,hia,hia2⟩:=Reg.nat (h.sw.hat.ok.ra (by simp [ho]));have hia0:(0:Int)≤(ia:Int):=by omega
 have hia1:(ia:Int)<16:=by omega
 have qa:=h.sw.ra;rw [fieldW_reg (show 0≤x.a by omega) (show x.a<16 by omega),hia] at qa;have hlab:=qa.lt;obtain ⟨ab0,ab1,ab2,abz⟩:=row3 qa;obtain ⟨x0,x1,x2,x3,x4,xz⟩:=row5 h.sw.rx;have hlx:=h.sw.rx.lt;have hlr:=h.sw.lp.rrb.lt;have hne:=h.ne_x;rw [ho] at x0;cases hap:(c.reg ia).p with
 | true =>
  rw [hap] at ab0;have hR:Runs P kinds c S (6,11) S.tick:=Runs.outs h.sw.hat (by omega) (by rw [hia];exact hap);have HH:=Lib.hid (And.intro hQ (And.intro h hR));obtain ⟨g,g0,g6,g10,g11,g12,g13,g14,g15,g16,g17,rfl⟩:=h.frame;rw [Fr532_lit,g0,g6,g10,g11,g12,g13,g14,g15,g16,g17];clear g0 g6 g10 g11 g12 g13 g14 g15 g16 g17 hQ h ho hR hap hia qa
  conv=>arg 2;whnf
  go_wp2_with fail
  exact HH.out.1.ret _ _ ⟨(6,11),rfl,by kernel_rfl,by kernel_rfl,HH.out.2.1.over (Fr.refl _ _) HH.out.2.2⟩
 | false =>
  rw [hap] at ab0
  have hR:Runs P kinds c S (0,(c.reg ia).n) S.tick:=by
   have:=Runs.yield h.sw.hat ho (by rw [hia];exact hap);rw [hia] at this;exact this
  have HH:=Lib.hid (And.intro hQ (And.intro h hR));obtain ⟨g,g0,g6,g10,g11,g12,g13,g14,g15,g16,g17,rfl⟩:=h.frame;rw [Fr532_lit,g0,g6,g10,g11,g12,g13,g14,g15,g16,g17];clear g0 g6 g10 g11 g12 g13 g14 g15 g16 g17 hQ h ho hR hap hia qa
  conv=>arg 2;whnf
  go_wp2_with fail
  go_quiet (fail)
  go_wp2_with fail
  exact HH.out.1.ret _ _ ⟨(0,(c.reg ia).n),rfl,by kernel_rfl,by kernel_rfl,HH.out.2.1.over (by exact ((Fr.refl Non w).drewN _)) HH.out.2.2⟩
theorem rn_print (hQ:RunQ base P kinds A0 (T+1) w0 m fb rb io ic c0 S0 n0 Q) (h:SwR base P kinds A0 T w0 m fb rb io ic c0 S0 n0 A w c S x xb ab bb cb la lc a) (ho:x.op=18):Code.wp Tryz.prog (runBr 15) Q a w:=by
 obtain ⟨ia,hia,hia2⟩:=Reg.nat (h.sw.hat.ok.ra (by simp [ho]));have hia0:(0:Int)≤(ia:Int):=by omega
 have hia1:(ia:Int)<16:=by omega
 have qa:=h.sw.ra;rw [fieldW_reg (show 0≤x.a by omega) (show x.a<16 by omega),hia] at qa;have hlab:=qa.lt;obtain ⟨ab0,ab1,ab2,abz⟩:=row3 qa;obtain ⟨x0,x1,x2,x3,x4,xz⟩:=row5 h.sw.rx;have hlx:=h.sw.rx.lt;have hlr:=h.sw.lp.rrb.lt;have hne:=h.ne_x;obtain ⟨Y,hI⟩:=h.sw.lp.inv;have c2:=hI.c2;have hlm:=hI.mlt;rw [ho] at x0;cases hap:(c.reg ia).p with
 | true =>
  rw [hap] at ab0;have hR:Runs P kinds c S (6,11) S.tick:=Runs.outs h.sw.hat (by omega) (by rw [hia];exact hap);have HH:=Lib.hid (And.intro hQ (And.intro h hR));obtain ⟨g,g0,g6,g10,g11,g12,g13,g14,g15,g16,g17,rfl⟩:=h.frame;rw [Fr532_lit,g0,g6,g10,g11,g12,g13,g14,g15,g16,g17];clear g0 g6 g10 g11 g12 g13 g14 g15 g16 g17 hQ h ho hR hap hia qa
  conv=>arg 2;whnf
  go_wp2_with fail
  exact HH.out.1.ret _ _ ⟨(6,11),rfl,by kernel_rfl,by kernel_rfl,HH.out.2.1.over (Fr.refl _ _) HH.out.2.2⟩
 | false =>
  rw [hap] at ab0;have hR:∀ r S'',Runs P kinds c.inc (S.tick.tell 2 0 (c.reg ia).n) r S''→Runs P kinds c S r S'':=fun r S'' k=>Runs.tell h.sw.hat (kk:=2) (a:=0) (by rw [hia];exact hap) (Or.inl ⟨ho,rfl,rfl⟩) (by rw [hia];exact k);have hta:Y.tv.ownBlock≠some ab:=fun e=>h.sw.nx.2.1 (hI.at_ _ e);have htx:Y.tv.ownBlock≠some xb:=fun e=>h.sw.nx.1 (hI.at_ _ e);have c4:w.cell? ⟨m,4,none⟩=some Y.tv:=hI.row.cell rfl;have c6:w.cell? ⟨m,6,none⟩=some (.int .i64 S.task):=hI.row.cell rfl;have hrow:=hI.row;have hto:Own w Y.tv 74 4 S.told.length (evs S.told):=hI.told;have htm:=hI.tv_m;have hfew:S.told.length≤400000:=by have hfw:S.mem.blocks.length+S.told.length+2 * S.tick.fuel.toNat≤T:=hI.few;have:=hI.max;omega
  have hAt:=fun (tv':Value) (e:Ev) (w2:World) r ho f hg=>h.after (hI.aftTold (w2:=w2) (tv':=tv') (e:=e) h.max r ho f hg) h.sw.hat.hm rfl;obtain ⟨i0,hti,hz0,hz1,hz2⟩:=info_parts Tryz.infoEvent;have HH:=Lib.hid (And.intro hQ (And.intro h (And.intro ho (And.intro hR (And.intro hAt (And.intro hrow (And.intro hto (And.intro htm (And.intro hta htx)))))))));obtain ⟨g,g0,g6,g10,g11,g12,g13,g14,g15,g16,g17,rfl⟩:=h.frame;rw [Fr532_lit,g0,g6,g10,g11,g12,g13,g14,g15,g16,g17];clear g0 g6 g10 g11 g12 g13 g14 g15 g16 g17 hQ h ho hR hap hia qa hAt hrow hto htm hta htx hI
  conv=>arg 2;whnf
  go_wp2_with fail
  have cW:=@Mix.cls_drew w [m,ab];refine Mix.wp_region_mix [4,8,10] [(0,0),(0,1),(0,2),(0,3),(1,4),(0,5),(0,6),(0,7),(1,8),(0,9),(1,10),(0,11),(2,12),(2,13),(0,14),(0,15),(3,16)] (fun V=>∃ g,V=Mix.upon w [m,ab] g) (by kernel_rfl) (by kernel_rfl) cW ?_;clear cW;repeat (first|((first|refine Mix.qa ?_|refine Mix.qb ?_);intro K hK;simp only [nA,nB,nC];go_big_quiet_op;go_big_quiet_on)|refine Mix.qc ?_|refine Mix.qd ?_)
  refine Mix.S_eff rfl rfl ?_;intro K hK;simp only [nA,nB,nC];go_simp;refine hK _ _ ⟨Mix.cls_fr (D:=Non) (by exact fx) (by simp [Non];omega),?_⟩;clear hK K;refine Mix.S_eff rfl rfl ?_;intro K hK;simp only [nA,nB,nC];refine wp_app_own (.tmp 350) (.tmp 358) 56 rfl rfl (by exact HH.out.2.2.2.2.2.2.1.fr (D:=Non) (by exact fx) (fun _ _=>id)) i0 _ 32 Tryz.underlying56 hti hz0 hz1 hz2 rfl (by omega) w.heap.size 0 1 1 rfl (evs [⟨2,S.task,0,(c.reg ia).n⟩]) rfl (by exact (Row.new' (by simp)).news) (fun u hu=>by simp [evs,Ev.cs] at hu;rcases hu with rfl|rfl|rfl|rfl <;> rfl) (by omega) (by omega) (by unfold maxLen;omega) ?_;intro gg cap w4 ho4 hf4 hg4;refine hK _ _ ⟨Mix.cls_fr (D:=fun y=>Y.tv.ownBlock=some y) hf4 (by simp;exact ⟨⟨by omega,HH.out.2.2.2.2.2.2.2.1⟩,⟨by omega,HH.out.2.2.2.2.2.2.2.2.1⟩⟩),?_⟩;clear hK K;have hrm:=hf4.row (by exact HH.out.2.2.2.2.2.1.drew.alloc _) HH.out.2.2.2.2.2.2.2.1;have y4:=hrm.cell (o:=4) (v:=Y.tv) rfl;have yz:=hrm.frozen;have ylt:=hrm.lt;have hfw:Fr (fun y=>y=m∨Y.tv.ownBlock=some y) w w4:=Fr.then (D:=fun y=>y=m∨Y.tv.ownBlock=some y) (by exact ((Fr.refl _ _).drew.alloc _)) hf4 fun y _ hy=>Or.inr hy
  obtain ⟨A',hl,_,_⟩:=HH.out.2.2.2.2.1 _ ⟨2,S.task,0,(c.reg ia).n⟩ w4 hrm ho4 hfw (by
   intro y hy;cases hy
   rcases hg4 with e|e
   · exact Or.inl e
   · right;rw [e];simp)
  have HL:=Lib.hid hl;clear hl hf4 hg4 ho4 hrm hfw
  (try simp only [Act.put,List.setIfInBounds_toArray,List.set_cons_succ,List.set_cons_zero])
  repeat (first|((first|refine Mix.qa ?_|refine Mix.qb ?_);intro K hK;simp only [nA,nB,nC];go_big_quiet_op;go_big_quiet_on)|refine Mix.qc ?_|refine Mix.qd ?_)
  refine Mix.S_late rfl rfl ?_;intro K hK;simp only [nA,nB,nC];go_simp;refine hK _ _ ?_;clear hK K;refine Mix.S_done ?_
  (try simp only [Act.put,List.setIfInBounds_toArray,List.set_cons_succ,List.set_cons_zero])
  refine HH.out.1.on _ _ ⟨⟨by kernel_rfl,by kernel_rfl,by kernel_rfl,by kernel_rfl,by kernel_rfl,by kernel_rfl⟩,0,(c.at_+1),by kernel_rfl,by kernel_rfl,Or.inl ⟨rfl,HH.out.2.1.mem HL.out (Int.le_refl _) (by simp [HH.out.2.2.1]) HH.out.2.2.2.1⟩⟩
theorem rn_drop (hQ:RunQ base P kinds A0 (T+1) w0 m fb rb io ic c0 S0 n0 Q) (h:SwR base P kinds A0 T w0 m fb rb io ic c0 S0 n0 A w c S x xb ab bb cb la lc a) (ho:x.op=19):Code.wp Tryz.prog (runBr 15) Q a w:=by
 obtain ⟨ia,hia,hia2⟩:=Reg.nat (h.sw.hat.ok.ra (by simp [ho]));have hia0:(0:Int)≤(ia:Int):=by omega
 have hia1:(ia:Int)<16:=by omega
 have qa:=h.sw.ra;rw [fieldW_reg (show 0≤x.a by omega) (show x.a<16 by omega),hia] at qa;have hlab:=qa.lt;obtain ⟨ab0,ab1,ab2,abz⟩:=row3 qa;obtain ⟨x0,x1,x2,x3,x4,xz⟩:=row5 h.sw.rx;have hlx:=h.sw.rx.lt;have hlr:=h.sw.lp.rrb.lt;have hne:=h.ne_x;obtain ⟨Y,hI⟩:=h.sw.lp.inv;have c2:=hI.c2;have hlm:=hI.mlt;rw [ho] at x0;cases hap:(c.reg ia).p with
 | true =>
  rw [hap] at ab0;have hR:Runs P kinds c S (6,11) S.tick:=Runs.outs h.sw.hat (by omega) (by rw [hia];exact hap);have HH:=Lib.hid (And.intro hQ (And.intro h hR));obtain ⟨g,g0,g6,g10,g11,g12,g13,g14,g15,g16,g17,rfl⟩:=h.frame;rw [Fr532_lit,g0,g6,g10,g11,g12,g13,g14,g15,g16,g17];clear g0 g6 g10 g11 g12 g13 g14 g15 g16 g17 hQ h ho hR hap hia qa
  conv=>arg 2;whnf
  go_wp2_with fail
  exact HH.out.1.ret _ _ ⟨(6,11),rfl,by kernel_rfl,by kernel_rfl,HH.out.2.1.over (Fr.refl _ _) HH.out.2.2⟩
 | false =>
  rw [hap] at ab0;have hR:∀ r S'',Runs P kinds c.inc (S.tick.tell 3 x.b (c.reg ia).n) r S''→Runs P kinds c S r S'':=fun r S'' k=>Runs.tell h.sw.hat (kk:=3) (a:=x.b) (by rw [hia];exact hap) (Or.inr ⟨ho,rfl,rfl⟩) (by rw [hia];exact k);have hta:Y.tv.ownBlock≠some ab:=fun e=>h.sw.nx.2.1 (hI.at_ _ e);have htx:Y.tv.ownBlock≠some xb:=fun e=>h.sw.nx.1 (hI.at_ _ e);have c4:w.cell? ⟨m,4,none⟩=some Y.tv:=hI.row.cell rfl;have c6:w.cell? ⟨m,6,none⟩=some (.int .i64 S.task):=hI.row.cell rfl;have hrow:=hI.row;have hto:Own w Y.tv 74 4 S.told.length (evs S.told):=hI.told;have htm:=hI.tv_m;have hfew:S.told.length≤400000:=by have hfw:S.mem.blocks.length+S.told.length+2 * S.tick.fuel.toNat≤T:=hI.few;have:=hI.max;omega
  have hAt:=fun (tv':Value) (e:Ev) (w2:World) r ho f hg=>h.after (hI.aftTold (w2:=w2) (tv':=tv') (e:=e) h.max r ho f hg) h.sw.hat.hm rfl;obtain ⟨i0,hti,hz0,hz1,hz2⟩:=info_parts Tryz.infoEvent;have HH:=Lib.hid (And.intro hQ (And.intro h (And.intro ho (And.intro hR (And.intro hAt (And.intro hrow (And.intro hto (And.intro htm (And.intro hta htx)))))))));obtain ⟨g,g0,g6,g10,g11,g12,g13,g14,g15,g16,g17,rfl⟩:=h.frame;rw [Fr532_lit,g0,g6,g10,g11,g12,g13,g14,g15,g16,g17];clear g0 g6 g10 g11 g12 g13 g14 g15 g16 g17 hQ h ho hR hap hia qa hAt hrow hto htm hta htx hI
  conv=>arg 2;whnf
  go_wp2_with fail
  have cW:=@Mix.cls_drew w [m,ab,xb];refine Mix.wp_region_mix [4,8,10,12] [(0,0),(0,1),(0,2),(0,3),(1,4),(0,5),(0,6),(0,7),(1,8),(0,9),(1,10),(0,11),(1,12),(0,13),(2,14),(2,15),(0,16),(0,17),(3,18)] (fun V=>∃ g,V=Mix.upon w [m,ab,xb] g) (by kernel_rfl) (by kernel_rfl) cW ?_;clear cW;repeat (first|((first|refine Mix.qa ?_|refine Mix.qb ?_);intro K hK;simp only [nA,nB,nC];go_big_quiet_op;go_big_quiet_on)|refine Mix.qc ?_|refine Mix.qd ?_)
  refine Mix.S_eff rfl rfl ?_;intro K hK;simp only [nA,nB,nC];go_simp;refine hK _ _ ⟨Mix.cls_fr (D:=Non) (by exact fx) (by simp [Non];omega),?_⟩;clear hK K;refine Mix.S_eff rfl rfl ?_;intro K hK;simp only [nA,nB,nC];refine wp_app_own (.tmp 366) (.tmp 376) 56 rfl rfl (by exact HH.out.2.2.2.2.2.2.1.fr (D:=Non) (by exact fx) (fun _ _=>id)) i0 _ 32 Tryz.underlying56 hti hz0 hz1 hz2 rfl (by omega) w.heap.size 0 1 1 rfl (evs [⟨3,S.task,x.b,(c.reg ia).n⟩]) rfl (by exact (Row.new' (by simp)).news) (fun u hu=>by simp [evs,Ev.cs] at hu;rcases hu with rfl|rfl|rfl|rfl <;> rfl) (by omega) (by omega) (by unfold maxLen;omega) ?_;intro gg cap w4 ho4 hf4 hg4;refine hK _ _ ⟨Mix.cls_fr (D:=fun y=>Y.tv.ownBlock=some y) hf4 (by simp;exact ⟨⟨by omega,HH.out.2.2.2.2.2.2.2.1⟩,⟨⟨by omega,HH.out.2.2.2.2.2.2.2.2.1⟩,⟨by omega,HH.out.2.2.2.2.2.2.2.2.2⟩⟩⟩),?_⟩;clear hK K;have hrm:=hf4.row (by exact HH.out.2.2.2.2.2.1.drew.alloc _) HH.out.2.2.2.2.2.2.2.1;have y4:=hrm.cell (o:=4) (v:=Y.tv) rfl;have yz:=hrm.frozen;have ylt:=hrm.lt;have hfw:Fr (fun y=>y=m∨Y.tv.ownBlock=some y) w w4:=Fr.then (D:=fun y=>y=m∨Y.tv.ownBlock=some y) (by exact ((Fr.refl _ _).drew.alloc _)) hf4 fun y _ hy=>Or.inr hy
  obtain ⟨A',hl,_,_⟩:=HH.out.2.2.2.2.1 _ ⟨3,S.task,x.b,(c.reg ia).n⟩ w4 hrm ho4 hfw (by
   intro y hy;cases hy
   rcases hg4 with e|e
   · exact Or.inl e
   · right;rw [e];simp)
  have HL:=Lib.hid hl;clear hl hf4 hg4 ho4 hrm hfw
  (try simp only [Act.put,List.setIfInBounds_toArray,List.set_cons_succ,List.set_cons_zero])
  repeat (first|((first|refine Mix.qa ?_|refine Mix.qb ?_);intro K hK;simp only [nA,nB,nC];go_big_quiet_op;go_big_quiet_on)|refine Mix.qc ?_|refine Mix.qd ?_)
  refine Mix.S_late rfl rfl ?_;intro K hK;simp only [nA,nB,nC];go_simp;refine hK _ _ ?_;clear hK K;refine Mix.S_done ?_
  (try simp only [Act.put,List.setIfInBounds_toArray,List.set_cons_succ,List.set_cons_zero])
  refine HH.out.1.on _ _ ⟨⟨by kernel_rfl,by kernel_rfl,by kernel_rfl,by kernel_rfl,by kernel_rfl,by kernel_rfl⟩,0,(c.at_+1),by kernel_rfl,by kernel_rfl,Or.inl ⟨rfl,HH.out.2.1.mem HL.out (Int.le_refl _) (by simp [HH.out.2.2.1]) HH.out.2.2.2.1⟩⟩
end
section
variable {base:Nat} {P:Pr} {kinds:List Int} {A0 A:Nat→Prop} {T:Nat} {w0 w:World} {m fb rb:Nat} {io:Option Addr} {ic:Nat} {c0 c:Cl} {S0 S:St} {x:In} {xb ab bb cb:Nat} {la:Option Addr} {lc n0:Nat} {Q:Exit→Act→World→Prop} {a:Act}
theorem SwR.gone0 (h:SwR base P kinds A0 T w0 m fb rb io ic c0 S0 n0 A w c S x xb ab bb cb la lc a) {r:Int × Int} {S':St} {w':World} (hA:NAft base P A T w w' m S') (lv:Leaves S.tick r S') :
 ∃ A',LoopS base P kinds A0 w0 m fb rb io A' T w' c S'∧Row w' xb 128 [.int .i64 x.op,.int .i64 x.a,.int .i64 x.b,.int .i64 x.c,.slice la x.l.length lc]∧(∀ (b o:Nat) (v:Value),CB base w b o v→w'.cell? ⟨b,o,none⟩=some v)∧¬ A' xb:=by
 obtain ⟨A',hl,hsub,hf⟩:=h.sw.lp.step hA lv.mem lv.ev;obtain ⟨Y,hI⟩:=h.sw.lp.inv;refine ⟨A',hl,hf.row h.sw.rx h.sw.nx.1,fun b o v hc=>(hc.fr hf hI.high).2,fun e=>?_⟩;have hlx:=h.sw.rx.lt;rcases hsub _ e with e2|e2
 · exact h.sw.nx.1 e2
 · omega
theorem rn_step {N:Nat} (hRC:RunC base P kinds N) (hN:S.tick.fuel.toNat≤N) (hQ:RunQ base P kinds A0 (T+1) w0 m fb rb io ic c0 S0 n0 Q) (h:SwR base P kinds A0 T w0 m fb rb io ic c0 S0 n0 A w c S x xb ab bb cb la lc a) (ho:x.op=24):Code.wp Tryz.prog (runBr 19) Q a w:=by
 obtain ⟨ia,hia,hia2⟩:=Reg.nat (h.sw.hat.ok.ra (by simp [ho]));have hia0:(0:Int)≤(ia:Int):=by omega
 have hia1:(ia:Int)<16:=by omega
 obtain ⟨ib,hib,hib2⟩:=Reg.nat (h.sw.hat.ok.rb (by simp [ho]));have hib0:(0:Int)≤(ib:Int):=by omega
 have hib1:(ib:Int)<16:=by omega
 have qb:=h.sw.rb_;rw [fieldW_reg (show 0≤x.b by omega) (show x.b<16 by omega),hib] at qb;have hlbb:=qb.lt;obtain ⟨bb0,bb1,bb2,bbz⟩:=row3 qb;obtain ⟨x0,x1,x2,x3,x4,xz⟩:=row5 h.sw.rx;have hlx:=h.sw.rx.lt;have hlr:=h.sw.lp.rrb.lt;have hne:=h.ne_x;obtain ⟨Y,hI⟩:=h.sw.lp.inv;have hS:=Lib.hid (ngoOn_c h.sw.hat.hP hRC hI hN h.sw.hat.hm h.sw.hat.he (c.reg ib) (reg_ok h.sw.hat.hc.fits (ib:Int)));have hl0:=h.sw.hat.ok.lab (by simp [ho]);obtain ⟨n,hn⟩:∃ n,x.l[0]?=some n:=⟨x.l[0],List.getElem?_eq_getElem hl0⟩;have hn2:=h.sw.hat.ok.tO n (List.mem_of_getElem? hn);have hnl:x.lab 0=n:=by unfold In.lab;rw [List.getD_eq_getElem?_getD,show (0:Int).toNat=0 from rfl,hn];rfl
 obtain ⟨lb,lo,hla,hcl⟩:=h.sw.il 0 n hn;have cl:=hcl.2;rw [Nat.add_zero] at cl;have hll:=World.block_lt_of_cell? w _ cl;have hl1:(0:Int)<(x.l.length:Int):=by omega
 have hat:=h.sw.hat;have hpb:c.reg x.b=c.reg ib:=by rw [hib]
 have HH:=Lib.hid (And.intro hQ (And.intro h (And.intro ho (And.intro hat (And.intro hpb (And.intro hnl (And.intro hla (And.intro hcl (And.intro hn2.1 (And.intro hn2.2 (And.intro hia hia2)))))))))));obtain ⟨g,g0,g6,g10,g11,g12,g13,g14,g15,g16,g17,rfl⟩:=h.frame;rw [Fr532_lit,g0,g6,g10,g11,g12,g13,g14,g15,g16,g17];clear g0 g6 g10 g11 g12 g13 g14 g15 g16 g17 hQ h ho hat hpb hn2 hib qb hI hll cl hl0 hn hnl hla hcl
 conv=>arg 2;whnf
 go_wp2_with fail
 refine hS.out.mono ?_;rintro e1 w1 ⟨r,S1,rfl,hg,hA⟩;obtain ⟨A1,hl,hrx,hcl,hnx⟩:=HH.out.2.1.gone0 hA hg.lv;rw [hia] at hrx;have hla:=HH.out.2.2.2.2.2.2.1;have cl:=hcl _ _ _ HH.out.2.2.2.2.2.2.2.1;rw [Nat.add_zero] at cl;have hll:=World.block_lt_of_cell? w1 _ cl;obtain ⟨x0,x1,x2,x3,x4,xz⟩:=row5 hrx;rw [hla] at x4;have hlx:=hrx.lt;have hlr:=hl.rrb.lt;have hlm:m<w1.heap.size:=by have:=hl.m0;have:=hl.fr.size;omega
 obtain ⟨r1,r2⟩:=r;have HG:=Lib.hid hg;have HL:=Lib.hid (hl.moreT (Nat.le_succ T) HH.out.2.1.max);have HM:=Lib.hid (And.intro hl (And.intro hrx hnx));clear hl hrx hcl hla hg hA hnx;by_cases h3:r1=3
 · subst h3;go_wp2_with fail
   refine HH.out.1.on _ _ ⟨⟨by kernel_rfl,by kernel_rfl,by kernel_rfl,by kernel_rfl,by kernel_rfl,by kernel_rfl⟩,0,n,by kernel_rfl,by kernel_rfl,Or.inl ⟨rfl,HH.out.2.1.goes (c':={ c with at_:=n }) (HL.out.goto HH.out.2.2.2.2.2.2.2.2.1 HH.out.2.2.2.2.2.2.2.2.2.1) HG.out.lv.fuel rfl fun r S2 k=>Runs.goAb HH.out.2.2.2.1 (Or.inr ⟨HH.out.2.2.1,HH.out.2.2.2.2.1.symm⟩) HG.out rfl (by rw [HH.out.2.2.2.2.2.1];exact k)⟩⟩
 have b3:(r1 == 3)=false:=beq_false_of_ne h3;by_cases h2:r1=2
 · subst h2;go_wp2_with fail
   have cW:=@Mix.cls_drew w1 [xb];refine Mix.wp_region_mix [2] [(0,0),(0,1),(1,2),(0,3),(0,4),(2,5),(2,6),(0,7),(2,8)] (fun V=>∃ g,V=Mix.upon w1 [xb] g) (by kernel_rfl) (by kernel_rfl) cW ?_;clear cW;repeat (first|((first|refine Mix.qa ?_|refine Mix.qb ?_);intro K hK;simp only [nA,nB,nC];go_big_quiet_op;go_big_quiet_on)|refine Mix.qc ?_|refine Mix.qd ?_)
   refine Mix.S_eff rfl rfl ?_;intro K hK;simp only [nA,nB,nC];go_simp;refine (nbit_c _ _).mono ?_;rintro e2 w2 ⟨rfl,hf⟩;refine hK _ _ ⟨Mix.cls_fr (D:=Non) hf (by simp [Non];omega),?_⟩;clear hK K;have hf1:Fr Non w1 w2:=Fr.trans (by exact (Fr.refl _ _).drew) hf;have hs1:=hf1.size;clear hf;refine Mix.S_eff rfl rfl ?_;intro K hK;simp only [nA,nB,nC];go_simp;refine (nnum_c _ _).mono ?_;rintro e3 w3 ⟨rfl,hf⟩;refine hK _ _ ⟨Mix.cls_fr (D:=Non) hf (by simp [Non];omega),?_⟩;clear hK K;have hf2:Fr Non w1 w3:=hf1.trans hf;obtain ⟨v0,v1,v2,vz⟩:=(HL.out.non hf2).cells HH.out.2.2.2.2.2.2.2.2.2.2.2;have hs2:=hf2.size;have hlr1:rb<w3.heap.size:=by omega
   clear hf;repeat (first|((first|refine Mix.qa ?_|refine Mix.qb ?_);intro K hK;simp only [nA,nB,nC];go_big_quiet_op;go_big_quiet_on)|refine Mix.qc ?_|refine Mix.qd ?_)
   refine Mix.S_eff rfl rfl ?_;intro K hK;simp only [nA,nB,nC];go_simp;refine hK _ _ ⟨Mix.cls_fr (D:=fun y=>y=rb) (Fr.set3 _ _ _ _ _ _ _ _) (by simp;omega),?_⟩;clear hK K;refine Mix.S_done ?_
   (try simp only [Act.put,List.setIfInBounds_toArray,List.set_cons_succ,List.set_cons_zero])
   refine HH.out.1.on _ _ ⟨⟨by kernel_rfl,by kernel_rfl,by kernel_rfl,by kernel_rfl,by kernel_rfl,by kernel_rfl⟩,0,(c.at_+1),by kernel_rfl,by kernel_rfl,Or.inl ⟨rfl,HH.out.2.1.memPut (y:=num 0) (HL.out.non hf2) HG.out.lv.fuel (by simp [HH.out.2.2.1]) HH.out.2.2.2.2.2.2.2.2.2.2.2 (num_ok (by unfold I64;omega)) (fun r S2 k=>Runs.stepOn HH.out.2.2.2.1 HH.out.2.2.1 (by rw [HH.out.2.2.2.2.1];exact HG.out) rfl (by rw [HH.out.2.2.2.2.2.2.2.2.2.2.1];exact k))⟩⟩
 by_cases h1:r1=1
 · subst h1;go_wp2_with fail
   have cW:=@Mix.cls_drew w1 [xb];refine Mix.wp_region_mix [2] [(0,0),(0,1),(1,2),(0,3),(0,4),(2,5),(2,6),(0,7),(2,8)] (fun V=>∃ g,V=Mix.upon w1 [xb] g) (by kernel_rfl) (by kernel_rfl) cW ?_;clear cW;repeat (first|((first|refine Mix.qa ?_|refine Mix.qb ?_);intro K hK;simp only [nA,nB,nC];go_big_quiet_op;go_big_quiet_on)|refine Mix.qc ?_|refine Mix.qd ?_)
   refine Mix.S_eff rfl rfl ?_;intro K hK;simp only [nA,nB,nC];go_simp;refine (nbit_c _ _).mono ?_;rintro e2 w2 ⟨rfl,hf⟩;refine hK _ _ ⟨Mix.cls_fr (D:=Non) hf (by simp [Non];omega),?_⟩;clear hK K;have hf1:Fr Non w1 w2:=Fr.trans (by exact (Fr.refl _ _).drew) hf;have hs1:=hf1.size;clear hf;refine Mix.S_eff rfl rfl ?_;intro K hK;simp only [nA,nB,nC];go_simp;refine (nnum_c _ _).mono ?_;rintro e3 w3 ⟨rfl,hf⟩;refine hK _ _ ⟨Mix.cls_fr (D:=Non) hf (by simp [Non];omega),?_⟩;clear hK K;have hf2:Fr Non w1 w3:=hf1.trans hf;obtain ⟨v0,v1,v2,vz⟩:=(HL.out.non hf2).cells HH.out.2.2.2.2.2.2.2.2.2.2.2;have hs2:=hf2.size;have hlr1:rb<w3.heap.size:=by omega
   clear hf;repeat (first|((first|refine Mix.qa ?_|refine Mix.qb ?_);intro K hK;simp only [nA,nB,nC];go_big_quiet_op;go_big_quiet_on)|refine Mix.qc ?_|refine Mix.qd ?_)
   refine Mix.S_eff rfl rfl ?_;intro K hK;simp only [nA,nB,nC];go_simp;refine hK _ _ ⟨Mix.cls_fr (D:=fun y=>y=rb) (Fr.set3 _ _ _ _ _ _ _ _) (by simp;omega),?_⟩;clear hK K;refine Mix.S_done ?_
   (try simp only [Act.put,List.setIfInBounds_toArray,List.set_cons_succ,List.set_cons_zero])
   refine HH.out.1.on _ _ ⟨⟨by kernel_rfl,by kernel_rfl,by kernel_rfl,by kernel_rfl,by kernel_rfl,by kernel_rfl⟩,0,(c.at_+1),by kernel_rfl,by kernel_rfl,Or.inl ⟨rfl,HH.out.2.1.memPut (y:=num 1) (HL.out.non hf2) HG.out.lv.fuel (by simp [HH.out.2.2.1]) HH.out.2.2.2.2.2.2.2.2.2.2.2 (num_ok (by unfold I64;omega)) (fun r S2 k=>Runs.stepP HH.out.2.2.2.1 HH.out.2.2.1 (by rw [HH.out.2.2.2.2.1];exact HG.out) rfl (by rw [HH.out.2.2.2.2.2.2.2.2.2.2.1];exact k))⟩⟩
 by_cases h0:r1=0
 · subst h0;obtain ⟨Y1,hI1⟩:=HM.out.1.inv;have c4:w1.cell? ⟨m,4,none⟩=some Y1.tv:=hI1.row.cell rfl;have c6:w1.cell? ⟨m,6,none⟩=some (.int .i64 S1.task):=hI1.row.cell rfl;have hrow:=hI1.row;have hto:Own w1 Y1.tv 74 4 S1.told.length (evs S1.told):=hI1.told;have htm:=hI1.tv_m;have hfew:S1.told.length≤400000:=by have:=hI1.few;have:=hI1.max;omega
   have hAt:=fun (tv':Value) (e:Ev) (w2:World) r ho f hg=>HM.out.1.step (hI1.aftTold (w2:=w2) (tv':=tv') (e:=e) HH.out.2.1.max r ho f hg) HG.out.lv.mem rfl;obtain ⟨i0,hti,hz0,hz1,hz2⟩:=info_parts Tryz.infoEvent;have htx:Y1.tv.ownBlock≠some xb:=fun e=>HM.out.2.2 (hI1.at_ _ e);have HT:=Lib.hid (And.intro hAt (And.intro hrow (And.intro hto (And.intro htm htx))));clear hAt hrow hto htm htx hI1;go_wp2_with fail
   have cW:=@Mix.cls_drew w1 [m];refine Mix.wp_region_mix [4,8] [(0,0),(0,1),(0,2),(0,3),(1,4),(0,5),(0,6),(0,7),(1,8),(0,9),(0,10),(2,11),(2,12),(0,13),(0,14),(3,15)] (fun V=>∃ g,V=Mix.upon w1 [m] g) (by kernel_rfl) (by kernel_rfl) cW ?_;clear cW;repeat (first|((first|refine Mix.qa ?_|refine Mix.qb ?_);intro K hK;simp only [nA,nB,nC];go_big_quiet_op;go_big_quiet_on)|refine Mix.qc ?_|refine Mix.qd ?_)
   refine Mix.S_eff rfl rfl ?_;intro K hK;simp only [nA,nB,nC];go_simp;refine hK _ _ ⟨Mix.cls_fr (D:=Non) (by exact fx) (by simp [Non];omega),?_⟩;clear hK K;refine Mix.S_eff rfl rfl ?_;intro K hK;simp only [nA,nB,nC];refine wp_app_own (.tmp 446) (.tmp 453) 56 rfl rfl (by exact HT.out.2.2.1.fr (D:=Non) (by exact fx) (fun _ _=>id)) i0 _ 32 Tryz.underlying56 hti hz0 hz1 hz2 rfl (by omega) w1.heap.size 0 1 1 rfl (evs [⟨5,S1.task,0,r2⟩]) rfl (by exact (Row.new' (by simp)).news) (fun u hu=>by simp [evs,Ev.cs] at hu;rcases hu with rfl|rfl|rfl|rfl <;> rfl) (by omega) (by omega) (by unfold maxLen;omega) ?_;intro gg cap w4 ho4 hf4 hg4;refine hK _ _ ⟨Mix.cls_fr (D:=fun y=>Y1.tv.ownBlock=some y) hf4 (by simp;exact ⟨by omega,HT.out.2.2.2.1⟩),?_⟩;clear hK K;have hrm:=hf4.row (by exact HT.out.2.1.drew.alloc _) HT.out.2.2.2.1;have y4:=hrm.cell (o:=4) (v:=Y1.tv) rfl;have yz:=hrm.frozen;have ylt:=hrm.lt;have hfw:Fr (fun y=>y=m∨Y1.tv.ownBlock=some y) w1 w4:=Fr.then (D:=fun y=>y=m∨Y1.tv.ownBlock=some y) (by exact ((Fr.refl _ _).drew.alloc _)) hf4 fun y _ hy=>Or.inr hy
   obtain ⟨A',hl,_,hfx⟩:=HT.out.1 _ ⟨5,S1.task,0,r2⟩ w4 hrm ho4 hfw (by
    intro y hy;cases hy
    rcases hg4 with e|e
    · exact Or.inl e
    · right;rw [e];simp)
   have HL:=Lib.hid hl;have HX:=Lib.hid (hfx.row HM.out.2.1 HM.out.2.2);clear hfx;clear hl hf4 hg4 ho4 hrm hfw
   (try simp only [Act.put,List.setIfInBounds_toArray,List.set_cons_succ,List.set_cons_zero])
   repeat (first|((first|refine Mix.qa ?_|refine Mix.qb ?_);intro K hK;simp only [nA,nB,nC];go_big_quiet_op;go_big_quiet_on)|refine Mix.qc ?_|refine Mix.qd ?_)
   refine Mix.S_late rfl rfl ?_;intro K hK;simp only [nA,nB,nC];go_simp;refine hK _ _ ?_;clear hK K;refine Mix.S_done ?_
   (try simp only [Act.put,List.setIfInBounds_toArray,List.set_cons_succ,List.set_cons_zero])
   clear x0 x1 x2 x3 x4 xz y4 yz ylt;generalize hW2:World.setCell w4 _ _=W2 at HL HX ⊢;clear hW2;obtain ⟨x0,x1,x2,x3,x4,xz⟩:=row5 HX.out;have hlx2:=HX.out.lt;have hlr2:=HL.out.rrb.lt;go_wp2_with fail
   have cW:=@Mix.cls_drew W2 [xb];refine Mix.wp_region_mix [2] [(0,0),(0,1),(1,2),(0,3),(0,4),(2,5),(2,6),(0,7),(2,8)] (fun V=>∃ g,V=Mix.upon W2 [xb] g) (by kernel_rfl) (by kernel_rfl) cW ?_;clear cW;repeat (first|((first|refine Mix.qa ?_|refine Mix.qb ?_);intro K hK;simp only [nA,nB,nC];go_big_quiet_op;go_big_quiet_on)|refine Mix.qc ?_|refine Mix.qd ?_)
   refine Mix.S_eff rfl rfl ?_;intro K hK;simp only [nA,nB,nC];go_simp;refine (nbit_c _ _).mono ?_;rintro e2 w2 ⟨rfl,hf⟩;refine hK _ _ ⟨Mix.cls_fr (D:=Non) hf (by simp [Non];omega),?_⟩;clear hK K;have hf1:Fr Non W2 w2:=Fr.trans (by exact (Fr.refl _ _).drew) hf;have hs1:=hf1.size;clear hf;refine Mix.S_eff rfl rfl ?_;intro K hK;simp only [nA,nB,nC];go_simp;refine (nnum_c _ _).mono ?_;rintro e3 w3 ⟨rfl,hf⟩;refine hK _ _ ⟨Mix.cls_fr (D:=Non) hf (by simp [Non];omega),?_⟩;clear hK K;have hf2:Fr Non W2 w3:=hf1.trans hf;obtain ⟨v0,v1,v2,vz⟩:=(HL.out.non hf2).cells HH.out.2.2.2.2.2.2.2.2.2.2.2;have hs2:=hf2.size;have hlr1:rb<w3.heap.size:=by omega
   clear hf;repeat (first|((first|refine Mix.qa ?_|refine Mix.qb ?_);intro K hK;simp only [nA,nB,nC];go_big_quiet_op;go_big_quiet_on)|refine Mix.qc ?_|refine Mix.qd ?_)
   refine Mix.S_eff rfl rfl ?_;intro K hK;simp only [nA,nB,nC];go_simp;refine hK _ _ ⟨Mix.cls_fr (D:=fun y=>y=rb) (Fr.set3 _ _ _ _ _ _ _ _) (by simp;omega),?_⟩;clear hK K;refine Mix.S_done ?_
   (try simp only [Act.put,List.setIfInBounds_toArray,List.set_cons_succ,List.set_cons_zero])
   refine HH.out.1.on _ _ ⟨⟨by kernel_rfl,by kernel_rfl,by kernel_rfl,by kernel_rfl,by kernel_rfl,by kernel_rfl⟩,0,(c.at_+1),by kernel_rfl,by kernel_rfl,Or.inl ⟨rfl,HH.out.2.1.memPut (y:=num 1) (HL.out.non hf2) HG.out.lv.fuel (by simp [HH.out.2.2.1]) HH.out.2.2.2.2.2.2.2.2.2.2.2 (num_ok (by unfold I64;omega)) (fun r S2 k=>Runs.stepY HH.out.2.2.2.1 HH.out.2.2.1 (by rw [HH.out.2.2.2.2.1];exact HG.out) rfl (by rw [HH.out.2.2.2.2.2.2.2.2.2.2.1];exact k))⟩⟩
 have b0:(r1 == 0)=false:=beq_false_of_ne h0;have h4:3<r1:=by have:=HG.out.lv.kind;simp only at this;omega
 have b4:decide (3<r1)=true:=decide_eq_true h4;go_wp2_with fail
 exact HH.out.1.ret _ _ ⟨(r1,r2),rfl,by kernel_rfl,by kernel_rfl,HH.out.2.1.bad HL.out (Runs.goOut HH.out.2.2.2.1 (Or.inr ⟨HH.out.2.2.1,HH.out.2.2.2.2.1.symm⟩) HG.out (Or.inl h4))⟩
end
end Go.Proofs.YtlbomnbpahmphaaGreat
