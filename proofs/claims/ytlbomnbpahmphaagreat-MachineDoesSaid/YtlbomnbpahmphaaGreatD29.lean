/- Walk: the document's machine: a frame is made. Condition: the machine lies there; there is room for an instruction's cells. -/
import Derived.Test.YtlbomnbpahmphaaGreatD28
import Derived.Test.YtlbomnbpahmphaaGreatD03
import Derived.Test.YtlbomnbpahmphaaGreatD11
import Derived.Test.YtlbomnbpahmphaaGreatD14
set_option maxRecDepth 100000
set_option maxHeartbeats 2000000
namespace Go.Proofs.YtlbomnbpahmphaaGreat
open Go.RowKit
section
variable {base:Nat} {P:Pr} {A:Nat→Prop} {T:Nat} {w w':World} {m:Nat} {S S':St} {Y:NY}
theorem NL.more (h:NL base P A T w m S Y) {T':Nat} (hT:T≤T') (hm:T'≤400000):NL base P A T' w m S Y :=
 { h with
  cells:=by have:=h.cells;omega
  few:=by have:=h.few;omega
  max:=hm }
theorem NL.aftOp (h:NL base P A T w m S Y) (hT:T+1≤400000) {D':Nat→Prop} {B':Nat} {M':Mem} (hM:RJ D' B' w' Y.q M') (f:QF Y.Aq D' w w') (hB:B'≤Y.B+2097152) (hn:M'.blocks.length≤S.mem.blocks.length+1):NAft base P A (T+1) w w' m { S with mem:=M' } :=
 (h.more (Nat.le_succ T) hT).aftMem hM f (by have:=h.cells;omega) (by have:=h.few;omega)
theorem offS_true (a n k:Int):offS ⟨true,a,n⟩ k=⟨true,a,wrap64 (n+k)⟩:=by
 unfold offS;rw [if_pos rfl,IntWalk.i64_left]
theorem alloc_p {M:Mem} {n:Int} (h:(M.alloc n).2.2=0):(M.alloc n).2.1.p=true:=by
 unfold Mem.alloc at h ⊢;split at h
 · cases h
 · rename_i h1;split at h
   · cases h
   · rename_i h2;rw [if_neg h1,if_neg h2]
theorem nframe_c (h:NL base P A T w m S Y) (hT:T+1≤400000) {i:Nat} (hi:i<P.cos.length):Calls Tryz.prog 42 #[.pointer (some ⟨m,0,none⟩),.int .i64 i] w fun e w' =>
 e=.returned (.tuple #[.agg #[.bool (frameS P S.mem i).2.1.p,.int .i64 (frameS P S.mem i).2.1.a,.int .i64 (frameS P S.mem i).2.1.n],.int .i64 (frameS P S.mem i).2.2])∧NAft base P A (T+1) w w' m { S with mem:=(frameS P S.mem i).1 }:=by
 obtain ⟨R,hR⟩:∃ R,R=frameS P S.mem i:=⟨_,rfl⟩;rw [← hR];have hlen:=frame_len P S.mem i;rw [← hR] at hlen;unfold frameS at hR;have hal:=@alloc_p S.mem (P.co i).words;have hmx:S.mem.blocks.length≤1000000000000:=by have:=h.few;have:=h.max;omega
 have hA:=Lib.hid fun w1 (f:Fr Non w w1)=>qalloc_j (h.mem.non f) hmx (P.co i).words;generalize hwd:(P.co i).words=wd at *;generalize S.mem.alloc wd=L at *;obtain ⟨M1,⟨xp,xa,xn⟩,er⟩:=L;simp only at hA hR hal
 have hx:P.cos[i]?=some (P.co i):=by
  unfold Pr.co;rw [Int.toNat_natCast,List.getD_eq_getElem?_getD,List.getElem?_eq_getElem hi]
  rfl
 obtain ⟨cb,o,hco,hcc⟩:=h.cos (by omega);have hcx:=hcc _ _ (crs_get hx).2.2.2.1;rw [hwd,← Nat.add_assoc] at hcx;have c1:w.cell? ⟨m,1,none⟩=some (.slice Y.co P.cos.length Y.cc):=h.row.cell rfl;rw [hco] at c1;have c2:=h.c2;have hm:=h.mlt;have cx:=hcx.2;have hcb:=World.block_lt_of_cell? w _ cx;have h0i:(0:Int)≤(i:Int):=by omega
 have hil:(i:Int)<(P.cos.length:Int):=by omega
 have hqm:¬ Y.Aq m:=fun e=>(h.sep m e).1 rfl;have hqc:¬ Y.Aq cb:=fun e=>by have:=h.high cb (h.aq cb e);have:=hcx.1;omega
 have hql:=h.mem.1;have hBY:=h.hB;have HH:=Lib.hid (And.intro h (And.intro hR (And.intro hal (And.intro hqm (And.intro hqc (And.intro hql (And.intro hlen hBY)))))));clear h hR hal hqm hqc hql hlen hBY hx hco hcc hcx hwd hmx;have hRR:(er=0∧(er != 0)=false)∨(er≠0∧(er != 0)=true):=by by_cases h:er=0 <;> simp [h]
 go_enter Tryz.func42,Tryz.ntmps42
 go_wp2_with fail
 have rb:Row (w.alloc (.cells #[.bool false,.int .i64 0,.int .i64 0] 40)) w.heap.size 40 [.bool false,.int .i64 0,.int .i64 0]:=Row.new' rfl;have hf0:Fr Non w (w.alloc (.cells #[.bool false,.int .i64 0,.int .i64 0] 40)):=by exact fx
 have hs:(w.alloc (.cells #[.bool false,.int .i64 0,.int .i64 0] 40)).heap.size=w.heap.size+1:=by simp
 have k1:=hf0.cell c1 id;have k2:=hf0.cell c2 id;have kx:=hf0.cell cx id;generalize (w.alloc (.cells #[.bool false,.int .i64 0,.int .i64 0] 40))=W at *;obtain ⟨d,hd⟩:∃ d,d=w.heap.size:=⟨_,rfl⟩;rw [← hd] at rb ⊢;have hd2:=Lib.hid hd;have hmd:m<d:=by omega
 have hcd:cb<d:=by omega
 have hWd:W.heap.size=d+1:=by omega
 have HW:=Lib.hid (And.intro rb hf0);clear rb hf0 c1 cx hd hs hm hcb;refine Mix.once1 (α:=World) (F:=fun br wz=>Row wz br 40 [.bool xp,.int .i64 xa,.int .i64 xn]∧Row wz d 40 [.bool false,.int .i64 0,.int .i64 0]∧d<br∧∃ D',RJ D' Y.B wz Y.q M1∧QF Y.Aq D' w wz∧¬ D' br∧¬ D' d) (G:=?G) (fun hk=>?way) ?rest
 case way =>
  have cW:=@Mix.cls_drew W [m,cb];refine Mix.wp_region_tree [3,8,12] (.two [(0,0),(0,1),(0,2),(1,3),(0,4),(0,5),(0,6),(0,7),(1,8),(0,9),(0,10),(0,11),(1,12)] 13 (.fin [(0,14),(0,15),(0,16),(2,17),(2,18),(0,19)]) 17 (.fin [(2,13),(0,14),(0,15),(0,16),(2,18),(0,19)])) (fun V=>∃ g,V=Mix.upon W [m,cb] g) (by kernel_rfl) (by kernel_rfl) cW ?_;clear cW;refine Mix.T_two ?_;repeat (first|((first|refine Mix.qa ?_|refine Mix.qb ?_);intro K hK;simp only [nA,nB,nC];go_big_quiet_op;go_big_quiet_on)|refine Mix.qc ?_|refine Mix.qd ?_)
  refine Mix.S_done ⟨?_,?_⟩
  · refine Mix.T_eff (C:=fun V=>∃ g,V=Mix.upon W [m,cb] g) rfl rfl ?_;intro K hK;simp only [nA,nB,nC];go_simp;refine (hA.out _ (by exact HW.out.2.drew)).mono ?_;rintro e1 w1 ⟨rfl,D1,hJ1,hQ1⟩;refine hK _ _ ⟨Mix.cls_fr (D:=Y.Aq) hQ1.fr (by simp;exact ⟨⟨by omega,HH.out.2.2.2.1⟩,⟨by omega,HH.out.2.2.2.2.1⟩⟩),?_⟩;have hQw:QF Y.Aq D1 w w1:=(QF.non (by exact HW.out.2.drew)).trans hQ1;have hs1:=hQ1.fr.size;have hnb:¬ D1 w1.heap.size:=fun e=>by have:=hJ1.1 _ e;omega
    have hnd:¬ D1 d:=fun e=>by
     rcases hQ1.sub d e with e|e
     · have:=HH.out.2.2.2.2.2.1 d e;have:=hd2.out;omega
     · simp only [World.size_drew] at e;omega
    have hJQ:=Lib.hid (And.intro hJ1 (And.intro hQw (And.intro hnb hnd)));clear hnb hnd;have hrd:=hQ1.fr.row (HW.out.1.drew) (fun e=>by have:=HH.out.2.2.2.2.2.1 d e;have:=hd2.out;omega);simp only [World.size_drew] at hs1;clear hK K hJ1 hQ1 hQw;refine Mix.T_fin ?_
    (try simp only [Act.put,List.setIfInBounds_toArray,List.set_cons_succ,List.set_cons_zero])
    repeat (first|((first|refine Mix.qa ?_|refine Mix.qb ?_);intro K hK;simp only [nA,nB,nC];go_big_quiet_op;go_big_quiet_on)|refine Mix.qc ?_|refine Mix.qd ?_)
    refine Mix.S_eff rfl rfl ?_;intro K hK;simp only [nA,nB,nC];go_simp;refine hK _ _ ⟨Mix.cls_fr (D:=Non) (by exact fx) (by simp [Non];omega),?_⟩;clear hK K;refine Mix.S_eff rfl rfl ?_;intro K hK;simp only [nA,nB,nC];go_simp;refine hK _ _ ⟨Mix.cls_fr (D:=fun x=>x=w1.heap.size) (by exact Fr.realloc _ _ _) (by simp;omega),?_⟩;clear hK K;repeat (first|((first|refine Mix.qa ?_|refine Mix.qb ?_);intro K hK;simp only [nA,nB,nC];go_big_quiet_op;go_big_quiet_on)|refine Mix.qc ?_|refine Mix.qd ?_)
    refine Mix.S_done ?_;have hfa:Fr Non w1 (w1.alloc (.cells #[.bool xp,.int .i64 xa,.int .i64 xn] 40)):=by exact fx
    have hall:Row (w1.alloc (.cells #[.bool xp,.int .i64 xa,.int .i64 xn] 40)) w1.heap.size 40 [.bool xp,.int .i64 xa,.int .i64 xn]∧Row (w1.alloc (.cells #[.bool xp,.int .i64 xa,.int .i64 xn] 40)) d 40 [.bool false,.int .i64 0,.int .i64 0]∧d<w1.heap.size∧∃ D',RJ D' Y.B (w1.alloc (.cells #[.bool xp,.int .i64 xa,.int .i64 xn] 40)) Y.q M1∧QF Y.Aq D' w (w1.alloc (.cells #[.bool xp,.int .i64 xa,.int .i64 xn] 40))∧¬ D' w1.heap.size∧¬ D' d:=⟨Row.new' rfl,hfa.row hrd id,by omega,D1,hJQ.out.1.non hfa,hJQ.out.2.1.trans (QF.non hfa),hJQ.out.2.2⟩;clear hfa;generalize (w1.alloc (.cells #[.bool xp,.int .i64 xa,.int .i64 xn] 40))=wz at *;generalize w1.heap.size=br at *;exact hk br wz hall
  · refine Mix.T_eff (C:=fun V=>∃ g,V=Mix.upon W [m,cb] g) rfl rfl ?_;intro K hK;simp only [nA,nB,nC];go_simp;refine hK _ _ ⟨Mix.cls_fr (D:=Non) (by exact fx) (by simp [Non];omega),?_⟩;clear hK K;refine Mix.T_fin ?_
    (try simp only [Act.put,List.setIfInBounds_toArray,List.set_cons_succ,List.set_cons_zero])
    refine Mix.S_eff rfl rfl ?_;intro K hK;simp only [nA,nB,nC];go_simp;refine (hA.out _ (by exact (HW.out.2.drew).alloc _)).mono ?_;rintro e1 w1 ⟨rfl,D1,hJ1,hQ1⟩;refine hK _ _ ⟨Mix.cls_fr (D:=Y.Aq) hQ1.fr (by simp;exact ⟨⟨by omega,HH.out.2.2.2.1⟩,⟨by omega,HH.out.2.2.2.2.1⟩⟩),?_⟩;have hQw:QF Y.Aq D1 w w1:=(QF.non (by exact (HW.out.2.drew).alloc _)).trans hQ1;have hs1:=hQ1.fr.size;have hJQ:=Lib.hid (And.intro hJ1 hQw);have HSB:=Lib.hid hQ1.sub;have hnq:∀ x,Y.Aq x→x<d:=fun x e=>by have:=HH.out.2.2.2.2.2.1 x e;have:=hd2.out;omega
    have hrd:=hQ1.fr.row ((HW.out.1.drew).alloc _) (fun e=>by have:=hnq d e;omega);have hrb:Row w1 (d+1) 40 [.bool false,.int .i64 0,.int .i64 0]:=hQ1.fr.row (by exact Row.new' (by simp [hWd])) (fun e=>by have:=hnq _ e;omega);simp only [World.size_drew,World.size_alloc] at hs1;obtain ⟨b0,b1,b2,bz⟩:=row3 hrb;have hbr:=hrb.lt;have HRB:=Lib.hid (And.intro hrb hrd);clear hK K hJ1 hQ1 hQw hnq hrd hrb
    (try simp only [Act.put,List.setIfInBounds_toArray,List.set_cons_succ,List.set_cons_zero])
    repeat (first|((first|refine Mix.qa ?_|refine Mix.qb ?_);intro K hK;simp only [nA,nB,nC];go_big_quiet_op;go_big_quiet_on)|refine Mix.qc ?_|refine Mix.qd ?_)
    refine Mix.S_eff rfl rfl ?_;intro K hK;simp only [nA,nB,nC];go_simp;refine hK _ _ ⟨Mix.cls_fr (D:=fun x=>x=d+1) (by exact ((Fr.set1 _ _ _ _).trans (Fr.set1 _ _ _ _)).trans (Fr.set1 _ _ _ _)) (by simp;omega),?_⟩;clear hK K;repeat (first|((first|refine Mix.qa ?_|refine Mix.qb ?_);intro K hK;simp only [nA,nB,nC];go_big_quiet_op;go_big_quiet_on)|refine Mix.qc ?_|refine Mix.qd ?_)
    refine Mix.S_done ?_;have hfs:Fr (fun x=>x=d+1) w1 (((w1.setCell ⟨d+1,0,none⟩ (.bool xp)).setCell ⟨d+1,1,none⟩ (.int .i64 xa)).setCell ⟨d+1,2,none⟩ (.int .i64 xn)):=Fr.set3 _ _ _ _ _ _ _ _;have hrs:Row (((w1.setCell ⟨d+1,0,none⟩ (.bool xp)).setCell ⟨d+1,1,none⟩ (.int .i64 xa)).setCell ⟨d+1,2,none⟩ (.int .i64 xn)) (d+1) 40 [.bool xp,.int .i64 xa,.int .i64 xn]:=((HRB.out.1.set_same 0 _).set_same 1 _).set_same 2 _;generalize (((w1.setCell ⟨d+1,0,none⟩ (.bool xp)).setCell ⟨d+1,1,none⟩ (.int .i64 xa)).setCell ⟨d+1,2,none⟩ (.int .i64 xn))=wz at *
    have hall:Row wz (d+1) 40 [.bool xp,.int .i64 xa,.int .i64 xn]∧Row wz d 40 [.bool false,.int .i64 0,.int .i64 0]∧d<d+1∧∃ D',RJ D' Y.B wz Y.q M1∧QF Y.Aq D' w wz∧¬ D' (d+1)∧¬ D' d:=by
     refine ⟨hrs,hfs.row HRB.out.2 (by omega),by omega,D1,hJQ.out.1.fr hfs fun x hx e=>?_,⟨hJQ.out.2.fr.then hfs fun x hx e=>by have:=hd2.out;omega,hJQ.out.2.sub⟩,fun hx=>?_,fun hx=>?_⟩
     · subst e;rcases HSB.out _ hx with e|e
       · have:=HH.out.2.2.2.2.2.1 _ e;have:=hd2.out;omega
       · simp only [World.size_alloc,World.size_drew] at e;omega
     · rcases HSB.out _ hx with e|e
       · have:=HH.out.2.2.2.2.2.1 _ e;have:=hd2.out;omega
       · simp only [World.size_alloc,World.size_drew] at e;omega
     · rcases HSB.out _ hx with e|e
       · have:=HH.out.2.2.2.2.2.1 _ e;have:=hd2.out;omega
       · simp only [World.size_alloc,World.size_drew] at e;omega
    clear hfs hrs;generalize d+1=br at *;exact hk br wz hall
 case rest =>
  rintro br wz ⟨hr6,hr4,hbr,D1,hJ1,hQ1,hnb,hnd⟩;have hd:=hd2.out;have hrow:=hQ1.fr.row HH.out.1.row HH.out.2.2.2.1;have k2z:=hrow.cell (o:=2) (v:=.pointer (some ⟨Y.q,0,none⟩)) rfl;have hmz:=hrow.lt;obtain ⟨b0,b1,b2,bz⟩:=row3 hr6;obtain ⟨r0,r1,r2,rz⟩:=row3 hr4;have hbl:=hr6.lt;have hrl:=hr4.lt
  have hnm:¬ D1 m:=fun e=>by
   rcases hQ1.sub m e with e|e
   · exact HH.out.2.2.2.1 e
   · omega
  have HZ:=Lib.hid (And.intro hr6 (And.intro hr4 (And.intro hJ1 (And.intro hQ1 (And.intro hrow (And.intro hnb (And.intro hnd hnm)))))));have hd3:=Lib.hid hd;clear hr6 hr4 hJ1 hQ1 hrow hd hnb hnd hnm;rcases hRR with ⟨rfl,her⟩|⟨hne,her⟩
  · obtain rfl:=HH.out.2.2.1 rfl;have hRe:=HH.out.2.1;rw [if_neg (by decide),offS_true,offS_true,Int.add_zero] at hRe;have HR:=Lib.hid hRe;clear hRe;have hS1:=Lib.hid fun w1 (f:Fr Non wz w1)=>qstore_j (HZ.out.2.2.1.non f) HH.out.2.2.2.2.2.2.2 ⟨true,xa,wrap64 xn⟩ (num 0);generalize hM2:(M1.store ⟨true,xa,wrap64 xn⟩ (num 0))=M2 at *;have HM2:=Lib.hid hM2;clear hM2;go_wp2_with fail
    have cW:=@Mix.cls_drew wz [m,br];refine Mix.wp_region_mix [3,4] [(0,0),(0,1),(0,2),(1,3),(1,4),(2,5),(2,6),(2,7)] (fun V=>∃ g,V=Mix.upon wz [m,br] g) (by kernel_rfl) (by kernel_rfl) cW ?_;clear cW;repeat (first|((first|refine Mix.qa ?_|refine Mix.qb ?_);intro K hK;simp only [nA,nB,nC];go_big_quiet_op;go_big_quiet_on)|refine Mix.qc ?_|refine Mix.qd ?_)
    refine Mix.S_eff rfl rfl ?_;intro K hK;simp only [nA,nB,nC];go_simp;refine (noff_c _ true xa xn 0).mono ?_;rintro e1 w1 ⟨rfl,hf⟩;refine hK _ _ ⟨Mix.cls_fr (D:=Non) hf (by simp [Non];omega),?_⟩;clear hK K;have hf1:Fr Non wz w1:=Fr.trans (by exact (Fr.refl _ _).drew) hf;have hz1:=hf.size;simp only [World.size_drew] at hz1;clear hf;refine Mix.S_eff rfl rfl ?_;intro K hK;simp only [nA,nB,nC];go_simp;refine (nnum_c _ 0).mono ?_;rintro e1 w2 ⟨rfl,hf⟩;refine hK _ _ ⟨Mix.cls_fr (D:=Non) hf (by simp [Non];omega),?_⟩;clear hK K;have hf2:Fr Non wz w2:=hf1.trans hf;have hz2:=hf.size;clear hf hf1;refine Mix.S_eff rfl rfl ?_;intro K hK;simp only [nA,nB,nC];go_simp;refine (hS1.out _ hf2).mono ?_;rintro e3 w3 ⟨rfl,D3,hJ3,hQ3⟩;refine hK _ _ ⟨Mix.cls_fr (D:=D1) hQ3.fr (by simp;exact ⟨⟨by omega,HZ.out.2.2.2.2.2.2.2⟩,⟨by omega,HZ.out.2.2.2.2.2.1⟩⟩),?_⟩;clear hK K;refine Mix.S_done ?_;have hq3:QF Y.Aq D3 w w3:=(HZ.out.2.2.2.1.trans (QF.non hf2)).trans hQ3;have hn3:∀ x,x<w2.heap.size→¬ D1 x→¬ D3 x:=fun x hx hn e=>(hQ3.sub x e).elim hn fun e=>by omega
    have hnb3:=hn3 br (by omega) HZ.out.2.2.2.2.2.1;have hnd3:=hn3 d (by omega) HZ.out.2.2.2.2.2.2.1;have hnm3:=hn3 m (by omega) HZ.out.2.2.2.2.2.2.2;have hq13:=(QF.non hf2).trans hQ3;have hr6:=hq13.fr.row HZ.out.1 HZ.out.2.2.2.2.2.1;have hr4:=hq13.fr.row HZ.out.2.1 HZ.out.2.2.2.2.2.2.1;have hrw:=hq13.fr.row HZ.out.2.2.2.2.1 HZ.out.2.2.2.2.2.2.2;have hs3:=hq13.fr.size;clear hQ3 hn3 hq13 hf2 hz1 hz2 hS1 b0 b1 b2 bz r0 r1 r2 rz k2z;have HZ3:=Lib.hid (And.intro hr6 (And.intro hr4 (And.intro hJ3 (And.intro hq3 (And.intro hrw (And.intro hnb3 (And.intro hnd3 hnm3)))))));have k2z:=hrw.cell (o:=2) (v:=.pointer (some ⟨Y.q,0,none⟩)) rfl;obtain ⟨b0,b1,b2,bz⟩:=row3 hr6;have hbl:=hr6.lt;have hml:=hrw.lt;have hdl:=hr4.lt;have hS2:=Lib.hid fun w1 (f:Fr Non w3 w1)=>qstore_j (hJ3.non f) (by have:=HH.out.1.cells;have:=HH.out.1.max;omega) ⟨true,xa,wrap64 (xn+2)⟩ (num i);generalize hM3:(M2.1.store ⟨true,xa,wrap64 (xn+2)⟩ (num i))=M3 at *;have HM3:=Lib.hid hM3;clear hM3 hr6 hr4 hJ3 hq3 hrw hnb3 hnd3 hnm3;go_wp2_with fail
    have cW:=@Mix.cls_drew w3 [m,br];refine Mix.wp_region_mix [3,4] [(0,0),(0,1),(0,2),(1,3),(1,4),(0,6),(2,5),(2,7),(2,8)] (fun V=>∃ g,V=Mix.upon w3 [m,br] g) (by kernel_rfl) (by kernel_rfl) cW ?_;clear cW;repeat (first|((first|refine Mix.qa ?_|refine Mix.qb ?_);intro K hK;simp only [nA,nB,nC];go_big_quiet_op;go_big_quiet_on)|refine Mix.qc ?_|refine Mix.qd ?_)
    refine Mix.S_eff rfl rfl ?_;intro K hK;simp only [nA,nB,nC];go_simp;refine (noff_c _ true xa xn 2).mono ?_;rintro e1 w4 ⟨rfl,hf⟩;refine hK _ _ ⟨Mix.cls_fr (D:=Non) hf (by simp [Non];omega),?_⟩;clear hK K;have hf4:Fr Non w3 w4:=Fr.trans (by exact (Fr.refl _ _).drew) hf;have hz4:=hf.size;simp only [World.size_drew] at hz4;clear hf;refine Mix.S_eff rfl rfl ?_;intro K hK;simp only [nA,nB,nC];go_simp;refine (nnum_c _ i).mono ?_;rintro e1 w5 ⟨rfl,hf⟩;refine hK _ _ ⟨Mix.cls_fr (D:=Non) hf (by simp [Non];omega),?_⟩;clear hK K;have hf5:Fr Non w3 w5:=hf4.trans hf;have hz5:=hf.size;clear hf hf4;refine Mix.S_eff rfl rfl ?_;intro K hK;simp only [nA,nB,nC];go_simp;refine (hS2.out _ hf5).mono ?_;rintro e6 w6 ⟨rfl,D6,hJ6,hQ6⟩;refine hK _ _ ⟨Mix.cls_fr (D:=D3) hQ6.fr (by simp;exact ⟨⟨by omega,HZ3.out.2.2.2.2.2.2.2⟩,⟨by omega,HZ3.out.2.2.2.2.2.1⟩⟩),?_⟩;clear hK K;refine Mix.S_done ?_;have hq36:=(QF.non hf5).trans hQ6;have hn6:¬ D6 d:=fun e=>(hQ6.sub d e).elim HZ3.out.2.2.2.2.2.2.1 fun e=>by omega
    have hr6:=hq36.fr.row HZ3.out.1 HZ3.out.2.2.2.2.2.1;have hr4:=hq36.fr.row HZ3.out.2.1 HZ3.out.2.2.2.2.2.2.1;have HZ6:=Lib.hid (And.intro hJ6 (And.intro (HZ3.out.2.2.2.1.trans hq36) hn6));obtain ⟨c0,c1,c2',cz⟩:=row3 hr6;obtain ⟨r0,r1,r2,rz⟩:=row3 hr4;have hcl:=hr6.lt;have hrl:=hr4.lt;clear hQ6 hq36 hf5 hz4 hz5 hS2 b0 b1 b2 bz k2z hr6 hr4 hJ6 hn6;go_wp2_with fail
    refine bodyPost_ret (v:=.tuple #[.agg #[.bool true,.int .i64 xa,.int .i64 xn],.int .i64 0]) (by simp [results,Tryz.results42,go_sem,r0,r1,r2]) rfl ⟨by rw [HR.out],?_⟩;rw [HR.out];obtain ⟨hJ6,hq6,hn6⟩:=HZ6.out;have hd:=hd3.out;have hfs:=Fr.set3 w6 d 0 1 2 (.bool true) (.int .i64 xa) (.int .i64 xn);refine HH.out.1.aftOp hT (hJ6.fr hfs fun x hx e=>hn6 (e ▸ hx)) ⟨hq6.fr.then hfs fun x hx e=>by omega,hq6.sub⟩ (by omega) ?_;have hl:=HH.out.2.2.2.2.2.2.1;rw [HR.out] at hl;exact hl
  · have hRe:=HH.out.2.1;rw [if_pos hne] at hRe;have HR:=Lib.hid hRe;clear hRe;go_wp2_with fail
    refine bodyPost_ret (v:=.tuple #[.agg #[.bool false,.int .i64 0,.int .i64 0],.int .i64 er]) (by simp [results,Tryz.results42,go_sem,r0,r1,r2]) rfl ⟨by rw [HR.out];rfl,?_⟩;rw [HR.out];have hd:=hd3.out;have hfs:=Fr.set3 wz d 0 1 2 (.bool false) (.int .i64 0) (.int .i64 0);refine HH.out.1.aftOp hT (HZ.out.2.2.1.fr hfs fun x hx e=>HZ.out.2.2.2.2.2.2.1 (e ▸ hx)) ⟨HZ.out.2.2.2.1.fr.then hfs fun x hx e=>by omega,HZ.out.2.2.2.1.sub⟩ (by omega) ?_;have hl:=HH.out.2.2.2.2.2.2.1;rw [HR.out] at hl;exact hl
end
theorem frame_err {P:Pr} {M:Mem} {co:Int} (hw:0≤(P.co co).words) (h:(frameS P M co).2.2≠0):(frameS P M co).2.2=10:=by
 have ha:(M.alloc (P.co co).words).2.2≠0→(M.alloc (P.co co).words).2.2=10:=by
  unfold Mem.alloc;rw [if_neg (by omega)];split
  · exact fun _=>rfl
  · exact fun e=>absurd rfl e
 unfold frameS at h ⊢;split
 · rename_i h1;exact ha h1
 · rename_i h1;rw [if_neg h1] at h;exact absurd rfl h
theorem frame_p {P:Pr} {M:Mem} {co:Int} (h:(frameS P M co).2.2=0):(frameS P M co).2.1.p=true:=by
 unfold frameS at h ⊢;split
 · rename_i h1;rw [if_pos h1] at h;exact absurd h h1
 · rename_i h1;exact alloc_p (Classical.not_not.1 h1)
theorem args_len (p:Wd) (l:List Int):∀ (M:Mem) (i:Nat),(argsS M p i l).blocks.length=M.blocks.length:=by
 induction l with
 | nil=>intro M i;rfl
 | cons n l ih=>intro M i;unfold argsS;rw [ih,store_len]
section
variable {base:Nat} {P:Pr} {A:Nat→Prop} {T:Nat} {w:World} {m:Nat} {S:St} {Y:NY}
theorem NAft.join {A1:Nat→Prop} {w1 w':World} {S':St} (h2:∀ x,A1 x→A x∨w.heap.size≤x) (h3:Fr A w w1) (h4:Kp w w1 m) (k:NAft base P A1 T w1 w' m S'):NAft base P A T w w' m S':=by
 obtain ⟨A2,k1,k2,k3,k4⟩:=k;refine ⟨A2,k1,fun x hx=>?_,h3.then k3 fun x hx e=>?_,h4.trans k4⟩
 · rcases k2 x hx with e|e
   · exact h2 x e
   · exact Or.inr (Nat.le_trans h3.size e)
 · rcases h2 x e with e|e
   · exact e
   · omega
theorem NAft.boxIn {E:Nat→Prop} {b:Nat} {w1 w':World} {S':St} (k:NAft base P A T w w1 m S') (f:Fr (fun x=>x=b) w1 w') (hb:base≤b) (hA:¬ A b) (hE:∀ x,A x→E x) (hl:b<w.heap.size) (hEb:E b):∃ A',NInv base P A' T w' m S'∧(∀ x,A' x→A x∨w.heap.size≤x)∧Fr E w w'∧Kp w w' m:=by
 obtain ⟨A2,⟨Y,k1⟩,k2,k3,k4⟩:=k;have hn:¬ A2 b:=fun e=>(k2 b e).elim hA fun e=>by omega
 have hm:¬ m=b:=fun e=>hn (e ▸ k1.am);exact ⟨A2,⟨Y,k1.frE f (fun x hx=>by rw [hx];exact hb) fun x hx e=>hn (e ▸ hx)⟩,k2,(k3.mono fun x _ hx=>hE x hx).trans (f.mono fun x _ hx=>hx ▸ hEb),k4.trans (Kp.fr f k1.mlt fun e=>hm e)⟩
theorem NAft.box {b:Nat} {w0 w1 w':World} {S':St} (f0:Fr Non w0 w) (k:NAft base P A T w w1 m S') (f:Fr (fun x=>x=b) w1 w') (hb:base≤b) (hA:¬ A b) (hl:b<w.heap.size) (hb0:w0.heap.size≤b) (hm:m<w0.heap.size):NAft base P A T w0 w' m S':=by
 obtain ⟨A2,k1,k2,k3,k4⟩:=k.boxIn (E:=fun x=>A x∨x=b) f hb hA (fun x hx=>Or.inl hx) hl (Or.inr rfl);exact ⟨A2,k1,fun x hx=>(k2 x hx).imp id fun e=>Nat.le_trans f0.size e,(f0.mono fun _ _ h=>h.elim:Fr A w0 w).then k3 fun x hx e=>by rcases e with e|e;exact e;omega,(Kp.fr f0 hm id).trans k4⟩
theorem nstart_c (h:NInv base P A T w m S) (hT:T+2≤400000) (hcs:∀ x∈P.cos,x.args≤2097152∧0≤x.words) (co:Int) (l:List Int) (ao:Option Addr) (cap:Nat) (hc:IntsAt base w ao l) :
 Calls Tryz.prog 13 #[.pointer (some ⟨m,0,none⟩),.int .i64 co,.slice ao l.length cap] w fun e w' =>
  e=.returned (.tuple #[.agg #[.bool (startS P S co l).2.1.p,.int .i64 (startS P S co l).2.1.a,.int .i64 (startS P S co l).2.1.n],.int .i64 (startS P S co l).2.2.1,.int .i64 (startS P S co l).2.2.2])∧NAft base P A (T+2) w w' m (startS P S co l).1:=by
 obtain ⟨Y,h⟩:=h;have hm:=h.mlt;obtain ⟨R,hR⟩:∃ R,R=startS P S co l:=⟨_,rfl⟩;rw [← hR];unfold startS at hR;have c1:w.cell? ⟨m,1,none⟩=some (.slice Y.co P.cos.length Y.cc):=h.row.cell rfl;have hmore:∀ w',Fr Non w w'→NAft base P A (T+2) w w' m S:=fun w' f=>(h.more (by omega) hT).aftN f;have HH:=Lib.hid (And.intro h (And.intro hc (And.intro hmore hcs)));by_cases hco:co<0
 · have hd:decide (co<0)=true:=decide_eq_true hco;rw [if_pos (Or.inl hco)] at hR;have HR:=Lib.hid hR;clear h hc hR c1 hmore hcs;go_enter Tryz.func13,Tryz.ntmps13
   go_wp2_with fail
   refine bodyPost_ret (v:=.tuple #[.agg #[.bool false,.int .i64 0,.int .i64 0],.int .i64 6,.int .i64 1]) (by simp [results,Tryz.results13,go_sem]) rfl ?_;rw [HR.out];exact ⟨rfl,HH.out.2.2.1 _ (by exact (by repeat (first|exact .refl _ _|assumption|apply Fr.drewN|apply Fr.drew|apply Fr.drewl|apply Fr.drewNl|apply Fr.alloc|(refine Fr.setCell ?_ (Or.inr (by simp)) _)|refine Fr.trans ?_ (by assumption))))⟩
 have hd:decide (co<0)=false:=decide_eq_false hco;obtain ⟨i,rfl⟩:=Int.eq_ofNat_of_zero_le (show 0≤co by omega);have hi0:¬ ((i:Int)<0):=by omega
 have hi00:(0:Int)≤(i:Int):=by omega
 by_cases hi:P.cos.length≤i
 · have hi1:(P.cos.length:Int)≤(i:Int):=by omega
   rw [if_pos (Or.inr (Or.inl hi1))] at hR;have HR:=Lib.hid hR;clear h hc hR hmore hcs;go_enter Tryz.func13,Tryz.ntmps13
   go_wp2_with fail
   refine bodyPost_ret (v:=.tuple #[.agg #[.bool false,.int .i64 0,.int .i64 0],.int .i64 6,.int .i64 1]) (by simp [results,Tryz.results13,go_sem]) rfl ?_;rw [HR.out];exact ⟨rfl,HH.out.2.2.1 _ (by exact (by repeat (first|exact .refl _ _|assumption|apply Fr.drewN|apply Fr.drew|apply Fr.drewl|apply Fr.drewNl|apply Fr.alloc|(refine Fr.setCell ?_ (Or.inr (by simp)) _)|refine Fr.trans ?_ (by assumption))))⟩
 have hi1:¬ (P.cos.length:Int)≤(i:Int):=by omega
 have hi2:(i:Int)<(P.cos.length:Int):=by omega
 have hil:i<P.cos.length:=by omega
 have hPc:P.co (i:Int)=P.cos[i]:=by unfold Pr.co;rw [Int.toNat_natCast,List.getD_eq_getElem?_getD,List.getElem?_eq_getElem hil];rfl
 obtain ⟨cb,co',e,hcc⟩:=h.cos (by omega);obtain ⟨_,_,_,_,g4⟩:=crs_get (List.getElem?_eq_getElem hil);have k4:=(hcc _ _ g4).2;rw [← Nat.add_assoc] at k4;rw [e] at c1;have hcb:=World.block_lt_of_cell? w _ k4;have hcx:=hcs _ (List.getElem_mem hil);have hfe:=@frame_err P S.mem i (by rw [hPc];exact hcx.2);have hfp:=@frame_p P S.mem i;rw [hPc] at hR;generalize hxx:P.cos[i]=xx at *;by_cases hargs:(l.length:Int)=xx.args
 · have hl:l.length≤2097152:=by omega
   have hae:((l.length:Int) == xx.args)=true:=by simp [hargs]
   have han:((l.length:Int) != xx.args)=false:=by simp [hargs]
   rw [if_neg (by omega)] at hR;have hF:=Lib.hid fun w1 (f:Fr Non w w1)=>nframe_c (h.frN f) (by omega) hil;generalize frameS P S.mem (i:Int)=U at *;obtain ⟨M',⟨pp,pa,pn⟩,er⟩:=U;simp only at hF hR hfe hfp;have HR:=Lib.hid (And.intro hR (And.intro hfe (And.intro hfp hl)));have hlt:=h.lt;have HL:=Lib.hid hlt;rw [← hargs] at k4;clear h hc hR hcc g4 hPc hxx hfe hfp hlt hmore hcs hcx;go_enter Tryz.func13,Tryz.ntmps13
   go_wp2_with fail
   have hf0:Fr Non w (w.alloc (.cells #[.bool false,.int .i64 0,.int .i64 0] 40)):=by exact fx
   have r6:Row (w.alloc (.cells #[.bool false,.int .i64 0,.int .i64 0] 40)) w.heap.size 40 [.bool false,.int .i64 0,.int .i64 0]:=Row.new' rfl;have hs0:(w.alloc (.cells #[.bool false,.int .i64 0,.int .i64 0] 40)).heap.size=w.heap.size+1:=by simp
   refine (hF.out _ hf0).mono ?_;generalize (w.alloc (.cells #[.bool false,.int .i64 0,.int .i64 0] 40))=W at *;rintro e1 w1 ⟨rfl,A1,⟨Y1,hN1⟩,hA1,hf1,hk1⟩;have hs1:=hf1.size;have n6:¬ A w.heap.size:=fun e=>by have:=HL.out _ e;omega
   have r61:=hf1.row r6 n6
   have m6:¬ A1 w.heap.size:=fun e=>by
    rcases hA1 _ e with h|h
    · exact n6 h
    · omega
   have h61:=r61.lt;have H1:=Lib.hid (And.intro hN1 (And.intro hA1 (And.intro hf1 (And.intro hk1 (And.intro r61 (And.intro hf0 m6))))));obtain ⟨a0,a1,a2,az⟩:=row3 r61;have c2:=hN1.c2;have hm1:=hN1.mlt;clear hN1 hA1 hf1 hk1 r61 r6 hf0 n6 m6 k4 c1 HL;have hcase:(er=0∧(er == 0)=true∧(er != 0)=false)∨(er≠0∧(er == 0)=false∧(er != 0)=true):=by by_cases h:er=0 <;> simp [h]
   rcases hcase with ⟨rfl,he,hen⟩|⟨hne,he,hen⟩
   · obtain rfl:=HR.out.2.2.1 rfl;have hR:=HR.out.1;rw [if_neg (fun e=>e rfl)] at hR;have HRR:=Lib.hid hR;have hll:=HR.out.2.2.2;clear hR;go_wp2_with fail
     have rV:Row (w1.alloc (.cells #[.bool true,.int .i64 pa,.int .i64 pn] 40)) w1.heap.size 40 [.bool true,.int .i64 pa,.int .i64 pn]:=Row.new' rfl;have fV:Fr Non w1 (w1.alloc (.cells #[.bool true,.int .i64 pa,.int .i64 pn] 40)):=(Fr.refl _ _).alloc _;have sV:(w1.alloc (.cells #[.bool true,.int .i64 pa,.int .i64 pn] 40)).heap.size=w1.heap.size+1:=by simp
     generalize (w1.alloc (.cells #[.bool true,.int .i64 pa,.int .i64 pn] 40))=V at *;obtain ⟨hN1,hA1,hf1,hk1,r61,hf0,m6⟩:=H1.out;have hq:∀ x,Y1.Aq x→A1 x:=hN1.aq;have hHq:High base Y1.Aq:=fun x hx=>hN1.high x (hq x hx);have ng:¬ Y1.Aq w1.heap.size:=fun e=>by have:=hN1.lt _ (hq _ e);omega
     have nq6:¬ Y1.Aq w.heap.size:=fun e=>m6 (hq _ e);have nqm:¬ Y1.Aq m:=fun e=>(hN1.sep m e).1 rfl;have hcV:IntsAt base V ao l:=((HH.out.2.1.fr hf0 (high_non _)).fr hf1 (fun x hx=>HH.out.1.high x hx)).fr fV (high_non _);have hBB:Y1.B+l.length≤900000000000:=by have:=hN1.hB;have:=hN1.cells;have:=hN1.max;omega
     have hbw:base≤w1.heap.size:=hN1.base_le;have HV:=Lib.hid (And.intro (hN1.frN fV) (And.intro fV (And.intro hcV (And.intro hHq (And.intro ng (And.intro nq6 (And.intro nqm (And.intro (fV.row r61 id) (And.intro rV (And.intro hBB hbw))))))))));generalize w1.heap.size=g at *;clear hN1 hA1 hf1 hk1 r61 hf0 m6 hq hHq ng nq6 nqm hcV hBB hbw rV a0 a1 a2 az c2
     go_loopw [11] (fun v11 wr=>∃ k:Nat,k≤l.length∧v11=.int .i64 k∧∃ D,RJ D (Y1.B+k) wr Y1.q (argsS M' ⟨true,pa,pn⟩ 0 (l.take k))∧QF Y1.Aq D V wr) (fun v11 _=>l.length - (intOf v11).toNat)
     case atStart=>exact ⟨0,Nat.zero_le _,rfl,Y1.Aq,HV.out.1.mem,QF.refl _ _⟩
     case round =>
      obtain ⟨k,hk,rfl,D,hJ,hQ⟩:=hrel;have rr:=hQ.fr.row HV.out.2.2.2.2.2.2.2.2.1 HV.out.2.2.2.2.1;have rm:=hQ.fr.row HV.out.1.row HV.out.2.2.2.2.2.2.1;have hsr:=hQ.fr.size;obtain ⟨g0,g1,g2,gz⟩:=row3 rr;have hk0:(0:Int)≤(k:Int):=by omega
      by_cases hkl:k<l.length
      · have hk1:(k:Int)<(l.length:Int):=by omega
        obtain ⟨ab,aof,eao,hcell⟩:=(HV.out.2.2.1.fr hQ.fr HV.out.2.2.2.1) k l[k] (List.getElem?_eq_getElem hkl);have hab:=hcell.1;have hcr:=hcell.2;have hbg:=HV.out.2.2.2.2.2.2.2.2.2.2;have habl:=World.block_lt_of_cell? wr _ hcr;have nqa:¬ Y1.Aq ab:=fun e=>by have:=HV.out.2.2.2.1 _ e;omega
        subst eao;have hw3:IntKind.i64.wrap (3+(k:Int))=3+(k:Int):=IntWalk.i64_in _ (by omega);have hw1:IntKind.i64.wrap ((k:Int)+1)=(k:Int)+1:=IntWalk.i64_in _ (by omega);have c2:wr.cell? ⟨m,1+1,none⟩=some (.pointer (some ⟨Y1.q,0,none⟩)):=rm.cell rfl;have c2':wr.cell? ⟨m,2,none⟩=some (.pointer (some ⟨Y1.q,0,none⟩)):=rm.cell rfl;have hmr:=rm.lt;have hgr:=rr.lt
        have hstep:argsS M' ⟨true,pa,pn⟩ 0 (l.take (k+1))=((argsS M' ⟨true,pa,pn⟩ 0 (l.take k)).store ⟨true,pa,wrap64 (pn+(3+(k:Int)))⟩ ⟨false,0,l[k]⟩).1:=by
         rw [List.take_succ_eq_append_getElem hkl,argsS_snoc,offS_true,List.length_take,Nat.min_eq_left (Nat.le_of_lt hkl),Nat.zero_add]
         rfl
        generalize l[k]=lk at *;have HX:=Lib.hid (And.intro hJ (And.intro hQ (And.intro hstep nqa)));clear hJ hQ rr rm hcell hstep nqa;go_wp2_with fail
        have cW:=@Mix.cls_drew wr [m,g,ab];refine Mix.wp_region_mix [3,4,11] [(0,0),(0,1),(0,2),(1,3),(1,4),(0,5),(0,6),(0,8),(0,9),(0,10),(1,11),(2,7),(2,12),(2,13)] (fun U=>∃ g',U=Mix.upon wr [m,g,ab] g') (by kernel_rfl) (by kernel_rfl) cW ?_;clear cW;repeat (first|((first|refine Mix.qa ?_|refine Mix.qb ?_);intro K hK;simp only [nA,nB,nC];go_big_quiet_op;go_big_quiet_on)|refine Mix.qc ?_|refine Mix.qd ?_)
        refine Mix.S_eff rfl rfl ?_;intro K hK;simp only [nA,nB,nC];go_simp;refine (noff_c _ true pa pn (3+(k:Int))).mono ?_;rintro e1 w5 ⟨rfl,hf⟩;refine hK _ _ ⟨Mix.cls_fr (D:=Non) hf (by simp [Non];omega),?_⟩;clear hK K;have hf5:Fr Non wr w5:=Fr.trans (by exact (Fr.refl _ _).drew) hf;have hs5:=hf5.size;clear hf;refine Mix.S_eff rfl rfl ?_;intro K hK;simp only [nA,nB,nC];go_simp;refine (nnum_c _ lk).mono ?_;rintro e1 w6 ⟨rfl,hf⟩;refine hK _ _ ⟨Mix.cls_fr (D:=Non) hf (by simp [Non];omega),?_⟩;clear hK K;have hf6:Fr Non wr w6:=hf5.trans hf;have hs6:=hf6.size;clear hf hf5;have HF6:=Lib.hid hf6;clear hf6;refine Mix.S_eff rfl rfl ?_;intro K hK;simp only [nA,nB,nC];go_simp;refine (qstore_j (HX.out.1.non HF6.out) (by have:=HV.out.2.2.2.2.2.2.2.2.2.1;omega) ⟨true,pa,wrap64 (pn+(3+(k:Int)))⟩ ⟨false,0,lk⟩).mono ?_;rintro e1 w7 ⟨rfl,D7,hJ7,hQ7⟩;have hno:∀ x,x<V.heap.size→¬ Y1.Aq x→¬ D x:=fun x hx hn e=>(HX.out.2.1.sub x e).elim hn fun e=>by omega
        refine hK _ _ ⟨Mix.cls_fr (D:=D) hQ7.fr (by simp;exact ⟨⟨by omega,hno _ (by omega) HV.out.2.2.2.2.2.2.1⟩,⟨by omega,hno _ (by omega) HV.out.2.2.2.2.1⟩,⟨by omega,hno _ (by omega) HX.out.2.2.2⟩⟩),?_⟩;clear hK K hno;have HY:=Lib.hid (And.intro hJ7 ((HX.out.2.1.trans (QF.non HF6.out)).trans hQ7));clear hJ7 hQ7;repeat (first|((first|refine Mix.qa ?_|refine Mix.qb ?_);intro K hK;simp only [nA,nB,nC];go_big_quiet_op;go_big_quiet_on)|refine Mix.qc ?_|refine Mix.qd ?_)
        refine Mix.S_done ?_;go_wp2_with fail
        refine ⟨⟨k+1,by omega,rfl,D7,?_,HY.out.2⟩,by simp [intOf];omega⟩;rw [HX.out.2.2.1];exact HY.out.1
      · have hkk:k=l.length:=by omega
        subst hkk;rw [List.take_length] at hJ;have hr6:=hQ.fr.row HV.out.2.2.2.2.2.2.2.1 HV.out.2.2.2.2.2.1;obtain ⟨a0,a1,a2,az⟩:=row3 hr6;have hl6:=hr6.lt;have HX:=Lib.hid (And.intro hJ hQ);clear hJ hQ rr rm hr6;go_wp2_with fail
        rw [HRR.out];refine bodyPost_ret (v:=.tuple #[.agg #[.bool true,.int .i64 pa,.int .i64 pn],.int .i64 2,.int .i64 0]) (by simp [results,Tryz.results13,go_sem,a0,a1,a2]) rfl ⟨rfl,?_⟩;obtain ⟨hN1,hA1,hf1,hk1,r61,hf0,m6⟩:=H1.out;have hop:=HV.out.1.aftOp (by omega) HX.out.1 HX.out.2 (by omega) (by show (argsS M' ⟨true,pa,pn⟩ 0 l).blocks.length≤M'.blocks.length+1;rw [args_len];omega);have hj:=NAft.join hA1 hf1 hk1 (NAft.ahead HV.out.2.1 hN1.mlt hop);exact NAft.box hf0 hj (Fr.set3 _ _ _ _ _ _ _ _) HH.out.1.base_le (fun e=>by have:=HH.out.1.lt _ e;omega) (by omega) (Nat.le_refl _) hm
   · obtain rfl:=HR.out.2.1 hne;have hR:=HR.out.1;rw [if_pos hne] at hR;have HRR:=Lib.hid hR;clear hR;go_wp2_with fail
     have hrf:Row ((((w1.setCell ⟨w.heap.size,0,none⟩ (.bool false)).setCell ⟨w.heap.size,1,none⟩ (.int .i64 0)).setCell ⟨w.heap.size,2,none⟩ (.int .i64 0)).alloc (.cells #[.bool pp,.int .i64 pa,.int .i64 pn] 40)) w.heap.size 40 [.bool false,.int .i64 0,.int .i64 0]:=(((H1.out.2.2.2.2.1.set_same 0 (.bool false)).set_same 1 (.int .i64 0)).set_same 2 (.int .i64 0)).alloc _;have hff:Fr (fun x=>x=w.heap.size) w1 ((((w1.setCell ⟨w.heap.size,0,none⟩ (.bool false)).setCell ⟨w.heap.size,1,none⟩ (.int .i64 0)).setCell ⟨w.heap.size,2,none⟩ (.int .i64 0)).alloc (.cells #[.bool pp,.int .i64 pa,.int .i64 pn] 40)):=(Fr.set3 _ _ _ _ _ _ _ _).alloc _;clear a0 a1 a2 az;generalize ((((w1.setCell ⟨w.heap.size,0,none⟩ (.bool false)).setCell ⟨w.heap.size,1,none⟩ (.int .i64 0)).setCell ⟨w.heap.size,2,none⟩ (.int .i64 0)).alloc (.cells #[.bool pp,.int .i64 pa,.int .i64 pn] 40))=wf at *;obtain ⟨a0,a1,a2,az⟩:=row3 hrf;rw [HRR.out];refine bodyPost_ret (v:=.tuple #[.agg #[.bool false,.int .i64 0,.int .i64 0],.int .i64 5,.int .i64 0]) (by simp [results,Tryz.results13,go_sem,a0,a1,a2]) rfl ⟨rfl,?_⟩;obtain ⟨hN1,hA1,hf1,hk1,r61,hf0,m6⟩:=H1.out;have hj:NAft base P A (T+2) W w1 m { S with mem:=M' }:=⟨A1,⟨Y1,hN1.more (by omega) hT⟩,hA1,hf1,hk1⟩;exact NAft.box hf0 hj hff HH.out.1.base_le (fun e=>by have:=HH.out.1.lt _ e;omega) (by omega) (Nat.le_refl _) hm
 · have hae:((l.length:Int) == xx.args)=false:=by simp [hargs]
   have han:((l.length:Int) != xx.args)=true:=by simp [hargs]
   rw [if_pos (by omega)] at hR;have HR:=Lib.hid hR;clear h hc hR hcc g4 hPc hxx hfe hfp hmore hcs hcx;go_enter Tryz.func13,Tryz.ntmps13
   go_wp2_with fail
   refine bodyPost_ret (v:=.tuple #[.agg #[.bool false,.int .i64 0,.int .i64 0],.int .i64 6,.int .i64 1]) (by simp [results,Tryz.results13,go_sem]) rfl ?_;rw [HR.out];exact ⟨rfl,HH.out.2.2.1 _ (by exact (by repeat (first|exact .refl _ _|assumption|apply Fr.drewN|apply Fr.drew|apply Fr.drewl|apply Fr.drewNl|apply Fr.alloc|(refine Fr.setCell ?_ (Or.inr (by simp)) _)|refine Fr.trans ?_ (by assumption))))⟩
end
end Go.Proofs.YtlbomnbpahmphaaGreat
