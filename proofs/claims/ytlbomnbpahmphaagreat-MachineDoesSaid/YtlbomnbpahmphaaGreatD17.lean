/- Walks: 'Kinds', 'Valid' over a program without coroutines and of no function, or of one that is empty. -/
import Derived.Test.YtlbomnbpahmphaaGreatD08
import Derived.Test.YtlbomnbpahmphaaGreatD07
import Derived.Test.YtlbomnbpahmphaaGreatD16
set_option maxRecDepth 100000
set_option maxHeartbeats 2000000
namespace Go.Proofs.YtlbomnbpahmphaaGreat
open Go.RowKit
theorem Tryz.infoInt:(Tryz.prog.info? 3).map (fun i=>(i.zero,i.size,i.bytes))=some (some (.int .i64 0),1,8):=by kernel_rfl
theorem madeCells_int (k:Nat):(madeCells #[.int .i64 0] (k * 1)).toList=List.replicate k (.int .i64 0):=by
 refine List.eq_replicate_iff.2 ⟨by simp [madeCells],?_⟩;simp [madeCells,Nat.mod_one]
def fldS (x:In):List (Int × Int):=[((shapeS x.op).a,x.a),((shapeS x.op).b,x.b),((shapeS x.op).c,x.c)]
def someS (l:List (Int × Int)):List Int:=(l.filter fun e=>e.1 == 1).map (·.2)
theorem reads_some (x:In):someS (fldS x)=readsS x:=by
 unfold someS fldS readsS;cases h1:((shapeS x.op).a == 1) <;> cases h2:((shapeS x.op).b == 1) <;> cases h3:((shapeS x.op).c == 1) <;> simp [h1,h2,h3]
def ints (l:List Int):List Value:=l.map (Value.int .i64)
theorem Tryz.infoField:(Tryz.prog.info? 185).map (fun i=>(i.zero,i.size,i.bytes))=some (some (.int .i64 0),1,8):=by kernel_rfl
theorem run_index_arr {T e:TypeId} {j:TypeInfo} {d:TypeDesc} {cs:Array Value} {n:Nat} (hT:Tryz.prog.underlying T=some (.array n e)) (he:Tryz.prog.underlying e=some d) (hd:(match d with|.struct _|.array _ _=>true|_=>false)=false) (hj:Tryz.prog.info? e=some j) (hs:j.size=1) (W:World) (i:Nat) (hi:i<n) {v:Value} (hv:cs[i]?=some v) :
 (Instr.index T (.agg cs) (.int .i64 i)).run Tryz.prog W=.ok v W:=by
 have hagg:(isAgg e).run Tryz.prog W=.ok false W:=by
  unfold isAgg;rw [Sem.run_bind,run_underlying he W];cases d <;> simp_all
 have h1:(0:Int)≤(i:Int)∧(i:Int)<(n:Int):=by omega
 have hlt:i<cs.size:=(Array.getElem?_eq_some_iff.1 hv).1;have hv2:cs[i]=v:=(Array.getElem?_eq_some_iff.1 hv).2;simp [Instr.index,asIntOf,run_underlying hT,hi,sizeOf,typeInfo,hj,hs,part,hagg,Result.andThen,hv]
theorem reads_c (w:World) (x:In) (la:Option Addr) (lc:Nat):Calls Tryz.prog 122 #[.agg #[.int .i64 x.op,.int .i64 x.a,.int .i64 x.b,.int .i64 x.c,.slice la x.l.length lc]] w fun e w' =>
 ∃ v,e=.returned v∧Own w' v 3 1 (readsS x).length (ints (readsS x))∧(∀ g,v.ownBlock=some g→w.heap.size≤g)∧Fr Non w w':=by
 have hS:=Lib.hid fun w1=>shapeOf_c w1 x la lc;obtain ⟨j0,hj,hj0,hj1,hj2⟩:=info_parts Tryz.infoInt;obtain ⟨k0,hk0',hk1',hk2',hk3'⟩:=info_parts Tryz.infoField;obtain ⟨F,hF⟩:∃ F,F=fldS x:=⟨_,rfl⟩;have hRS:=reads_some x;rw [← hF] at hRS;rw [← hRS];unfold fldS at hF;clear hRS;obtain ⟨op,a,b,c,l⟩:=x;simp only at hS hF ⊢;generalize shapeS op=sh at *;obtain ⟨sa,sb,sc,sl,ok⟩:=sh;simp only at hS hF;have HF:=Lib.hid hF;clear hF;go_enter Tryz.func122,Tryz.ntmps122
 go_wp2_with fail
 refine (hS.out _).mono ?_;rintro e1 w1 ⟨rfl,hf⟩;have hf1:Fr Non w w1:=Fr.trans (by exact fx) hf;have rx:Row w1 w.heap.size 128 [.int .i64 op,.int .i64 a,.int .i64 b,.int .i64 c,.slice la l.length lc]:=hf.row (by exact Row.new' rfl) id;have hwl:=rx.lt;have HX:=Lib.hid (And.intro hf1 rx);clear hf hf1 rx;go_wp2_with fail
 have hfW:Fr Non w1 (w1.alloc (.cells #[.int .i64 sa,.int .i64 sb,.int .i64 sc,.int .i64 sl] 187)):=(Fr.refl _ _).alloc _;have hxW:=hfW.row HX.out.2 id;have hwf:=HX.out.1.trans hfW;generalize w1.alloc (.cells #[.int .i64 sa,.int .i64 sb,.int .i64 sc,.int .i64 sl] 187)=W at *;have HW:=Lib.hid (And.intro hwf hxW);have hWs:=hfW.size;clear hfW hxW hwf HX
 go_loopw [5,20] (fun v5 v20 wr=>(v20=.int .i64 0∧Own wr v5 3 1 (someS (F.take 0)).length (ints (someS (F.take 0)))∧(∀ g,v5.ownBlock=some g→W.heap.size≤g)∧Fr Non W wr)∨(v20=.int .i64 1∧Own wr v5 3 1 (someS (F.take 1)).length (ints (someS (F.take 1)))∧(∀ g,v5.ownBlock=some g→W.heap.size≤g)∧Fr Non W wr)∨(v20=.int .i64 2∧Own wr v5 3 1 (someS (F.take 2)).length (ints (someS (F.take 2)))∧(∀ g,v5.ownBlock=some g→W.heap.size≤g)∧Fr Non W wr)∨(v20=.int .i64 3∧Own wr v5 3 1 (someS (F.take 3)).length (ints (someS (F.take 3)))∧(∀ g,v5.ownBlock=some g→W.heap.size≤g)∧Fr Non W wr)) (fun _ v20 _=>3 - (intOf v20).toNat)
 case atStart=>exact Or.inl ⟨rfl,Own.nil _ _ _,fun g hg=>(by cases hg),Fr.refl _ _⟩
 case round =>
  rcases hrel with ⟨rfl,hO,hg,hfr⟩|⟨rfl,hO,hg,hfr⟩|⟨rfl,hO,hg,hfr⟩|⟨rfl,hO,hg,hfr⟩
  · have hix:∀ W':World,(Instr.index 205 (.agg #[.int .i64 sa,.int .i64 sb,.int .i64 sc]) (.int .i64 0)).run Tryz.prog W'=.ok (.int .i64 sa) W':=fun W'=>run_index_arr Tryz.underlying205 Tryz.underlying185 rfl hk0' hk2' W' 0 (by omega) rfl;have hiy:∀ W':World,(Instr.index 206 (.agg #[.int .i64 a,.int .i64 b,.int .i64 c]) (.int .i64 0)).run Tryz.prog W'=.ok (.int .i64 a) W':=fun W'=>run_index_arr Tryz.underlying206 Tryz.underlying3 rfl hj hj1 W' 0 (by omega) rfl
    have hst:someS (F.take 1)=someS (F.take 0) ++ (if sa == 1 then [a] else []):=by
     rw [HF.out];unfold someS;cases h:(sa == 1) <;> simp [h]
     all_goals (repeat' split) <;> simp_all
    obtain ⟨x0,x1,x2,x3,x4,xz⟩:=row5 (hfr.row HW.out.2 id);have hws:=hfr.size;have hwr:w.heap.size<wr.heap.size:=by omega
    have hlen:(someS (F.take 0)).length≤3:=by rw [HF.out];unfold someS;rw [List.length_map];exact Nat.le_trans (List.length_filter_le _ _) (by simp)
    cases hk:(sa == 1) with
    | true =>
     rw [hk,if_pos rfl] at hst;obtain ⟨g,cap,w2,hrun,ho2,hf2,hg2,hlt2⟩:=run_app (P:=Tryz.prog) (w:=wr.alloc (.cells #[.int .i64 a] 3)) (hO.fr ((Fr.refl Non wr).alloc _) (fun _ _ h=>h)) 36 36 j0 _ 8 Tryz.underlying36 hj hj0 hj1 hj2 rfl (by omega) wr.heap.size 0 1 1 [.int .i64 a] rfl (by exact (Row.new' rfl).news) (fun u hu=>by simp at hu;subst hu;rfl) (by omega) (by omega) (by unfold maxLen;omega);have HO:=Lib.hid (And.intro ho2 (And.intro hf2 (And.intro hg2 (And.intro hg (And.intro hst hfr)))));obtain ⟨ao,cap0,e5,_⟩:=hO.form;clear ho2 hf2 hg2 hO hg hst hfr hlt2;go_wp2_with (at_builtin;refine wpList_app rfl (.tmp 26) (.tmp 36) _ rfl rfl rfl _ rfl hrun ?_)
     obtain ⟨ho2,hf2,hg2,hg,hst,hfr⟩:=HO.out;refine ⟨Or.inr (Or.inl ⟨rfl,?_,?_,?_⟩),by simp [intOf]⟩
     · rw [hst,List.length_append];unfold ints at ho2 ⊢;rw [List.map_append];exact ho2
     · intro q hq;simp [Value.ownBlock] at hq;subst hq;rcases hg2 with h|h
       · exact hg _ h
       · simp at h;omega
     · exact Fr.then (D:=Non) (by exact hfr.alloc _) hf2 (fun y hy hy'=>absurd hy (by have:=hg y hy';omega))
    | false =>
     rw [hk,if_neg (by simp),List.append_nil] at hst;have HO:=Lib.hid (And.intro hO (And.intro hg (And.intro hst hfr)));clear hO hg hst hfr;go_wp2_with fail
     obtain ⟨hO,hg,hst,hfr⟩:=HO.out;refine ⟨Or.inr (Or.inl ⟨rfl,?_,hg,hfr⟩),by simp [intOf]⟩;rw [hst];exact hO
  · have hix:∀ W':World,(Instr.index 205 (.agg #[.int .i64 sa,.int .i64 sb,.int .i64 sc]) (.int .i64 1)).run Tryz.prog W'=.ok (.int .i64 sb) W':=fun W'=>run_index_arr Tryz.underlying205 Tryz.underlying185 rfl hk0' hk2' W' 1 (by omega) rfl;have hiy:∀ W':World,(Instr.index 206 (.agg #[.int .i64 a,.int .i64 b,.int .i64 c]) (.int .i64 1)).run Tryz.prog W'=.ok (.int .i64 b) W':=fun W'=>run_index_arr Tryz.underlying206 Tryz.underlying3 rfl hj hj1 W' 1 (by omega) rfl
    have hst:someS (F.take 2)=someS (F.take 1) ++ (if sb == 1 then [b] else []):=by
     rw [HF.out];unfold someS;cases h:(sb == 1) <;> simp [List.filter_cons,h]
     all_goals (repeat' split) <;> simp_all
    obtain ⟨x0,x1,x2,x3,x4,xz⟩:=row5 (hfr.row HW.out.2 id);have hws:=hfr.size;have hwr:w.heap.size<wr.heap.size:=by omega
    have hlen:(someS (F.take 1)).length≤3:=by rw [HF.out];unfold someS;rw [List.length_map];exact Nat.le_trans (List.length_filter_le _ _) (by simp)
    cases hk:(sb == 1) with
    | true =>
     rw [hk,if_pos rfl] at hst;obtain ⟨g,cap,w2,hrun,ho2,hf2,hg2,hlt2⟩:=run_app (P:=Tryz.prog) (w:=wr.alloc (.cells #[.int .i64 b] 3)) (hO.fr ((Fr.refl Non wr).alloc _) (fun _ _ h=>h)) 36 36 j0 _ 8 Tryz.underlying36 hj hj0 hj1 hj2 rfl (by omega) wr.heap.size 0 1 1 [.int .i64 b] rfl (by exact (Row.new' rfl).news) (fun u hu=>by simp at hu;subst hu;rfl) (by omega) (by omega) (by unfold maxLen;omega);have HO:=Lib.hid (And.intro ho2 (And.intro hf2 (And.intro hg2 (And.intro hg (And.intro hst hfr)))));obtain ⟨ao,cap0,e5,_⟩:=hO.form;clear ho2 hf2 hg2 hO hg hst hfr hlt2;go_wp2_with (at_builtin;refine wpList_app rfl (.tmp 26) (.tmp 36) _ rfl rfl rfl _ rfl hrun ?_)
     obtain ⟨ho2,hf2,hg2,hg,hst,hfr⟩:=HO.out;refine ⟨Or.inr (Or.inr (Or.inl ⟨rfl,?_,?_,?_⟩)),by simp [intOf]⟩
     · rw [hst,List.length_append];unfold ints at ho2 ⊢;rw [List.map_append];exact ho2
     · intro q hq;simp [Value.ownBlock] at hq;subst hq;rcases hg2 with h|h
       · exact hg _ h
       · simp at h;omega
     · exact Fr.then (D:=Non) (by exact hfr.alloc _) hf2 (fun y hy hy'=>absurd hy (by have:=hg y hy';omega))
    | false =>
     rw [hk,if_neg (by simp),List.append_nil] at hst;have HO:=Lib.hid (And.intro hO (And.intro hg (And.intro hst hfr)));clear hO hg hst hfr;go_wp2_with fail
     obtain ⟨hO,hg,hst,hfr⟩:=HO.out;refine ⟨Or.inr (Or.inr (Or.inl ⟨rfl,?_,hg,hfr⟩)),by simp [intOf]⟩;rw [hst];exact hO
  · have hix:∀ W':World,(Instr.index 205 (.agg #[.int .i64 sa,.int .i64 sb,.int .i64 sc]) (.int .i64 2)).run Tryz.prog W'=.ok (.int .i64 sc) W':=fun W'=>run_index_arr Tryz.underlying205 Tryz.underlying185 rfl hk0' hk2' W' 2 (by omega) rfl;have hiy:∀ W':World,(Instr.index 206 (.agg #[.int .i64 a,.int .i64 b,.int .i64 c]) (.int .i64 2)).run Tryz.prog W'=.ok (.int .i64 c) W':=fun W'=>run_index_arr Tryz.underlying206 Tryz.underlying3 rfl hj hj1 W' 2 (by omega) rfl
    have hst:someS (F.take 3)=someS (F.take 2) ++ (if sc == 1 then [c] else []):=by
     rw [HF.out];unfold someS;cases h:(sc == 1) <;> simp [List.filter_cons,h]
     all_goals (repeat' split) <;> simp_all
    obtain ⟨x0,x1,x2,x3,x4,xz⟩:=row5 (hfr.row HW.out.2 id);have hws:=hfr.size;have hwr:w.heap.size<wr.heap.size:=by omega
    have hlen:(someS (F.take 2)).length≤3:=by rw [HF.out];unfold someS;rw [List.length_map];exact Nat.le_trans (List.length_filter_le _ _) (by simp)
    cases hk:(sc == 1) with
    | true =>
     rw [hk,if_pos rfl] at hst;obtain ⟨g,cap,w2,hrun,ho2,hf2,hg2,hlt2⟩:=run_app (P:=Tryz.prog) (w:=wr.alloc (.cells #[.int .i64 c] 3)) (hO.fr ((Fr.refl Non wr).alloc _) (fun _ _ h=>h)) 36 36 j0 _ 8 Tryz.underlying36 hj hj0 hj1 hj2 rfl (by omega) wr.heap.size 0 1 1 [.int .i64 c] rfl (by exact (Row.new' rfl).news) (fun u hu=>by simp at hu;subst hu;rfl) (by omega) (by omega) (by unfold maxLen;omega);have HO:=Lib.hid (And.intro ho2 (And.intro hf2 (And.intro hg2 (And.intro hg (And.intro hst hfr)))));obtain ⟨ao,cap0,e5,_⟩:=hO.form;clear ho2 hf2 hg2 hO hg hst hfr hlt2;go_wp2_with (at_builtin;refine wpList_app rfl (.tmp 26) (.tmp 36) _ rfl rfl rfl _ rfl hrun ?_)
     obtain ⟨ho2,hf2,hg2,hg,hst,hfr⟩:=HO.out;refine ⟨Or.inr (Or.inr (Or.inr ⟨rfl,?_,?_,?_⟩)),by simp [intOf]⟩
     · rw [hst,List.length_append];unfold ints at ho2 ⊢;rw [List.map_append];exact ho2
     · intro q hq;simp [Value.ownBlock] at hq;subst hq;rcases hg2 with h|h
       · exact hg _ h
       · simp at h;omega
     · exact Fr.then (D:=Non) (by exact hfr.alloc _) hf2 (fun y hy hy'=>absurd hy (by have:=hg y hy';omega))
    | false =>
     rw [hk,if_neg (by simp),List.append_nil] at hst;have HO:=Lib.hid (And.intro hO (And.intro hg (And.intro hst hfr)));clear hO hg hst hfr;go_wp2_with fail
     obtain ⟨hO,hg,hst,hfr⟩:=HO.out;refine ⟨Or.inr (Or.inr (Or.inr ⟨rfl,?_,hg,hfr⟩)),by simp [intOf]⟩;rw [hst];exact hO
  · have hFF:F.take 3=F:=by rw [HF.out];rfl
    rw [hFF] at hO;have HO:=Lib.hid (And.intro hO (And.intro hg hfr));clear hO hg hfr;go_wp2_with fail
    go_ret
    obtain ⟨hO,hg,hfr⟩:=HO.out;exact ⟨_,rfl,hO,fun g e=>Nat.le_trans HW.out.1.size (hg g e),HW.out.1.trans hfr⟩
end Go.Proofs.YtlbomnbpahmphaaGreat
