/- A region that draws its order, walked along one plan: operations that only read are taken first, the others where nothing else is ready. Condition: each operation that only reads yields the same in all worlds of a class that the others keep, as long as they may come ahead of it. -/
import Derived.Test.YtlbomnbpahmphaaGreatD01
namespace Go.Proofs.YtlbomnbpahmphaaGreat.Mix
open Go
section
variable {P:Program} {ops:Array Oper}
def calm (P:Program) (o:Oper) (a:Act) (C:World→Prop) (v:Value):Prop:=∀ w,C w→(execOp a.eval o).run P w=.ok (.value v) w
def valued:Op→Bool
 | .move _|.assign _|.pick ..|.load ..|.nilCheck _|.fieldAddr ..|.field ..|.indexAddr ..|.index ..|.extract ..|.binOp ..|.unOp ..|.convert ..|.slice ..|.build ..|.lookup ..=>true
 | .call { callee:=.builtin .len,.. }=>true
 | _=>false
theorem run_v (s:Sem Value) {w w':World} {n:Next} (h:(do pure (.value (← s)):Sem Next).run P w=.ok n w'):∃ u,n=.value u:=by
 have e:(do pure (.value (← s)):Sem Next).run P w=(s.run P w).andThen fun x w1=>.ok (.value x) w1:=by simp
 rw [e] at h;cases hs:s.run P w with
 | ok x w1=>rw [hs] at h;simp [Result.andThen] at h;exact ⟨x,h.1.symm⟩
 | halt x w1=>rw [hs] at h;simp [Result.andThen] at h
theorem valued_run {o:Oper} (hv:valued o.op=true) {ρ:Operand→Value} {w w':World} {n:Next} (h:(execOp ρ o).run P w=.ok n w'):∃ u,n=.value u:=by
 obtain ⟨dst,op,type,pos,after,guard⟩:=o
 cases op <;> simp only [valued] at hv <;> simp only [execOp] at h <;> first
  | contradiction
  | exact run_v _ h
  | skip
 case pick c x y =>
  simp at h;generalize Sem.run P (asBool (ρ c)) w=r at h;cases r <;> simp [Result.andThen] at h
  exact ⟨_,h.1.symm⟩
 case move x=>simp at h;exact ⟨_,h.1.symm⟩
 case assign x=>simp at h;exact ⟨_,h.1.symm⟩
 case nilCheck x =>
  split at h
  · simp [runtimePanic] at h
  · simp [runtimePanic] at h
  · simp [runtimePanic] at h
  · split at h
    · simp [runtimePanic] at h
    · simp at h;generalize Sem.run P (nilAhead _ _ _ _) w=r at h;cases r with
      | ok x w1 =>
       simp only [Result.andThen] at h;split at h
       · simp at h;exact ⟨_,h.1.symm⟩
       · simp at h
      | halt x w1=>simp [Result.andThen] at h
    · simp at h;exact ⟨_,h.1.symm⟩
  · simp at h;exact ⟨_,h.1.symm⟩
 case call c =>
  obtain ⟨callee,args,argTypes⟩:=c;cases callee with
  | builtin b =>
   cases b <;> simp only at hv <;> try contradiction
   simp [resolve,invoke,builtin] at h;generalize Sem.run P (Builtin.len_ _ _ _) w=r at h;cases r <;> simp [Result.andThen] at h
   exact ⟨_,h.1.symm⟩
  | value f=>simp at hv
  | invoke r m=>simp at hv
def NoQ:Exit→Act→World→Prop:=fun _ _ _=>False
theorem wp_any_of_noQ {o:Oper} {a:Act} {w:World} {K:Act→World→Prop} (Q:Exit→Act→World→Prop) (h:o.wp P a w K NoQ):o.wp P a w K Q:=by
 unfold Oper.wp at *;generalize (execOp a.eval o).run P w=r at *;cases r with
 | ok n w' =>
  cases n <;> simp only [Oper.upon] at h ⊢ <;> first
   | exact h
   | (refine Calls.mono h fun e w'' he=>?_
      cases e with
      | returned v=>exact he
      | panicked c=>exact (he:False).elim
      | outgrown=>obtain ⟨_,_,hh⟩:=he;exact (hh:False).elim)
 | halt x w'=>cases x <;> simp only [Oper.upon] at h ⊢ <;> exact (h:False).elim
def stepN (P:Program) (ops:Array Oper) (i:Nat) (K:Act→World→Prop) (a:Act) (w:World):Prop :=
 match ops[i]? with
 | none=>K a w
 | some o=>if Region.wanted o (yielded ops a.tmps) then o.wp P a w K NoQ else K (a.put o.dst undef) w
theorem stepN_mono {i:Nat} {a:Act} {w:World} {K K':Act→World→Prop} (h:∀ a w,K a w→K' a w) (hh:stepN P ops i K a w):stepN P ops i K' a w:=by
 unfold stepN at *;split
 · rename_i ho;simp only [ho] at hh;exact h _ _ hh
 · rename_i o ho;simp only [ho] at hh;split
   · rename_i hw;simp only [hw,if_true] at hh;exact Oper.wp_mono h hh
   · rename_i hw;simp only [hw] at hh;exact h _ _ hh
theorem wpOp_of_stepN {i:Nat} {a:Act} {w:World} {K:Act→World→Prop} (Q:Exit→Act→World→Prop) (hh:stepN P ops i K a w):wpOp P ops Q i K a w:=by
 unfold stepN at hh;unfold wpOp;split
 · rename_i ho;simp only [ho] at hh;exact hh
 · rename_i o ho;simp only [ho] at hh;split
   · rename_i hw;simp only [hw,if_true] at hh;exact .inl (wp_any_of_noQ Q hh)
   · rename_i hw;simp only [hw] at hh;exact hh
def YC (P:Program) (ops:Array Oper) (C:World→Prop) (o:Oper) (v:Value) (a:Act):Prop :=
 (Region.wanted o (yielded ops a.tmps)=true∧calm P o a C v)∨(Region.wanted o (yielded ops a.tmps)=false∧v=undef)
theorem YC.of_same {C:World→Prop} {o:Oper} {v:Value} {a a':Act} (hy:YC P ops C o v a) (he:execOp a'.eval o=execOp a.eval o)
 (hw:Region.wanted o (yielded ops a'.tmps)=Region.wanted o (yielded ops a.tmps)):YC P ops C o v a':=by
 unfold YC calm at *;rw [he,hw];exact hy
theorem YC.stepN {C:World→Prop} {i:Nat} {o:Oper} {v:Value} {a:Act} {w:World} (hi:ops[i]?=some o) (hy:YC P ops C o v a) (hw:C w) {K:Act→World→Prop} (h:K (a.put o.dst v) w):stepN P ops i K a w:=by
 unfold Mix.stepN;simp only [hi];rcases hy with ⟨hn,hv⟩|⟨hn,rfl⟩
 · simp only [hn,if_true,Oper.wp,hv w hw,Oper.upon];exact h
 · simp only [hn,Bool.false_eq_true,if_false];exact h
theorem stepN_put {C:World→Prop} {j:Nat} {oi oj:Oper} {v:Value} (hj:ops[j]?=some oj) (hap:oi.apart ops oj=true)
 (hsi:∀ cs b,oi.op≠.select cs b) (hsj:∀ cs b,oj.op≠.select cs b) {K:Act→World→Prop} {a:Act} {w:World}
 (hy:YC P ops C oi v a) (h:stepN P ops j K (a.put oi.dst v) w) :
 stepN P ops j (fun a' w'=>YC P ops C oi v a'∧K (a'.put oi.dst v) w') a w:=by
 obtain ⟨h1,h2,h3⟩:=Oper.apart_spec hap
 have keep:∀ (a:Act),YC P ops C oi v a→∀ u,YC P ops C oi v (a.put oj.dst u):=fun a hy u =>
  hy.of_same (execOp_put oi hsi a oj.dst u h3) (wanted_put oi a oj.dst u h3)
 have keepD:∀ d,YC P ops C oi v { a with defers:=d :: a.defers }:=fun d=>hy.of_same rfl rfl;unfold stepN at *;simp only [hj] at *;rw [wanted_put oj a oi.dst v h1] at h;split
 · rename_i hw;simp only [hw,if_true] at h;unfold Oper.wp at *;rw [execOp_put oj hsj a oi.dst v h1] at h;generalize (execOp a.eval oj).run P w=r at *;cases r with
   | ok n w' =>
    cases n <;> simp only [Oper.upon] at h ⊢
    case value u=>exact ⟨keep a hy u,by rw [← Act.put_comm a v u h2];exact h⟩
    case skip=>exact ⟨keep a hy _,by rw [← Act.put_comm a v undef h2];exact h⟩
    case defer d =>
     refine ⟨keep _ (keepD d) _,?_⟩;rw [← Act.put_comm _ v undef h2,← Act.put_defers];exact h
    case enter f args =>
     refine Calls.mono h fun e w'' he=>?_;cases e with
     | returned u=>exact ⟨keep a hy u,by rw [← Act.put_comm a v u h2];exact he⟩
     | panicked c=>exact (he:False).elim
     | outgrown=>exact he
    case row row args=>exact Rows.mono h fun u w'' he=>⟨keep a hy u,by rw [← Act.put_comm a v u h2];exact he⟩
   | halt x w' =>
    cases x <;> simp only [Oper.upon] at h ⊢
    case panic u=>exact (h:False).elim
 · rename_i hw;simp only [hw] at h;exact ⟨keep a hy _,by rw [← Act.put_comm a v undef h2];exact h⟩
def lateB (ops:Array Oper) (L:List Nat) (j:Nat):Bool :=
 L.all fun i=>match ops[j]? with
  | some o=>o.after.any fun e=>Region.binds .any e && e.on == i
  | none=>false
def wpAnyN (P:Program) (ops:Array Oper) (C:World→Prop) (L:List Nat) (Q:Act→World→Prop):Nat→Array Bool→Act→World→Prop
 | 0,listed,a,w=>Region.ready .any ops listed=[]∧Q a w
 | fuel+1,listed,a,w =>
  (Region.ready .any ops listed=[]→Q a w) ∧
  ∀ i∈Region.ready .any ops listed,stepN P ops i (fun a' w'=>(lateB ops L i=false→C w→C w')∧wpAnyN P ops C L Q fuel (listed.setIfInBounds i true) a' w') a w
theorem wpAny_of_N {C:World→Prop} {L:List Nat} {Q:Act→World→Prop} {Q':Exit→Act→World→Prop} (hQ:∀ a w,Q a w→Q' .normal a w):∀ (fuel:Nat) (listed:Array Bool) (a:Act) (w:World),
 wpAnyN P ops C L Q fuel listed a w→wpAny P .any ops Q' fuel listed a w
 | 0,_,_,_,h=>⟨h.1,hQ _ _ h.2⟩
 | fuel+1,_,_,_,h=>⟨fun h0=>hQ _ _ (h.1 h0),fun i hi=>wpOp_mono (fun a' w' h'=>wpAny_of_N hQ fuel _ a' w' h'.2) (wpOp_of_stepN Q' (h.2 i hi))⟩
theorem wpAnyN_first {C:World→Prop} {L:List Nat} {Q:Act→World→Prop} {ld:Bool} {i:Nat} {oi:Oper} {v:Value} (hi:ops[i]?=some oi) (hsel:∀ (j:Nat) (o:Oper) cs b,ops[j]?=some o→o.op≠.select cs b)
 (hL:ld=true→i∈L) :
 ∀ (fuel:Nat) (listed:Array Bool) (a:Act) (w:World),
  (∀ j oj,ops[j]?=some oj→j≠i→listed.getD j true=false→(∀ e∈oj.after,Region.binds .any e=true→e.on≠i)→oi.apart ops oj=true) →
  i∈Region.ready .any ops listed→YC P ops (if ld=true then C else fun _=>True) oi v a→(ld=true→C w) →
  wpAnyN P ops C L Q fuel (listed.setIfInBounds i true) (a.put oi.dst v) w→wpAnyN P ops C L Q (fuel+1) listed a w:=by
 have cls:∀ w,(ld=true→C w)→(if ld=true then C else fun _=>True) w:=fun w h=>by
  cases ld with
  | false=>exact trivial
  | true=>exact h rfl
 intro fuel
 induction fuel with
 | zero =>
  intro listed a w _ hr hy hw H;refine ⟨fun h=>(by rw [h] at hr;cases hr),fun j hj=>?_⟩;by_cases hji:j=i
  · subst hji;exact hy.stepN hi (cls w hw) ⟨fun _ h=>h,H⟩
  · have:=ready_mono hj hji;rw [H.1] at this;cases this
 | succ fuel ih =>
  intro listed a w hfree hr hy hw H;refine ⟨fun h=>(by rw [h] at hr;cases hr),fun j hj=>?_⟩;by_cases hji:j=i
  · subst hji;exact hy.stepN hi (cls w hw) ⟨fun _ h=>h,H⟩
  · have h1:=H.2 j (ready_mono hj hji);obtain ⟨hjun,oj,hoj,hall⟩:=mem_ready.1 hj
    have hnot:∀ e∈oj.after,Region.binds .any e=true→e.on≠i:=fun e he hb heq=>by
     have h1:=hall e he hb;have h0:=(mem_ready.1 hr).1;rw [heq] at h1;rcases Nat.lt_or_ge i listed.size with h'|h'
     · simp [h'] at h0 h1;rw [h0] at h1;cases h1
     · simp [Array.getElem?_eq_none h'] at h1
    have hlate:ld=true→lateB ops L j=false:=fun hld=>by
     cases hl:lateB ops L j with
     | false=>rfl
     | true =>
      have h2:=List.all_eq_true.1 hl i (hL hld);simp only [hoj] at h2;obtain ⟨e,he,hb⟩:=Array.any_eq_true'.1 h2;simp only [Bool.and_eq_true,beq_iff_eq] at hb;exact absurd hb.2 (hnot e he hb.1)
    have h2:=stepN_put hoj (hfree j oj hoj hji hjun hnot) (fun cs b=>hsel i oi cs b hi) (fun cs b=>hsel j oj cs b hoj) hy h1
    have hfree':∀ k ok,ops[k]?=some ok→k≠i→(listed.setIfInBounds j true).getD k true=false →
     (∀ e∈ok.after,Region.binds .any e=true→e.on≠i)→oi.apart ops ok=true:=fun k ok hk hki hun hno=>by
     refine hfree k ok hk hki ?_ hno;by_cases hjk:j=k
     · subst hjk;exact hjun
     · rw [getD_set_ne true hjk] at hun;exact hun
    refine stepN_mono (fun a' w' h3=>⟨h3.2.1,ih (listed.setIfInBounds j true) a' w' hfree' (ready_mono hr (Ne.symm hji)) h3.1 (fun hld=>h3.2.1 (hlate hld) (hw hld)) ?_⟩) h2;rw [Array.setIfInBounds_comm _ _ hji];exact h3.2.2
def okS (ops:Array Oper) (L:List Nat) (fin:Nat→Array Bool→Bool):List (Nat × Nat)→Nat→Array Bool→Bool
 | [],n,listed=>fin n listed
 | _ :: _,0,_=>false
 | (k,i) :: s,n+1,listed =>
  (if k<2 then (Region.ready .any ops listed).contains i && Region.free .any ops listed i && (k == 0 || L.contains i) && ((ops[i]?).any fun o=>valued o.op)
   else decide (Region.ready .any ops listed=[i]) && (k == 2 || lateB ops L i)) && okS ops L fin s n (listed.setIfInBounds i true)
def wpS (P:Program) (ops:Array Oper) (C:World→Prop) (Q:Act→World→Prop):List (Nat × Nat)→Act→World→Prop
 | [],a,w=>Q a w
 | (0,i) :: s,a,w =>
  match ops[i]? with
  | none=>False
  | some o=>if Region.wanted o (yielded ops a.tmps) then o.quiet P a (fun _=>True) (fun a'=>wpS P ops C Q s a' w) else wpS P ops C Q s (a.put o.dst undef) w
 | (1,i) :: s,a,w =>
  match ops[i]? with
  | none=>False
  | some o=>if Region.wanted o (yielded ops a.tmps) then o.quiet P a C (fun a'=>wpS P ops C Q s a' w) else wpS P ops C Q s (a.put o.dst undef) w
 | (2,i) :: s,a,w=>stepN P ops i (fun a' w'=>(C w→C w')∧wpS P ops C Q s a' w') a w
 | (_+3,i) :: s,a,w=>stepN P ops i (fun a' w'=>wpS P ops C Q s a' w') a w
theorem keep_listed {listed:Array Bool} {i k:Nat} (h:listed.getD k true=true):(listed.setIfInBounds i true).getD k true=true:=by
 by_cases hik:i=k
 · subst hik;rcases Nat.lt_or_ge i listed.size with h'|h'
   · simp [h']
   · simp [h']
 · rw [getD_set_ne true hik];exact h
theorem calm_of_quiet {C:World→Prop} {o:Oper} {a:Act} {K:Act→Prop} (hv:valued o.op=true) (h:o.quiet P a C K):∃ v,calm P o a C v∧K (a.put o.dst v):=by
 obtain ⟨v,h1,h2⟩:=h;refine ⟨v,fun w hw=>?_,h2⟩;have h3:=h1 w hw;unfold Oper.quietAt at h3;cases hr:(execOp a.eval o).run P w with
 | ok n w' =>
  rw [hr] at h3;obtain ⟨u,rfl⟩:=valued_run hv hr;simp only [Oper.quietUpon] at h3;rw [h3.1,h3.2]
 | halt x w'=>rw [hr] at h3;simp only [Oper.quietUpon] at h3
theorem all_listed {L:List Nat} {k:Nat} {listed:Array Bool} (hl:lateB ops L k=true) (hrk:k∈Region.ready .any ops listed):∀ i∈L,listed.getD i true=true:=fun i hi=>by
 obtain ⟨_,ok,hok,hall⟩:=mem_ready.1 hrk;have h2:=List.all_eq_true.1 hl i hi;simp only [hok] at h2;obtain ⟨e,he,hb⟩:=Array.any_eq_true'.1 h2;simp only [Bool.and_eq_true,beq_iff_eq] at hb;have h3:=hall e he hb.1;rw [hb.2] at h3;rcases Nat.lt_or_ge i listed.size with h'|h'
 · simp [h'] at h3 ⊢;exact h3
 · simp [Array.getElem?_eq_none h'] at h3
theorem wpAnyN_of_S {C:World→Prop} {L:List Nat} {Q E:Act→World→Prop} {fin:Nat→Array Bool→Bool} (hs:Region.noSelect ops=true)
 (hfin:∀ n listed a w,fin n listed=true→(C w∨∀ i∈L,listed.getD i true=true)→E a w→wpAnyN P ops C L Q n listed a w):∀ (s:List (Nat × Nat)) (n:Nat) (listed:Array Bool) (a:Act) (w:World),
 okS ops L fin s n listed=true→(C w∨∀ i∈L,listed.getD i true=true)→wpS P ops C E s a w→wpAnyN P ops C L Q n listed a w:=by
 intro s
 induction s with
 | nil=>intro n listed a w hB hC h;exact hfin n listed a w hB hC h
 | cons x s ih =>
  obtain ⟨k,i⟩:=x;intro n listed a w hB hC h;cases n with
  | zero=>simp [okS] at hB
  | succ n =>
   simp only [okS,Bool.and_eq_true] at hB;obtain ⟨hX,hB⟩:=hB
   have calmly:∀ ld:Bool,(ld=false→k=0)→(ld=true→k=1)→(match ops[i]? with
    | none=>False
    | some o=>if Region.wanted o (yielded ops a.tmps) then o.quiet P a (if ld=true then C else fun _=>True) (fun a'=>wpS P ops C E s a' w) else wpS P ops C E s (a.put o.dst undef) w) →
    wpAnyN P ops C L Q (n+1) listed a w:=fun ld h0 h1 h=>by
    have hk:k<2:=by cases ld with|false=>rw [h0 rfl];omega|true=>rw [h1 rfl];omega
    rw [if_pos hk] at hX;simp only [Bool.and_eq_true] at hX;obtain ⟨⟨⟨hr,hf⟩,hl⟩,hv⟩:=hX;cases ho:ops[i]? with
    | none=>rw [ho] at hv;simp at hv
    | some o =>
     rw [ho] at hv;simp only [Option.any_some] at hv;simp only [ho] at h;have hr':i∈Region.ready .any ops listed:=by simpa using hr
     have hun:=(mem_ready.1 hr').1;have hiL:ld=true→i∈L:=fun e=>by rw [h1 e] at hl;simpa using hl
     have hCw:ld=true→C w:=fun e=>by
      rcases hC with hC|hC
      · exact hC
      · have:=hC i (hiL e);rw [hun] at this;cases this
     have hC':C w∨∀ k∈L,(listed.setIfInBounds i true).getD k true=true:=hC.imp id fun hC k hk=>keep_listed (hC k hk);by_cases hw:Region.wanted o (yielded ops a.tmps)=true
     · simp only [hw,if_true] at h;obtain ⟨v,hc,hk⟩:=calm_of_quiet hv h;exact wpAnyN_first (ld:=ld) ho (Region.noSelect_spec hs) hiL n listed a w (Region.free_spec ho hf) hr' (Or.inl ⟨hw,hc⟩) hCw (ih n _ _ _ hB hC' hk)
     · simp only [hw] at h;exact wpAnyN_first (ld:=ld) ho (Region.noSelect_spec hs) hiL n listed a w (Region.free_spec ho hf) hr' (Or.inr ⟨by simpa using hw,rfl⟩) hCw (ih n _ _ _ hB hC' h)
   match k,hX,calmly,h with
   | 0,_,calmly,h=>exact calmly false (fun _=>rfl) (fun h=>by cases h) h
   | 1,_,calmly,h=>exact calmly true (fun h=>by cases h) (fun _=>rfl) h
   | 2,hX,_,h =>
    simp only [show ¬ (2<2) by omega,if_false,Bool.and_eq_true,decide_eq_true_eq] at hX;refine ⟨fun h0=>(by rw [hX.1] at h0;cases h0),fun k hk=>?_⟩;have hrk:=hk;rw [hX.1] at hk;have hki:k=i:=by simpa using hk
    subst hki;exact stepN_mono (fun a' w' h'=>⟨fun _=>h'.1,ih n _ _ _ hB (hC.imp h'.1 fun hL i hi=>keep_listed (hL i hi)) h'.2⟩) h
   | k+3,hX,_,h =>
    simp only [show ¬ (k+3<2) by omega,if_false,Bool.and_eq_true,decide_eq_true_eq,Bool.or_eq_true,beq_iff_eq] at hX;have hl:=hX.2.resolve_left (by omega);refine ⟨fun h0=>(by rw [hX.1] at h0;cases h0),fun j hj=>?_⟩;have hrj:=hj;rw [hX.1] at hj;have hji:j=i:=by simpa using hj
    subst hji;exact stepN_mono (fun a' w' h'=>⟨(fun hf=>(by rw [hl] at hf;cases hf)),ih n _ _ _ hB (Or.inr fun i hi=>keep_listed (all_listed hl hrj i hi)) h'⟩) h
def finB (ops:Array Oper) (n:Nat) (listed:Array Bool):Bool:=n == 0 && (Region.ready .any ops listed).isEmpty
theorem wpAnyN_fin {C:World→Prop} {L:List Nat} {Q:Act→World→Prop} (n:Nat) (listed:Array Bool) (a:Act) (w:World) (h:finB ops n listed=true) (_:C w∨∀ i∈L,listed.getD i true=true) (hQ:Q a w):wpAnyN P ops C L Q n listed a w:=by
 simp only [finB,Bool.and_eq_true,beq_iff_eq,List.isEmpty_iff] at h;rw [h.1];exact ⟨h.2,hQ⟩
theorem wp_region_mix {id:Nat} {Q:Exit→Act→World→Prop} {a:Act} {w:World} {l:List Oper} (L:List Nat) (s:List (Nat × Nat)) (C:World→Prop) (hm:P.follows .mixedOrders=true)
 (hB:(Region.noSelect l.toArray && okS l.toArray L (finB l.toArray) s l.length (Array.replicate l.length false))=true) (hC:C w.drew)
 (h:wpS P l.toArray C (Q .normal) s a w.drew):(Code.region id l.toArray true).wp P Q a w:=by
 simp only [Bool.and_eq_true] at hB;refine wp_region_any hm (wpAny_of_N (C:=C) (L:=L) (Q:=Q .normal) (fun _ _ h=>h) _ _ _ _ ?_);have:=wpAnyN_of_S (P:=P) hB.1 (Q:=Q .normal) (wpAnyN_fin (C:=C) (L:=L)) s l.length (Array.replicate l.length false) a w.drew hB.2 (Or.inl hC) h
 simpa using this
def altB (ops:Array Oper) (L:List Nat) (i j:Nat) (s1 s2:List (Nat × Nat)) (n:Nat) (listed:Array Bool):Bool :=
 match n with
 | 0=>false
 | n+1=>decide (Region.ready .any ops listed=[i,j]) && okS ops L (finB ops) s1 n (listed.setIfInBounds i true) && okS ops L (finB ops) s2 n (listed.setIfInBounds j true)
theorem wp_region_alt {id:Nat} {Q:Exit→Act→World→Prop} {a:Act} {w:World} {l:List Oper} (L:List Nat) (s:List (Nat × Nat)) (i j:Nat) (s1 s2:List (Nat × Nat)) (C:World→Prop) (hm:P.follows .mixedOrders=true)
 (hB:(Region.noSelect l.toArray && okS l.toArray L (altB l.toArray L i j s1 s2) s l.length (Array.replicate l.length false))=true) (hC:C w.drew)
 (h:wpS P l.toArray C (fun a w=>stepN P l.toArray i (fun a' w'=>(C w→C w')∧wpS P l.toArray C (Q .normal) s1 a' w') a w∧stepN P l.toArray j (fun a' w'=>(C w→C w')∧wpS P l.toArray C (Q .normal) s2 a' w') a w) s a w.drew) :
 (Code.region id l.toArray true).wp P Q a w:=by
 simp only [Bool.and_eq_true] at hB;refine wp_region_any hm (wpAny_of_N (C:=C) (L:=L) (Q:=Q .normal) (fun _ _ h=>h) _ _ _ _ ?_)
 have:=wpAnyN_of_S (P:=P) hB.1 (Q:=Q .normal) (C:=C) (L:=L) (fun n listed a w hf hC h=>by
  cases n with
  | zero=>simp [altB] at hf
  | succ n =>
   simp only [altB,Bool.and_eq_true,decide_eq_true_eq] at hf;obtain ⟨⟨hr,hB1⟩,hB2⟩:=hf;refine ⟨fun h0=>(by rw [hr] at h0;cases h0),fun k hk=>?_⟩;rw [hr] at hk;have hk':k=i∨k=j:=by simpa using hk
   rcases hk' with rfl|rfl
   · exact stepN_mono (fun a' w' h'=>⟨fun _=>h'.1,wpAnyN_of_S hB.1 (wpAnyN_fin (C:=C) (L:=L)) s1 n _ _ _ hB1 (hC.imp h'.1 fun hL i hi=>keep_listed (hL i hi)) h'.2⟩) h.1
   · exact stepN_mono (fun a' w' h'=>⟨fun _=>h'.1,wpAnyN_of_S hB.1 (wpAnyN_fin (C:=C) (L:=L)) s2 n _ _ _ hB2 (hC.imp h'.1 fun hL i hi=>keep_listed (hL i hi)) h'.2⟩) h.2) s l.length (Array.replicate l.length false) a w.drew hB.2 (Or.inl hC) h
 simpa using this
section
variable {C:World→Prop} {Q:Act→World→Prop} {a:Act} {w:World} {o:Oper} {i:Nat} {s:List (Nat × Nat)}
theorem S_pure (ho:ops[i]?=some o) (hw:Region.wanted o (yielded ops a.tmps)=true) (h:∀ K:Act→Prop,(∀ a,wpS P ops C Q s a w→K a)→o.quiet P a (fun _=>True) K):wpS P ops C Q ((0,i) :: s) a w:=by
 simp only [wpS,ho,hw,if_true];exact h _ fun _ h=>h
theorem S_load (ho:ops[i]?=some o) (hw:Region.wanted o (yielded ops a.tmps)=true) (h:∀ K:Act→Prop,(∀ a,wpS P ops C Q s a w→K a)→o.quiet P a C K):wpS P ops C Q ((1,i) :: s) a w:=by
 simp only [wpS,ho,hw,if_true];exact h _ fun _ h=>h
theorem S_skip0 (ho:ops[i]?=some o) (hw:Region.wanted o (yielded ops a.tmps)=false) (h:wpS P ops C Q s (a.put o.dst undef) w):wpS P ops C Q ((0,i) :: s) a w:=by
 simp only [wpS,ho,hw];exact h
theorem S_skip1 (ho:ops[i]?=some o) (hw:Region.wanted o (yielded ops a.tmps)=false) (h:wpS P ops C Q s (a.put o.dst undef) w):wpS P ops C Q ((1,i) :: s) a w:=by
 simp only [wpS,ho,hw];exact h
theorem N_eff (ho:ops[i]?=some o) (hw:Region.wanted o (yielded ops a.tmps)=true) (h:∀ K:Act→World→Prop,(∀ a' w',(C w→C w')∧wpS P ops C Q s a' w'→K a' w')→o.wp P a w K NoQ):stepN P ops i (fun a' w'=>(C w→C w')∧wpS P ops C Q s a' w') a w:=by
 simp only [stepN,ho,hw,if_true];exact h _ fun _ _ h=>h
theorem S_eff (ho:ops[i]?=some o) (hw:Region.wanted o (yielded ops a.tmps)=true) (h:∀ K:Act→World→Prop,(∀ a' w',(C w→C w')∧wpS P ops C Q s a' w'→K a' w')→o.wp P a w K NoQ):wpS P ops C Q ((2,i) :: s) a w :=
 N_eff ho hw h
theorem S_late (ho:ops[i]?=some o) (hw:Region.wanted o (yielded ops a.tmps)=true) (h:∀ K:Act→World→Prop,(∀ a' w',wpS P ops C Q s a' w'→K a' w')→o.wp P a w K NoQ):wpS P ops C Q ((3,i) :: s) a w:=by
 simp only [wpS,stepN,ho,hw,if_true];exact h _ fun _ _ h=>h
theorem S_done (h:Q a w):wpS P ops C Q [] a w:=h
end
end
def Agree (B:List Nat) (w W:World):Prop:=∀ b∈B,W.heap[b]?=w.heap[b]?
open Classical in
noncomputable def upon (w:World) (B:List Nat) (g:World):World:=if Agree B w g then g else w
theorem upon_agree (w:World) (B:List Nat) (g:World):Agree B w (upon w B g):=by
 unfold upon;split
 · assumption
 · exact fun _ _=>rfl
theorem cls_of {w W:World} {B:List Nat} (h:Agree B w W):∃ g,W=upon w B g:=⟨W,(if_pos h).symm⟩
theorem agree_of {w W:World} {B:List Nat} (h:∃ g,W=upon w B g):Agree B w W:=by
 obtain ⟨g,rfl⟩:=h;exact upon_agree w B g
@[go_sem] theorem cell?_upon {w:World} {B:List Nat} {g:World} {b o:Nat} (h:b∈B):(upon w B g).cell? ⟨b,o,none⟩=w.cell? ⟨b,o,none⟩:=by
 simp only [World.cell?,upon_agree w B g b h]
theorem cls_fr {D:Nat→Prop} {w0 w w':World} {B:List Nat} (f:Fr D w w') (hB:∀ b∈B,b<w.heap.size∧¬ D b) (h:∃ g,w=upon w0 B g):∃ g,w'=upon w0 B g :=
 cls_of fun b hb=>(f.keep b (hB b hb).1 (hB b hb).2).trans (agree_of h b hb)
theorem cls_drew (w:World) (B:List Nat):∃ g,w.drew=upon w B g:=cls_of fun _ _=>rfl
section
variable {P:Program} {ops:Array Oper} {C:World→Prop} {Q:Act→World→Prop} {s:List (Nat × Nat)} {i:Nat} {o:Oper} {a:Act} {w:World}
theorem qa (h:∀ K:Act→Prop,(∀ a,wpS P ops C Q s a w→K a)→o.quiet P a (fun _=>True) K) (ho:ops[i]?=some o:=by exact rfl) (hw:Region.wanted o (yielded ops a.tmps)=true:=by exact rfl):wpS P ops C Q ((0,i) :: s) a w:=S_pure ho hw h
theorem qb (h:∀ K:Act→Prop,(∀ a,wpS P ops C Q s a w→K a)→o.quiet P a C K) (ho:ops[i]?=some o:=by exact rfl) (hw:Region.wanted o (yielded ops a.tmps)=true:=by exact rfl):wpS P ops C Q ((1,i) :: s) a w:=S_load ho hw h
theorem qc (h:wpS P ops C Q s (a.put o.dst undef) w) (ho:ops[i]?=some o:=by exact rfl) (hw:Region.wanted o (yielded ops a.tmps)=false:=by exact rfl):wpS P ops C Q ((0,i) :: s) a w:=S_skip0 ho hw h
theorem qd (h:wpS P ops C Q s (a.put o.dst undef) w) (ho:ops[i]?=some o:=by exact rfl) (hw:Region.wanted o (yielded ops a.tmps)=false:=by exact rfl):wpS P ops C Q ((1,i) :: s) a w:=S_skip1 ho hw h
end
end Go.Proofs.YtlbomnbpahmphaaGreat.Mix
namespace Go.Proofs.YtlbomnbpahmphaaGreat.Mix
open Go.RowKit
inductive Sch where
 | fin (s:List (Nat × Nat)):Sch
 | two (s:List (Nat × Nat)) (i:Nat) (t1:Sch) (j:Nat) (t2:Sch):Sch
 | three (s:List (Nat × Nat)) (i:Nat) (t1:Sch) (j:Nat) (t2:Sch) (k:Nat) (t3:Sch):Sch
def okT (ops:Array Oper) (L:List Nat):Sch→Nat→Array Bool→Bool
 | .fin s,n,listed=>okS ops L (finB ops) s n listed
 | .two s i t1 j t2,n,listed=>okS ops L (fun n listed=>match n with|0=>false|n+1=>decide (Region.ready .any ops listed=[i,j]) && okT ops L t1 n (listed.setIfInBounds i true) && okT ops L t2 n (listed.setIfInBounds j true)) s n listed
 | .three s i t1 j t2 k t3,n,listed=>okS ops L (fun n listed=>match n with|0=>false|n+1=>decide (Region.ready .any ops listed=[i,j,k]) && okT ops L t1 n (listed.setIfInBounds i true) && okT ops L t2 n (listed.setIfInBounds j true) && okT ops L t3 n (listed.setIfInBounds k true)) s n listed
def wpT (P:Program) (ops:Array Oper) (C:World→Prop) (L:List Nat) (Q:Act→World→Prop):Sch→Act→World→Prop
 | .fin s,a,w=>wpS P ops C Q s a w
 | .two s i t1 j t2,a,w=>wpS P ops C (fun a w=>stepN P ops i (fun a' w'=>(lateB ops L i=false→C w→C w')∧wpT P ops C L Q t1 a' w') a w∧stepN P ops j (fun a' w'=>(lateB ops L j=false→C w→C w')∧wpT P ops C L Q t2 a' w') a w) s a w
 | .three s i t1 j t2 k t3,a,w=>wpS P ops C (fun a w=>stepN P ops i (fun a' w'=>(lateB ops L i=false→C w→C w')∧wpT P ops C L Q t1 a' w') a w∧stepN P ops j (fun a' w'=>(lateB ops L j=false→C w→C w')∧wpT P ops C L Q t2 a' w') a w∧stepN P ops k (fun a' w'=>(lateB ops L k=false→C w→C w')∧wpT P ops C L Q t3 a' w') a w) s a w
section
variable {P:Program} {ops:Array Oper}
theorem wpAnyN_of_T {C:World→Prop} {L:List Nat} {Q:Act→World→Prop} (hs:Region.noSelect ops=true):∀ (t:Sch) (n:Nat) (listed:Array Bool) (a:Act) (w:World),
 okT ops L t n listed=true→(C w∨∀ i∈L,listed.getD i true=true)→wpT P ops C L Q t a w→wpAnyN P ops C L Q n listed a w
 | .fin s,n,listed,a,w,hB,hC,h=>wpAnyN_of_S hs (wpAnyN_fin (C:=C) (L:=L)) s n listed a w hB hC h
 | .two s i t1 j t2,n,listed,a,w,hB,hC,h=>by
  refine wpAnyN_of_S (P:=P) hs (Q:=Q) (C:=C) (L:=L) (fun n listed a w hf hC h=>?_) s n listed a w hB hC h;cases n with
  | zero=>simp at hf
  | succ n =>
   simp only [Bool.and_eq_true,decide_eq_true_eq] at hf;obtain ⟨⟨hr,hB1⟩,hB2⟩:=hf;refine ⟨fun h0=>(by rw [hr] at h0;cases h0),fun k hk=>?_⟩;have hrk:=hk;rw [hr] at hk;have hk':k=i∨k=j:=by simpa using hk
   rcases hk' with rfl|rfl
   · refine stepN_mono (fun a' w' h'=>?_) h.1;cases hl:lateB ops L _ with
     | false=>exact ⟨fun _=>h'.1 hl,wpAnyN_of_T hs t1 n _ _ _ hB1 (hC.imp (h'.1 hl) fun hL i hi=>keep_listed (hL i hi)) h'.2⟩
     | true=>exact ⟨(fun hf=>by cases hf),wpAnyN_of_T hs t1 n _ _ _ hB1 (Or.inr fun i hi=>keep_listed (all_listed hl hrk i hi)) h'.2⟩
   · refine stepN_mono (fun a' w' h'=>?_) h.2;cases hl:lateB ops L _ with
     | false=>exact ⟨fun _=>h'.1 hl,wpAnyN_of_T hs t2 n _ _ _ hB2 (hC.imp (h'.1 hl) fun hL i hi=>keep_listed (hL i hi)) h'.2⟩
     | true=>exact ⟨(fun hf=>by cases hf),wpAnyN_of_T hs t2 n _ _ _ hB2 (Or.inr fun i hi=>keep_listed (all_listed hl hrk i hi)) h'.2⟩
 | .three s i t1 j t2 k t3,n,listed,a,w,hB,hC,h=>by
  refine wpAnyN_of_S (P:=P) hs (Q:=Q) (C:=C) (L:=L) (fun n listed a w hf hC h=>?_) s n listed a w hB hC h;cases n with
  | zero=>simp at hf
  | succ n =>
   simp only [Bool.and_eq_true,decide_eq_true_eq] at hf;obtain ⟨⟨⟨hr,hB1⟩,hB2⟩,hB3⟩:=hf;refine ⟨fun h0=>(by rw [hr] at h0;cases h0),fun q hq=>?_⟩;have hrk:=hq;rw [hr] at hq;have hq':q=i∨q=j∨q=k:=by simpa using hq
   rcases hq' with rfl|rfl|rfl
   · refine stepN_mono (fun a' w' h'=>?_) h.1;cases hl:lateB ops L _ with
     | false=>exact ⟨fun _=>h'.1 hl,wpAnyN_of_T hs t1 n _ _ _ hB1 (hC.imp (h'.1 hl) fun hL i hi=>keep_listed (hL i hi)) h'.2⟩
     | true=>exact ⟨(fun hf=>by cases hf),wpAnyN_of_T hs t1 n _ _ _ hB1 (Or.inr fun i hi=>keep_listed (all_listed hl hrk i hi)) h'.2⟩
   · refine stepN_mono (fun a' w' h'=>?_) h.2.1;cases hl:lateB ops L _ with
     | false=>exact ⟨fun _=>h'.1 hl,wpAnyN_of_T hs t2 n _ _ _ hB2 (hC.imp (h'.1 hl) fun hL i hi=>keep_listed (hL i hi)) h'.2⟩
     | true=>exact ⟨(fun hf=>by cases hf),wpAnyN_of_T hs t2 n _ _ _ hB2 (Or.inr fun i hi=>keep_listed (all_listed hl hrk i hi)) h'.2⟩
   · refine stepN_mono (fun a' w' h'=>?_) h.2.2;cases hl:lateB ops L _ with
     | false=>exact ⟨fun _=>h'.1 hl,wpAnyN_of_T hs t3 n _ _ _ hB3 (hC.imp (h'.1 hl) fun hL i hi=>keep_listed (hL i hi)) h'.2⟩
     | true=>exact ⟨(fun hf=>by cases hf),wpAnyN_of_T hs t3 n _ _ _ hB3 (Or.inr fun i hi=>keep_listed (all_listed hl hrk i hi)) h'.2⟩
theorem wp_region_tree {id:Nat} {Q:Exit→Act→World→Prop} {a:Act} {w:World} {l:List Oper} (L:List Nat) (t:Sch) (C:World→Prop) (hm:P.follows .mixedOrders=true)
 (hB:(Region.noSelect l.toArray && okT l.toArray L t l.length (Array.replicate l.length false))=true) (hC:C w.drew)
 (h:wpT P l.toArray C L (Q .normal) t a w.drew):(Code.region id l.toArray true).wp P Q a w:=by
 simp only [Bool.and_eq_true] at hB;refine wp_region_any hm (wpAny_of_N (C:=C) (L:=L) (Q:=Q .normal) (fun _ _ h=>h) _ _ _ _ ?_);have:=wpAnyN_of_T (P:=P) hB.1 (Q:=Q .normal) (C:=C) (L:=L) t l.length (Array.replicate l.length false) a w.drew hB.2 (Or.inl hC) h
 simpa using this
variable {C:World→Prop} {L:List Nat} {Q:Act→World→Prop} {a:Act} {w:World} {s:List (Nat × Nat)}
theorem T_fin (h:wpS P ops C Q s a w):wpT P ops C L Q (.fin s) a w:=h
theorem T_two {i j:Nat} {t1 t2:Sch} (h:wpS P ops C (fun a w=>stepN P ops i (fun a' w'=>(lateB ops L i=false→C w→C w')∧wpT P ops C L Q t1 a' w') a w∧stepN P ops j (fun a' w'=>(lateB ops L j=false→C w→C w')∧wpT P ops C L Q t2 a' w') a w) s a w):wpT P ops C L Q (.two s i t1 j t2) a w:=h
theorem T_eff {o:Oper} {i:Nat} {t:Sch} (ho:ops[i]?=some o) (hw:Region.wanted o (yielded ops a.tmps)=true) (h:∀ K:Act→World→Prop,(∀ a' w',(C w→C w')∧wpT P ops C L Q t a' w'→K a' w')→o.wp P a w K NoQ):stepN P ops i (fun a' w'=>(lateB ops L i=false→C w→C w')∧wpT P ops C L Q t a' w') a w:=by
 simp only [stepN,ho,hw,if_true];exact h _ fun _ _ h=>⟨fun _=>h.1,h.2⟩
end
theorem once1 {α:Type} {F G:Nat→α→Prop} {A:Prop} (hA:(∀ b w,F b w→G b w)→A) (hk:∀ b w,F b w→G b w):A:=hA hk
end Go.Proofs.YtlbomnbpahmphaaGreat.Mix
