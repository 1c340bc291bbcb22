/- The plain law: what is refused changes nothing. Conditions: acts and fuel are few. -/
import Derived.Test.YtlbomnbpahmphaaGreatR44
import Derived.Test.YtlbomnbpahmphaaGreatR18
namespace Go.Proofs.YtlbomnbpahmphaaGreat

/-- If it is over, the trace ends with a mark. -/
def Ovr (D : Dr) : Prop := D.over = true → endsL D.trace
theorem Ovr.no {D : Dr} (h : D.over = false) : Ovr D := fun e => by rw [h] at e; cases e
theorem Ovr.stop (D : Dr) {e : Ev} (he : marked e) : Ovr (D.stop e) := fun _ => ⟨e, by simp [Dr.stop], he⟩

section
variable {E : En}

theorem marks_ovr {D : Dr} (h : D.over = false) (o : Int × Int) : Ovr (D.marks o) := by
 unfold Dr.marks
 split
 · exact Ovr.stop D (by unfold marked; simp)
 · split
   · exact Ovr.stop D (by unfold marked; simp)
   · split
     · exact Ovr.stop D (by unfold marked; simp)
     · exact Ovr.no h
theorem endsD_ovr {D : Dr} (h : D.over = false) (n : Int) (e : Ev) : Ovr (endsD E D n e) := by
 unfold endsD
 have hm := marks_ovr (D := ({ D with S := (cancelS E.P D.S (D.frame n) n E.fuel).2 } : Dr).took) h (cancelS E.P D.S (D.frame n) n E.fuel).1
 simp only
 generalize (({ D with S := (cancelS E.P D.S (D.frame n) n E.fuel).2 } : Dr).took.marks (cancelS E.P D.S (D.frame n) n E.fuel).1) = D1 at *
 split
 · exact hm
 · rename_i h1
   have h1 : D1.over = false := by simpa using h1
   exact Ovr.no h1
theorem ready_over (D : Dr) (n : Int) : (D.ready n).over = D.over := by
 unfold Dr.ready
 split <;> rfl
theorem pollD_ovr {D : Dr} (h : D.over = false) (n : Int) : Ovr (pollD E D n) := by
 unfold pollD
 have h0 : ((D.out n).put n { D.task n with waits := false }).over = false := h
 simp only
 generalize (D.out n).put n { D.task n with waits := false } = D0 at *
 have hm := marks_ovr (D := ({ D0 with S := (pollS E.P D0.S (D0.frame n) n E.fuel).2 } : Dr).took) h0 (pollS E.P D0.S (D0.frame n) n E.fuel).1
 generalize (({ D0 with S := (pollS E.P D0.S (D0.frame n) n E.fuel).2 } : Dr).took.marks (pollS E.P D0.S (D0.frame n) n E.fuel).1) = D1 at *
 split
 · exact hm
 · rename_i h1
   have h1 : D1.over = false := by simpa using h1
   split
   · exact Ovr.no (by rw [ready_over]; exact h1)
   · split
     · exact Ovr.no h1
     · split
       · exact endsD_ovr h1 _ _
       · split
         · exact endsD_ovr h1 _ _
         · exact hm
theorem wakeD_over (event : Int) : ∀ (k i : Nat) (D : Dr), (wakeD event D k i).over = D.over
 | 0, _, _ => rfl
 | k + 1, i, D => by
  rw [wakeD, wakeD_over event k (i + 1)]
  split
  · rw [ready_over]; rfl
  · rfl
theorem startD_over (D : Dr) (co : Int) (l : List Int) : (startD E D co l).1.over = D.over := by
 unfold startD
 split
 · split <;> rfl
 · rfl
theorem spawnD_ovr {D : Dr} (h : D.over = false) (co : Int) (l : List Int) : Ovr (spawnD E D co l) := by
 unfold spawnD
 split
 · exact Ovr.stop D (by unfold marked; simp)
 · have hs := startD_over (E := E) D co l
   simp only
   generalize startD E D co l = r at *
   split
   · exact Ovr.stop _ (by unfold marked; simp)
   · split
     · refine Ovr.no ?_
       show (Dr.ready _ _).over = false
       rw [ready_over]
       exact hs.trans h
     · exact Ovr.no (hs.trans h)
theorem actD_ovr {D : Dr} (h : D.over = false) (a : Sc) : Ovr (actD E D a).1 := by
 unfold actD
 split
 · exact spawnD_ovr h _ _
 · split
   · cases hq : D.queue with
     | nil => exact Ovr.no h
     | cons n q => exact pollD_ovr h n
   · split
     · exact Ovr.no (by show (completeD D a.a a.n).over = false; unfold completeD; rw [wakeD_over]; exact h)
     · split
       · split
         · exact Ovr.no h
         · exact Ovr.no h
       · split
         · simp only
           split
           · exact pollD_ovr h _
           · exact Ovr.no h
         · split
           · simp only
             split
             · exact Ovr.no (by rw [ready_over]; exact h)
             · exact Ovr.no h
           · split
             · simp only
               split
               · exact endsD_ovr h _ _
               · exact Ovr.no h
             · exact Ovr.no h
theorem nextD_ovr {D : Dr} (h : D.over = false) (a : Sc) : Ovr (nextD E D a) := by
 unfold nextD
 have ha := actD_ovr (E := E) h a
 split
 · exact ha
 · rename_i h1
   have h1 : (actD E D a).1.over = false := by simpa using h1
   split
   · exact ha
   · exact Ovr.no h1
theorem runD_ovr : ∀ (l : List Sc) (D : Dr), D.over = false → Ovr (runD E D l)
 | [], D, h => Ovr.no h
 | a :: l, D, h => by
  rw [runD]
  split
  · exact nextD_ovr h a
  · rename_i h1
    exact runD_ovr l _ (by simpa using h1)

/-- An act that is refused, told. -/
theorem refused_next {D : Dr} (h : D.over = false) {a : Sc} (ha : (a.k < 0 ∨ 6 < a.k) ∨ ((a.k = 1 ∨ a.k = 4) ∧ D.live a.a = false) ∨ (a.k = 6 ∧ D.known a.a = false)) : nextD E D a = D.tell [⟨1, a.a, 0, 0⟩] := by
 have e : actD E D a = (D, false) := by
  unfold actD
  rcases ha with ha | ⟨ha, hl⟩ | ⟨ha, hl⟩
  · rw [if_neg (by omega), if_neg (by omega), if_neg (by omega), if_neg (by omega), if_neg (by omega), if_neg (by omega), if_neg (by omega)]
  · rw [if_neg (by omega), if_neg (by omega), if_neg (by omega), if_neg (by omega), hl]
    rcases ha with ha | ha
    · rw [if_pos ha]; rfl
    · rw [if_neg (by omega), if_neg (by omega), if_pos ha]; rfl
  · rw [if_neg (by omega), if_neg (by omega), if_neg (by omega), if_pos ha, hl]
    rfl
 unfold nextD
 rw [e]
 simp [h]

def fourS (kind : Int) : List Sc := [⟨kind, 3, 0, []⟩, ⟨1, -1, 0, []⟩, ⟨6, 1099511627776, 0, []⟩, ⟨4, 1099511627776, 0, []⟩]
def fourE : List Ev := [⟨1, 3, 0, 0⟩, ⟨1, -1, 0, 0⟩, ⟨1, 1099511627776, 0, 0⟩, ⟨1, 1099511627776, 0, 0⟩]

theorem four_run {D : Dr} (h : D.over = false) (ht : D.tasks.length ≤ 1000) {kind : Int} (hk : kind < 0 ∨ 6 < kind) (m : List Sc) : (runD E D (fourS kind ++ m)).trace = D.trace ++ fourE ++ (runD E { D with trace := [] } m).trace ∧ (runD E D m).trace = D.trace ++ (runD E { D with trace := [] } m).trace := by
 have hb : ∀ D' : Dr, D'.tasks = D.tasks → D'.known 1099511627776 = false := fun D' e => by
  unfold Dr.known
  rw [e, decide_eq_false (p := (1099511627776 : Int) < _) (by omega), Bool.and_false]
 have hn : ∀ D' : Dr, D'.known (-1) = false := fun D' => by
  unfold Dr.known
  rw [decide_eq_false (by omega), Bool.false_and]
 have hl4 : ∀ D' : Dr, D'.tasks = D.tasks → D'.live 1099511627776 = false := fun D' e => by unfold Dr.live; rw [hb D' e, Bool.false_and]
 have hl1 : ∀ D' : Dr, D'.live (-1) = false := fun D' => by unfold Dr.live; rw [hn, Bool.false_and]
 have hpre : ∀ t, (runD E { D with trace := t } m).trace = t ++ (runD E { D with trace := [] } m).trace := fun t => by
  have : ({ D with trace := t } : Dr) = ({ D with trace := [] } : Dr).pre t := by simp [Dr.pre]
  rw [this, pre_run]
  rfl
 refine ⟨?_, hpre D.trace⟩
 unfold fourS
 simp only [List.cons_append, List.nil_append]
 have n1 := refused_next (E := E) h (a := ⟨kind, 3, 0, []⟩) (Or.inl hk)
 have n2 := refused_next (E := E) (D := D.tell [⟨1, 3, 0, 0⟩]) h (a := ⟨1, -1, 0, []⟩) (Or.inr (Or.inl ⟨Or.inl rfl, hl1 _⟩))
 have n3 := refused_next (E := E) (D := (D.tell [⟨1, 3, 0, 0⟩]).tell [⟨1, -1, 0, 0⟩]) h (a := ⟨6, 1099511627776, 0, []⟩) (Or.inr (Or.inr ⟨rfl, hb _ rfl⟩))
 have n4 := refused_next (E := E) (D := ((D.tell [⟨1, 3, 0, 0⟩]).tell [⟨1, -1, 0, 0⟩]).tell [⟨1, 1099511627776, 0, 0⟩]) h (a := ⟨4, 1099511627776, 0, []⟩) (Or.inr (Or.inl ⟨Or.inr rfl, hl4 _ rfl⟩))
 have o1 : (D.tell [⟨1, 3, 0, 0⟩]).over = false := h
 have o2 : ((D.tell [⟨1, 3, 0, 0⟩]).tell [⟨1, -1, 0, 0⟩]).over = false := h
 have o3 : (((D.tell [⟨1, 3, 0, 0⟩]).tell [⟨1, -1, 0, 0⟩]).tell [⟨1, 1099511627776, 0, 0⟩]).over = false := h
 have o4 : ((((D.tell [⟨1, 3, 0, 0⟩]).tell [⟨1, -1, 0, 0⟩]).tell [⟨1, 1099511627776, 0, 0⟩]).tell [⟨1, 1099511627776, 0, 0⟩]).over = false := h
 rw [runD, n1, o1, if_neg (by decide), runD, n2, o2, if_neg (by decide), runD, n3, o3, if_neg (by decide), runD, n4, o4, if_neg (by decide)]
 have : ((((D.tell [⟨1, 3, 0, 0⟩]).tell [⟨1, -1, 0, 0⟩]).tell [⟨1, 1099511627776, 0, 0⟩]).tell [⟨1, 1099511627776, 0, 0⟩]) = { D with trace := D.trace ++ fourE } := by simp [Dr.tell, fourE]
 rw [this, hpre]

end

section
variable {P : Pr} {opn : List Bool} {fuel words tasks : Int}

def fourX (kind : Int) : List Ax := [⟨kind, 3, 0, []⟩, ⟨1, -1, 0, []⟩, ⟨6, 1099511627776, 0, []⟩, ⟨4, 1099511627776, 0, []⟩]

theorem refuses_x (hf : fuel ≤ 3000) (hlab : ∀ f ∈ P.funs, ∀ x ∈ f, x.l.length ≤ 17592186043904) (l m : List Ax) (hl : l.length ≤ 45) {kind : Int} (hk : kind < 0 ∨ 6 < kind) :
 (endsB (runX P opn l fuel words tasks) = true ∧ runX P opn (l ++ fourX kind ++ m) fuel words tasks = runX P opn (l ++ m) fuel words tasks) ∨
 (endsB (runX P opn l fuel words tasks) = false ∧ validS P = true ∧ ∃ r, runX P opn (l ++ m) fuel words tasks = runX P opn l fuel words tasks ++ r ∧ runX P opn (l ++ fourX kind ++ m) fuel words tasks = runX P opn l fuel words tasks ++ fourE ++ r) := by
 cases he : endsB (runX P opn l fuel words tasks) with
 | true =>
  left
  refine ⟨rfl, ?_⟩
  rw [(begins_x l m).2 he, List.append_assoc, (begins_x l (fourX kind ++ m)).2 he]
 | false =>
  right
  by_cases hv : validS P = true
  · refine ⟨rfl, hv, ?_⟩
    unfold runX at he ⊢
    simp only [if_pos hv, List.map_append] at he ⊢
    have hP := valid_good hv hlab
    have hov := runD_ovr (E := ⟨P, opn, fuel, max tasks 0⟩) (l.map Ax.sc) (Dr.new words) rfl
    have hfew : ∀ (m : List Sc) (D : Dr) (k : Nat), DFew k D → k + 2 * m.length ≤ 100 → (runD ⟨P, opn, fuel, max tasks 0⟩ D m).tasks.length ≤ 1000 := by
     intro m
     induction m with
     | nil => intro D k hD hk; have := hD.tk; simp only [List.length_nil] at hk; show D.tasks.length ≤ _; omega
     | cons a m ih =>
      intro D k hD hk
      simp only [List.length_cons] at hk
      have hn := nextD_few (E := ⟨P, opn, fuel, max tasks 0⟩) hD (by omega) hP hf a
      rw [runD]
      split
      · have := hn.tk; omega
      · exact ih _ (k + 2) hn (by omega)
    have hfw := hfew (l.map Ax.sc) (Dr.new words) 0 (newD_few words) (by simp; omega)
    have e4 : (fourX kind).map Ax.sc = fourS kind := rfl
    rw [e4, List.append_assoc, runD_append _ _ _ rfl, runD_append _ _ _ rfl]
    generalize runD ⟨P, opn, fuel, max tasks 0⟩ (Dr.new words) (l.map Ax.sc) = D1 at *
    cases ho : D1.over with
    | true =>
     have := (endsB_iff _).2 (hov ho)
     rw [he] at this
     cases this
    | false =>
     simp only [Bool.false_eq_true, if_false]
     obtain ⟨q1, q2⟩ := four_run (E := ⟨P, opn, fuel, max tasks 0⟩) ho hfw hk (m.map Ax.sc)
     exact ⟨_, q2, q1⟩
  · exfalso
    unfold runX at he
    rw [if_neg hv] at he
    simp [endsB] at he
end

end Go.Proofs.YtlbomnbpahmphaaGreat
