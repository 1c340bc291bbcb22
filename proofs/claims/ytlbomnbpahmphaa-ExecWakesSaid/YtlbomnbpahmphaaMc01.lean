/- The plain law: a task that is woken twice stands in the queue once. No condition. -/
import Derived.Test.YtlbomnbpahmphaaMa19
namespace Go.Proofs.Ytlbomnbpahmphaa

/-- The driver, with a trace ahead of its own. -/
def Dr.pre (D : Dr) (t : List Ev) : Dr := { D with trace := t ++ D.trace }

section
variable {D : Dr} {E : En}

theorem pre_tell (D : Dr) (t l : List Ev) : (D.pre t).tell l = (D.tell l).pre t := by simp [Dr.pre, Dr.tell]
theorem pre_stop (D : Dr) (t : List Ev) (e : Ev) : (D.pre t).stop e = (D.stop e).pre t := by simp [Dr.pre, Dr.stop]
theorem pre_ready (D : Dr) (t : List Ev) (n : Int) : (D.pre t).ready n = (D.ready n).pre t := by
  show (if n ∈ D.queue then _ else _) = _
  unfold Dr.ready
  split <;> rfl
theorem pre_took (D : Dr) (t : List Ev) : (D.pre t).took = D.took.pre t := by simp [Dr.pre, Dr.took]
theorem pre_marks (D : Dr) (t : List Ev) (o : Int × Int) : (D.pre t).marks o = (D.marks o).pre t := by
  unfold Dr.marks
  split
  · exact pre_stop _ _ _
  · split
    · exact pre_stop _ _ _
    · split
      · exact pre_stop _ _ _
      · rfl
theorem pre_ends (D : Dr) (t : List Ev) (n : Int) (e : Ev) : endsD E (D.pre t) n e = (endsD E D n e).pre t := by
  unfold endsD
  simp only
  have h : (({ D.pre t with S := (cancelS E.P (D.pre t).S ((D.pre t).frame n) n E.fuel).2 } : Dr).took.marks (cancelS E.P (D.pre t).S ((D.pre t).frame n) n E.fuel).1) = (({ D with S := (cancelS E.P D.S (D.frame n) n E.fuel).2 } : Dr).took.marks (cancelS E.P D.S (D.frame n) n E.fuel).1).pre t := by
    rw [← pre_marks, ← pre_took]
    rfl
  rw [h]
  generalize (({ D with S := (cancelS E.P D.S (D.frame n) n E.fuel).2 } : Dr).took.marks (cancelS E.P D.S (D.frame n) n E.fuel).1) = D1
  show (if D1.over = true then _ else _) = _
  split
  · rfl
  · rw [pre_tell]
    rfl
theorem pre_poll (D : Dr) (t : List Ev) (n : Int) : pollD E (D.pre t) n = (pollD E D n).pre t := by
  unfold pollD
  simp only
  have h0 : ((D.pre t).out n).put n { (D.pre t).task n with waits := false } = ((D.out n).put n { D.task n with waits := false }).pre t := rfl
  rw [h0]
  generalize (D.out n).put n { D.task n with waits := false } = D0
  have h : (({ D0.pre t with S := (pollS E.P (D0.pre t).S ((D0.pre t).frame n) n E.fuel).2 } : Dr).took.marks (pollS E.P (D0.pre t).S ((D0.pre t).frame n) n E.fuel).1) = (({ D0 with S := (pollS E.P D0.S (D0.frame n) n E.fuel).2 } : Dr).took.marks (pollS E.P D0.S (D0.frame n) n E.fuel).1).pre t := by
    rw [← pre_marks, ← pre_took]
    rfl
  rw [h]
  have hr : pollS E.P (D0.pre t).S ((D0.pre t).frame n) n E.fuel = pollS E.P D0.S (D0.frame n) n E.fuel := rfl
  rw [hr]
  generalize (({ D0 with S := (pollS E.P D0.S (D0.frame n) n E.fuel).2 } : Dr).took.marks (pollS E.P D0.S (D0.frame n) n E.fuel).1) = D1
  show (if D1.over = true then _ else _) = _
  split
  · rfl
  · split
    · rw [pre_tell, pre_ready]
    · split
      · rw [pre_tell]; rfl
      · split
        · exact pre_ends _ _ _ _
        · split
          · exact pre_ends _ _ _ _
          · rfl
theorem pre_wake (event : Int) (t : List Ev) : ∀ (k i : Nat) (D : Dr), wakeD event (D.pre t) k i = (wakeD event D k i).pre t
  | 0, _, _ => rfl
  | k + 1, i, D => by
    rw [wakeD, wakeD, ← pre_wake event t k (i + 1)]
    congr 1
    show (if (D.task i).live && (D.task i).waits && ((D.task i).event == event) then ((D.pre t).put i { D.task i with waits := false }).ready i else D.pre t) = _
    split
    · exact pre_ready (D.put i { D.task i with waits := false }) t i
    · rfl
theorem pre_complete (D : Dr) (t : List Ev) (event n : Int) : completeD (D.pre t) event n = (completeD D event n).pre t := pre_wake event t D.tasks.length 0 { D with S := completeS D.S event n }
theorem pre_start (D : Dr) (t : List Ev) (co : Int) (l : List Int) : startD E (D.pre t) co l = ((startD E D co l).1.pre t, (startD E D co l).2) := by
  unfold startD
  split
  · show (if (startS E.P D.S co l).2.2.1 = 2 then _ else _) = _
    split <;> rfl
  · rfl
theorem pre_spawn (D : Dr) (t : List Ev) (co : Int) (l : List Int) : spawnD E (D.pre t) co l = (spawnD E D co l).pre t := by
  unfold spawnD
  simp only [pre_start]
  show (if E.most ≤ (D.tasks.length : Int) then _ else _) = _
  split
  · exact pre_stop _ _ _
  · generalize startD E D co l = r
    split
    · exact pre_stop _ _ _
    · split
      · rw [← pre_tell, ← pre_ready]
        rfl
      · exact pre_tell _ _ _
theorem pre_act (D : Dr) (t : List Ev) (a : Sc) : actD E (D.pre t) a = ((actD E D a).1.pre t, (actD E D a).2) := by
  unfold actD
  by_cases h0 : a.k = 0
  · simp only [if_pos h0, pre_spawn]
  simp only [if_neg h0]
  by_cases h2 : a.k = 2
  · simp only [if_pos h2]
    show ((match D.queue with | [] => (D.pre t).tell [⟨1, -1, 0, 0⟩] | n :: _ => pollD E (D.pre t) n), true) = _
    cases D.queue with
    | nil => simp only [pre_tell]
    | cons n q => simp only [pre_poll]
  simp only [if_neg h2]
  by_cases h5 : a.k = 5
  · simp only [if_pos h5, pre_complete]
  simp only [if_neg h5]
  by_cases h6 : a.k = 6
  · simp only [if_pos h6]
    show (if D.known a.a && (D.task a.a).done then ((D.pre t).tell _, true) else _) = _
    split
    · rw [pre_tell]; rfl
    · rfl
  simp only [if_neg h6]
  have hl : (D.pre t).live a.a = D.live a.a := rfl
  simp only [hl]
  by_cases h1 : a.k = 1
  · simp only [if_pos h1]
    split
    · rw [pre_poll]
    · rfl
  simp only [if_neg h1]
  by_cases h3 : a.k = 3
  · simp only [if_pos h3]
    split
    · rw [pre_ready]
    · rfl
  simp only [if_neg h3]
  by_cases h4 : a.k = 4
  · simp only [if_pos h4]
    split
    · rw [pre_ends]
    · rfl
  simp only [if_neg h4]
theorem pre_next (D : Dr) (t : List Ev) (a : Sc) : nextD E (D.pre t) a = (nextD E D a).pre t := by
  unfold nextD
  rw [pre_act]
  show (if (actD E D a).1.over then _ else _) = _
  split
  · rfl
  · show (if (actD E D a).2 then _ else _) = _
    split
    · rfl
    · exact pre_tell _ _ _
theorem pre_run (t : List Ev) : ∀ (l : List Sc) (D : Dr), runD E (D.pre t) l = (runD E D l).pre t
  | [], _ => rfl
  | a :: l, D => by
    rw [runD, runD, pre_next]
    show (if (nextD E D a).over then _ else _) = _
    split
    · rfl
    · exact pre_run t l _

/-- **A task that is woken twice stands in the queue once.** What comes of a script, with one waking, and with two. -/
theorem wakes (D : Dr) (ho : D.over = false) (l m : List Sc) (task : Int) :
    (runD E D (l ++ [⟨3, task, 0, []⟩, ⟨3, task, 0, []⟩] ++ m)).trace = (runD E D (l ++ [⟨3, task, 0, []⟩] ++ m)).trace ∨
    ∃ r, (runD E D (l ++ [⟨3, task, 0, []⟩] ++ m)).trace = (runD E D l).trace ++ [⟨1, task, 0, 0⟩] ++ r ∧ (runD E D (l ++ [⟨3, task, 0, []⟩, ⟨3, task, 0, []⟩] ++ m)).trace = (runD E D l).trace ++ [⟨1, task, 0, 0⟩, ⟨1, task, 0, 0⟩] ++ r := by
  rw [List.append_assoc, List.append_assoc, runD_append _ _ D ho, runD_append _ _ D ho]
  split
  · exact Or.inl rfl
  · rename_i h
    have h : (runD E D l).over = false := by simpa using h
    generalize runD E D l = D1 at *
    have hn : nextD E D1 ⟨3, task, 0, []⟩ = if D1.live task then D1.ready task else D1.tell [⟨1, task, 0, 0⟩] := by
      unfold nextD actD
      simp only [if_neg (show ¬ (3 : Int) = 0 by decide), if_neg (show ¬ (3 : Int) = 2 by decide), if_neg (show ¬ (3 : Int) = 5 by decide), if_neg (show ¬ (3 : Int) = 6 by decide), if_neg (show ¬ (3 : Int) = 1 by decide), if_true]
      cases hl : D1.live task with
      | true =>
        simp only [if_true]
        split <;> rfl
      | false =>
        simp only [Bool.false_eq_true, if_false]
        rw [h]
        rfl
    cases hl : D1.live task with
    | true =>
      left
      rw [hl] at hn
      simp only [if_true] at hn
      have hro : (D1.ready task).over = false := by unfold Dr.ready; split <;> exact h
      have hlr : (D1.ready task).live task = true := by
        unfold Dr.ready
        split <;> exact hl
      have hrr : (D1.ready task).ready task = D1.ready task := by
        have : task ∈ (D1.ready task).queue := by
          unfold Dr.ready
          split
          · assumption
          · exact List.mem_append_right _ (List.mem_singleton.2 rfl)
        rw [Dr.ready, if_pos this]
      have hn2 : nextD E (D1.ready task) ⟨3, task, 0, []⟩ = D1.ready task := by
        unfold nextD actD
        simp only [if_neg (show ¬ (3 : Int) = 0 by decide), if_neg (show ¬ (3 : Int) = 2 by decide), if_neg (show ¬ (3 : Int) = 5 by decide), if_neg (show ¬ (3 : Int) = 6 by decide), if_neg (show ¬ (3 : Int) = 1 by decide), if_true, hlr, hrr]
        split <;> rfl
      show (runD E D1 (⟨3, task, 0, []⟩ :: ⟨3, task, 0, []⟩ :: m)).trace = (runD E D1 (⟨3, task, 0, []⟩ :: m)).trace
      rw [runD, runD, runD, hn, hro]
      simp only [Bool.false_eq_true, if_false, hn2, hro]
    | false =>
      right
      rw [hl] at hn
      simp only [Bool.false_eq_true, if_false] at hn
      have hn2 : nextD E (D1.tell [⟨1, task, 0, 0⟩]) ⟨3, task, 0, []⟩ = D1.tell [⟨1, task, 0, 0⟩, ⟨1, task, 0, 0⟩] := by
        have hl2 : (D1.tell [⟨1, task, 0, 0⟩]).live task = false := hl
        have h2 : (D1.tell [⟨1, task, 0, 0⟩]).over = false := h
        unfold nextD actD
        simp only [if_neg (show ¬ (3 : Int) = 0 by decide), if_neg (show ¬ (3 : Int) = 2 by decide), if_neg (show ¬ (3 : Int) = 5 by decide), if_neg (show ¬ (3 : Int) = 6 by decide), if_neg (show ¬ (3 : Int) = 1 by decide), if_true, hl2, h2, Bool.false_eq_true, if_false]
        simp [Dr.tell]
      have e1 : ∀ x : List Ev, D1.tell x = ({ D1 with trace := [] } : Dr).pre (D1.trace ++ x) := fun x => by simp [Dr.tell, Dr.pre]
      refine ⟨(runD E { D1 with trace := [] } m).trace, ?_, ?_⟩
      · show (runD E D1 (⟨3, task, 0, []⟩ :: m)).trace = _
        rw [runD, hn]
        have h2 : (D1.tell [⟨1, task, 0, 0⟩]).over = false := h
        simp only [h2, Bool.false_eq_true, if_false]
        rw [e1, pre_run]
        rfl
      · show (runD E D1 (⟨3, task, 0, []⟩ :: ⟨3, task, 0, []⟩ :: m)).trace = _
        rw [runD, runD, hn]
        have h2 : (D1.tell [⟨1, task, 0, 0⟩]).over = false := h
        have h3 : (D1.tell [⟨1, task, 0, 0⟩, ⟨1, task, 0, 0⟩]).over = false := h
        simp only [h2, Bool.false_eq_true, if_false, hn2, h3]
        rw [e1, pre_run]
        rfl
end

end Go.Proofs.Ytlbomnbpahmphaa
