/- Walks: the driver's 'act' where there is no task, for all acts but spawning and completing. -/
import Derived.Test.YtlbomnbpahmphaaTell
namespace Go.Proofs.Ytlbomnbpahmphaa
open Go.RowKit

/-- The driver without tasks. -/
def Idle (w : World) (d : Nat) (f0 f1 f2 f3 f4 trace : Value) : Prop := Row w d 107 [f0, f1, f2, f3, f4, .slice none 0 0, .slice none 0 0, trace, .bool false]

set_option maxRecDepth 100000 in
set_option maxHeartbeats 400000 in
theorem act_idle_false (w : World) (d : Nat) (f0 f1 f2 f3 f4 trace : Value) (hd : Idle w d f0 f1 f2 f3 f4 trace) (k a n most : Int) (args : Value) (h0 : ¬ k = 0) (h2 : ¬ k = 2) (h5 : ¬ k = 5) :
    Calls Try.prog 45 #[.pointer (some ⟨d, 0, none⟩), .agg #[.int .i64 k, .int .i64 a, .int .i64 n, args], .int .i64 most] w fun e w' => e = .returned (.bool false) ∧ Fr Non w w' := by
  have c5 := hd.cell (o := 5) rfl
  have c6 := hd.cell (o := 6) rfl
  have hlt := hd.lt
  have hlx : ¬ d = w.heap.size := by omega
  clear hd
  have d0 : (k == 0) = false := beq_false_of_ne h0
  have d2 : (k == 2) = false := beq_false_of_ne h2
  have d5 : (k == 5) = false := beq_false_of_ne h5
  have hk : k = 6 ∨ (¬ k = 6 ∧ (k = 1 ∨ k = 3 ∨ k = 4 ∨ (¬ k = 1 ∧ ¬ k = 3 ∧ ¬ k = 4))) := by omega
  have ha : (decide (0 ≤ a) = true ∧ decide (a < 0) = false) ∨ (decide (0 ≤ a) = false ∧ decide (a < 0) = true) := by
    by_cases h : 0 ≤ a
    · exact Or.inl ⟨decide_eq_true h, decide_eq_false (by omega)⟩
    · exact Or.inr ⟨decide_eq_false h, decide_eq_true (by omega)⟩
  rcases hk with rfl | ⟨h6, rfl | rfl | rfl | ⟨h1, h3, h4⟩⟩
  · clear h0 h2 h5 d0 d2 d5
    rcases ha with ⟨ha0, ha1⟩ | ⟨ha0, ha1⟩
    all_goals go_enter Try.func45, Try.ntmps45
    all_goals go_wp2_with fail
    all_goals go_quiet (fail)
    all_goals go_wp2_with fail
    all_goals go_quiet (fail)
    all_goals go_wp2_with fail
    all_goals go_quiet (fail)
    all_goals go_wp2_with fail
    all_goals go_ret
    all_goals exact ⟨rfl, by exact (by repeat (first | exact Fr.refl _ _ | assumption | refine Fr.drewN ?_ _ | refine Fr.drew ?_ | refine Fr.drewl ?_ | refine Fr.drewNl ?_ _ | refine Fr.alloc ?_ _))⟩
  · clear d0 d2 d5 h0 h2 h5 h6
    rcases ha with ⟨ha0, ha1⟩ | ⟨ha0, ha1⟩
    all_goals go_enter Try.func45, Try.ntmps45
    all_goals go_wp2_with fail
    all_goals go_quiet (fail)
    all_goals go_wp2_with fail
    all_goals go_quiet (fail)
    all_goals go_wp2_with fail
    all_goals go_ret
    all_goals exact ⟨rfl, by exact (by repeat (first | exact Fr.refl _ _ | assumption | refine Fr.drewN ?_ _ | refine Fr.drew ?_ | refine Fr.drewl ?_ | refine Fr.drewNl ?_ _ | refine Fr.alloc ?_ _))⟩
  · clear d0 d2 d5 h0 h2 h5 h6
    rcases ha with ⟨ha0, ha1⟩ | ⟨ha0, ha1⟩
    all_goals go_enter Try.func45, Try.ntmps45
    all_goals go_wp2_with fail
    all_goals go_quiet (fail)
    all_goals go_wp2_with fail
    all_goals go_quiet (fail)
    all_goals go_wp2_with fail
    all_goals go_ret
    all_goals exact ⟨rfl, by exact (by repeat (first | exact Fr.refl _ _ | assumption | refine Fr.drewN ?_ _ | refine Fr.drew ?_ | refine Fr.drewl ?_ | refine Fr.drewNl ?_ _ | refine Fr.alloc ?_ _))⟩
  · clear d0 d2 d5 h0 h2 h5 h6
    rcases ha with ⟨ha0, ha1⟩ | ⟨ha0, ha1⟩
    all_goals go_enter Try.func45, Try.ntmps45
    all_goals go_wp2_with fail
    all_goals go_quiet (fail)
    all_goals go_wp2_with fail
    all_goals go_quiet (fail)
    all_goals go_wp2_with fail
    all_goals go_ret
    all_goals exact ⟨rfl, by exact (by repeat (first | exact Fr.refl _ _ | assumption | refine Fr.drewN ?_ _ | refine Fr.drew ?_ | refine Fr.drewl ?_ | refine Fr.drewNl ?_ _ | refine Fr.alloc ?_ _))⟩
  · clear h0 h2 h5
    have d1 : (k == 1) = false := beq_false_of_ne h1
    have d3 : (k == 3) = false := beq_false_of_ne h3
    have d4 : (k == 4) = false := beq_false_of_ne h4
    have d6 : (k == 6) = false := beq_false_of_ne h6
    rcases ha with ⟨ha0, ha1⟩ | ⟨ha0, ha1⟩
    all_goals go_enter Try.func45, Try.ntmps45
    all_goals go_wp2_with fail
    all_goals go_quiet (fail)
    all_goals go_wp2_with fail
    all_goals go_quiet (fail)
    all_goals go_wp2_with fail
    all_goals go_ret
    all_goals exact ⟨rfl, by exact (by repeat (first | exact Fr.refl _ _ | assumption | refine Fr.drewN ?_ _ | refine Fr.drew ?_ | refine Fr.drewl ?_ | refine Fr.drewNl ?_ _ | refine Fr.alloc ?_ _))⟩

set_option maxRecDepth 100000 in
set_option maxHeartbeats 400000 in
theorem act_idle_next (w : World) (d : Nat) (f0 f1 f2 f3 f4 trace : Value) (hd : Idle w d f0 f1 f2 f3 f4 trace) (m : Nat) (es : List Ev) (ht : Own w trace 63 4 m (evs es)) (hm : m ≤ 1000000) (k a n most : Int) (args : Value) (hk2 : k = 2) :
    Calls Try.prog 45 #[.pointer (some ⟨d, 0, none⟩), .agg #[.int .i64 k, .int .i64 a, .int .i64 n, args], .int .i64 most] w fun e w' => e = .returned (.bool true) ∧ ∃ trace', Idle w' d f0 f1 f2 f3 f4 trace' ∧
      Own w' trace' 63 4 (m + 1) (evs (es ++ [⟨1, -1, 0, 0⟩])) ∧ (∀ g, trace'.ownBlock = some g → trace.ownBlock = some g ∨ w.heap.size ≤ g) ∧ Fr (fun x => x = d ∨ trace.ownBlock = some x) w w' := by
  subst hk2
  have c5 := hd.cell (o := 5) rfl
  have c6 := hd.cell (o := 6) rfl
  have hlt := hd.lt
  have hlx : ¬ d = w.heap.size := by omega
  have HH := Lib.hid (And.intro hd ht)
  clear hd ht
  have ha : (decide (0 ≤ a) = true ∧ decide (a < 0) = false) ∨ (decide (0 ≤ a) = false ∧ decide (a < 0) = true) := by
    by_cases h : 0 ≤ a
    · exact Or.inl ⟨decide_eq_true h, decide_eq_false (by omega)⟩
    · exact Or.inr ⟨decide_eq_false h, decide_eq_true (by omega)⟩
  rcases ha with ⟨ha0, ha1⟩ | ⟨ha0, ha1⟩
  all_goals go_enter Try.func45, Try.ntmps45
  all_goals go_wp2_with fail
  all_goals go_quiet (fail)
  all_goals go_wp2_with fail
  all_goals go_quiet (fail)
  all_goals go_wp2_with fail
  all_goals refine (tell_c _ d f0 f1 f2 f3 f4 (.slice none 0 0) (.slice none 0 0) trace (.bool false) m es (((HH.out.1.alloc _).drewN _).alloc _) (HH.out.2.fr (D := Non) (by exact (by repeat (first | exact Fr.refl _ _ | assumption | refine Fr.drewN ?_ _ | refine Fr.drew ?_ | refine Fr.drewl ?_ | refine Fr.drewNl ?_ _ | refine Fr.alloc ?_ _))) (fun _ _ => id)) (w.heap.size + 1) 0 1 1 [⟨1, -1, 0, 0⟩] rfl (by omega) (Row.new' (by simp)).news (by omega)).mono ?_
  any_goals (rintro e1 w1 ⟨rfl, tr, hrow, hown, hg, hf⟩)
  all_goals have HH' := Lib.hid (And.intro hrow (And.intro hown (And.intro hg hf)))
  all_goals clear hrow hown hg hf
  all_goals go_wp2
  all_goals go_ret
  all_goals obtain ⟨hrow, hown, hg, hf⟩ := HH'.out
  all_goals refine ⟨rfl, tr, hrow, hown, fun g hg' => (hg g hg').imp id (fun h => by simp at h; omega), ?_⟩
  all_goals exact Fr.then (D := fun x => x = d ∨ trace.ownBlock = some x) (E := fun x => x = d ∨ trace.ownBlock = some x) (by exact (by repeat (first | exact Fr.refl _ _ | assumption | refine Fr.drewN ?_ _ | refine Fr.drew ?_ | refine Fr.drewl ?_ | refine Fr.drewNl ?_ _ | refine Fr.alloc ?_ _))) hf (fun _ _ h => h)

end Go.Proofs.Ytlbomnbpahmphaa
