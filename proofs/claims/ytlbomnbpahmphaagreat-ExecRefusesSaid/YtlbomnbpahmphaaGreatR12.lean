/- Walks: the driver's 'tell'. Condition: the driver's trace is a row of its own. -/
import Derived.Test.YtlbomnbpahmphaaGreatR08
import Derived.Test.YtlbomnbpahmphaaGreatR04
namespace Go.Proofs.YtlbomnbpahmphaaGreat
open Go.RowKit

theorem Tryz.infoEvent : (Tryz.prog.info? 74).map (fun i => (i.zero, i.size, i.bytes)) = some (some (.agg #[.int .i64 0, .int .i64 0, .int .i64 0, .int .i64 0]), 4, 32) := by kernel_rfl

structure Ev where
 kind : Int
 task : Int
 a : Int
 n : Int
def Ev.cs (e : Ev) : List Value := [.int .i64 e.kind, .int .i64 e.task, .int .i64 e.a, .int .i64 e.n]
def evs (l : List Ev) : List Value := l.flatMap Ev.cs
theorem evs_len (l : List Ev) : (evs l).length = l.length * 4 := by
 induction l with
 | nil => rfl
 | cons x l ih => simp only [evs, List.flatMap_cons, List.length_append, List.length_cons] at *; rw [ih]; simp [Ev.cs]; omega
theorem evs_append (l m : List Ev) : evs (l ++ m) = evs l ++ evs m := by simp [evs]

set_option maxRecDepth 100000 in
theorem tell_c (w : World) (d : Nat) (f0 f1 f2 f3 f4 tasks queue trace over : Value) (n : Nat) (es : List Ev) (hd : Row w d 165 [f0, f1, f2, f3, f4, tasks, queue, trace, over])
 (ht : Own w trace 74 4 n (evs es)) (sb so m c : Nat) (l : List Ev) (hl : l.length = m) (hm : 0 < m) (hc : ∀ j u, (evs l)[j]? = some u → w.cell? ⟨sb, so + j, none⟩ = some u) (hb : n + m ≤ 1000000000000) :
 Calls Tryz.prog 91 #[.pointer (some ⟨d, 0, none⟩), .slice (some ⟨sb, so, none⟩) m c] w fun e w' => e = .returned (.tuple #[]) ∧ ∃ trace', Row w' d 165 [f0, f1, f2, f3, f4, tasks, queue, trace', over] ∧
  Own w' trace' 74 4 (n + m) (evs (es ++ l)) ∧ (∀ g, trace'.ownBlock = some g → trace.ownBlock = some g ∨ w.heap.size ≤ g) ∧ Fr (fun x => x = d ∨ trace.ownBlock = some x) w w' := by
 obtain ⟨i0, hi, hz0, hz1, hz2⟩ := info_parts Tryz.infoEvent
 have c7 := hd.cell (o := 7) rfl
 have fz := hd.frozen
 have hlt := hd.lt
 have hne := ht.ne hd (by decide)
 obtain ⟨g, cap', w1, hrun, ho, hf, hg, hglt⟩ := run_app (P := Tryz.prog) (w := w) ht 56 56 i0 _ 32 Tryz.underlying56 hi hz0 hz1 hz2 rfl (by omega) sb so m c (evs l) (by rw [evs_len, hl]) hc
  (fun u hu => by simp only [evs, List.mem_flatMap] at hu; obtain ⟨e, _, he⟩ := hu; simp only [Ev.cs, List.mem_cons, List.not_mem_nil, or_false] at he; rcases he with rfl | rfl | rfl | rfl <;> rfl) hm (by omega) (by unfold maxLen; omega)
 have hd1 := hf.row hd hne
 have fz1 := hd1.frozen
 have c71 := hd1.cell (o := 7) rfl
 have HH := Lib.hid (And.intro hd1 (And.intro ho (And.intro hf (And.intro hg hne))))
 go_enter Tryz.func91, Tryz.ntmps91
 clear hd1 ho hf hg
 go_wp2_with (at_builtin; refine wpList_app rfl (.tmp 8) (.tmp 9) _ rfl rfl rfl _ rfl hrun ?_)
 obtain ⟨hd1, ho, hf, hg, hne⟩ := HH.out
 refine bodyPost_end (results_none rfl _ _ _) rfl ?_
 refine ⟨rfl, _, hd1.set_same 7 _, ?_, ?_, ?_⟩
 · rw [evs_append]
   exact ho.fr ((Fr.refl (fun x => x = d) w1).setCell (Or.inl rfl) _) (fun g' hg' e => by simp [Value.ownBlock] at hg'; subst hg' e; exact ho.ne hd1 (by decide) rfl)
 · intro g' hg'
   simp [Value.ownBlock] at hg'
   subst hg'
   rcases hg with hg | hg
   · exact Or.inl hg
   · exact Or.inr (Nat.le_of_eq hg.symm)
 · exact (hf.mono (D' := fun x => x = d ∨ trace.ownBlock = some x) fun b _ hb => Or.inr hb).setCell (a := ⟨d, 7, none⟩) (Or.inl (Or.inl rfl)) _

end Go.Proofs.YtlbomnbpahmphaaGreat

/- Walks: the driver's 'act' where there is no task, for all acts but spawning and completing. -/
namespace Go.Proofs.YtlbomnbpahmphaaGreat
open Go.RowKit

/-- The driver without tasks. -/
def Idle (w : World) (d : Nat) (f0 f1 f2 f3 f4 trace : Value) : Prop := Row w d 165 [f0, f1, f2, f3, f4, .slice none 0 0, .slice none 0 0, trace, .bool false]

set_option maxRecDepth 100000 in
set_option maxHeartbeats 400000 in
theorem act_idle_false (w : World) (d : Nat) (f0 f1 f2 f3 f4 trace : Value) (hd : Idle w d f0 f1 f2 f3 f4 trace) (k a n most : Int) (args : Value) (h0 : ¬ k = 0) (h2 : ¬ k = 2) (h5 : ¬ k = 5) :
 Calls Tryz.prog 90 #[.pointer (some ⟨d, 0, none⟩), .agg #[.int .i64 k, .int .i64 a, .int .i64 n, args], .int .i64 most] w fun e w' => e = .returned (.bool false) ∧ Fr Non w w' := by
 have c5 := hd.cell (o := 5) rfl
 have c6 := hd.cell (o := 6) rfl
 have hlt := hd.lt
 have hlx : ¬ d = w.heap.size := by omega
 clear hd
 have d0 : (k == 0) = false := beq_false_of_ne h0
 have d2 : (k == 2) = false := beq_false_of_ne h2
 have d5 : (k == 5) = false := beq_false_of_ne h5
 have hk : k = 6 ∨ (¬ k = 6 ∧ (k = 1 ∨ k = 3 ∨ k = 4 ∨ (¬ k = 1 ∧ ¬ k = 3 ∧ ¬ k = 4))) := by omega
 have ha : (decide (0 ≤ a) = true ∧ decide (a < 0) = false) ∨ (decide (0 ≤ a) = false ∧ decide (a < 0) = true) := by
  by_cases h : 0 ≤ a
  · exact Or.inl ⟨decide_eq_true h, decide_eq_false (by omega)⟩
  · exact Or.inr ⟨decide_eq_false h, decide_eq_true (by omega)⟩
 rcases hk with rfl | ⟨h6, rfl | rfl | rfl | ⟨h1, h3, h4⟩⟩
 · clear h0 h2 h5 d0 d2 d5
   rcases ha with ⟨ha0, ha1⟩ | ⟨ha0, ha1⟩
   all_goals go_enter Tryz.func90, Tryz.ntmps90
   all_goals go_wp2_with fail
   all_goals go_quiet (fail)
   all_goals go_wp2_with fail
   all_goals go_quiet (fail)
   all_goals go_wp2_with fail
   all_goals go_quiet (fail)
   all_goals go_wp2_with fail
   all_goals go_ret
   all_goals exact ⟨rfl, by exact (by repeat (first | exact .refl _ _ | assumption | apply Fr.drewN | apply Fr.drew | apply Fr.drewl | apply Fr.drewNl | apply Fr.alloc))⟩
 · clear d0 d2 d5 h0 h2 h5 h6
   rcases ha with ⟨ha0, ha1⟩ | ⟨ha0, ha1⟩
   all_goals go_enter Tryz.func90, Tryz.ntmps90
   all_goals go_wp2_with fail
   all_goals go_quiet (fail)
   all_goals go_wp2_with fail
   all_goals go_quiet (fail)
   all_goals go_wp2_with fail
   all_goals go_ret
   all_goals exact ⟨rfl, by exact (by repeat (first | exact .refl _ _ | assumption | apply Fr.drewN | apply Fr.drew | apply Fr.drewl | apply Fr.drewNl | apply Fr.alloc))⟩
 · clear d0 d2 d5 h0 h2 h5 h6
   rcases ha with ⟨ha0, ha1⟩ | ⟨ha0, ha1⟩
   all_goals go_enter Tryz.func90, Tryz.ntmps90
   all_goals go_wp2_with fail
   all_goals go_quiet (fail)
   all_goals go_wp2_with fail
   all_goals go_quiet (fail)
   all_goals go_wp2_with fail
   all_goals go_ret
   all_goals exact ⟨rfl, by exact (by repeat (first | exact .refl _ _ | assumption | apply Fr.drewN | apply Fr.drew | apply Fr.drewl | apply Fr.drewNl | apply Fr.alloc))⟩
 · clear d0 d2 d5 h0 h2 h5 h6
   rcases ha with ⟨ha0, ha1⟩ | ⟨ha0, ha1⟩
   all_goals go_enter Tryz.func90, Tryz.ntmps90
   all_goals go_wp2_with fail
   all_goals go_quiet (fail)
   all_goals go_wp2_with fail
   all_goals go_quiet (fail)
   all_goals go_wp2_with fail
   all_goals go_ret
   all_goals exact ⟨rfl, by exact (by repeat (first | exact .refl _ _ | assumption | apply Fr.drewN | apply Fr.drew | apply Fr.drewl | apply Fr.drewNl | apply Fr.alloc))⟩
 · clear h0 h2 h5
   have d1 : (k == 1) = false := beq_false_of_ne h1
   have d3 : (k == 3) = false := beq_false_of_ne h3
   have d4 : (k == 4) = false := beq_false_of_ne h4
   have d6 : (k == 6) = false := beq_false_of_ne h6
   rcases ha with ⟨ha0, ha1⟩ | ⟨ha0, ha1⟩
   all_goals go_enter Tryz.func90, Tryz.ntmps90
   all_goals go_wp2_with fail
   all_goals go_quiet (fail)
   all_goals go_wp2_with fail
   all_goals go_quiet (fail)
   all_goals go_wp2_with fail
   all_goals go_ret
   all_goals exact ⟨rfl, by exact (by repeat (first | exact .refl _ _ | assumption | apply Fr.drewN | apply Fr.drew | apply Fr.drewl | apply Fr.drewNl | apply Fr.alloc))⟩

set_option maxRecDepth 100000 in
set_option maxHeartbeats 400000 in
theorem act_idle_next (w : World) (d : Nat) (f0 f1 f2 f3 f4 trace : Value) (hd : Idle w d f0 f1 f2 f3 f4 trace) (m : Nat) (es : List Ev) (ht : Own w trace 74 4 m (evs es)) (hm : m ≤ 1000000) (k a n most : Int) (args : Value) (hk2 : k = 2) :
 Calls Tryz.prog 90 #[.pointer (some ⟨d, 0, none⟩), .agg #[.int .i64 k, .int .i64 a, .int .i64 n, args], .int .i64 most] w fun e w' => e = .returned (.bool true) ∧ ∃ trace', Idle w' d f0 f1 f2 f3 f4 trace' ∧
  Own w' trace' 74 4 (m + 1) (evs (es ++ [⟨1, -1, 0, 0⟩])) ∧ (∀ g, trace'.ownBlock = some g → trace.ownBlock = some g ∨ w.heap.size ≤ g) ∧ Fr (fun x => x = d ∨ trace.ownBlock = some x) w w' := by
 subst hk2
 have c5 := hd.cell (o := 5) rfl
 have c6 := hd.cell (o := 6) rfl
 have hlt := hd.lt
 have hlx : ¬ d = w.heap.size := by omega
 have HH := Lib.hid (And.intro hd ht)
 clear hd ht
 have ha : (decide (0 ≤ a) = true ∧ decide (a < 0) = false) ∨ (decide (0 ≤ a) = false ∧ decide (a < 0) = true) := by
  by_cases h : 0 ≤ a
  · exact Or.inl ⟨decide_eq_true h, decide_eq_false (by omega)⟩
  · exact Or.inr ⟨decide_eq_false h, decide_eq_true (by omega)⟩
 rcases ha with ⟨ha0, ha1⟩ | ⟨ha0, ha1⟩
 all_goals go_enter Tryz.func90, Tryz.ntmps90
 all_goals go_wp2_with fail
 all_goals go_quiet (fail)
 all_goals go_wp2_with fail
 all_goals go_quiet (fail)
 all_goals go_wp2_with fail
 all_goals refine (tell_c _ d f0 f1 f2 f3 f4 (.slice none 0 0) (.slice none 0 0) trace (.bool false) m es (((HH.out.1.alloc _).drewN _).alloc _) (HH.out.2.fr (D := Non) (by exact (by repeat (first | exact .refl _ _ | assumption | apply Fr.drewN | apply Fr.drew | apply Fr.drewl | apply Fr.drewNl | apply Fr.alloc))) (fun _ _ => id)) (w.heap.size + 1) 0 1 1 [⟨1, -1, 0, 0⟩] rfl (by omega) (Row.new' (by simp)).news (by omega)).mono ?_
 any_goals (rintro e1 w1 ⟨rfl, tr, hrow, hown, hg, hf⟩)
 all_goals have HH' := Lib.hid (And.intro hrow (And.intro hown (And.intro hg hf)))
 all_goals clear hrow hown hg hf
 all_goals go_wp2
 all_goals go_ret
 all_goals obtain ⟨hrow, hown, hg, hf⟩ := HH'.out
 all_goals refine ⟨rfl, tr, hrow, hown, fun g hg' => (hg g hg').imp id (fun h => by simp at h; omega), ?_⟩
 all_goals exact Fr.then (D := fun x => x = d ∨ trace.ownBlock = some x) (E := fun x => x = d ∨ trace.ownBlock = some x) (by exact (by repeat (first | exact .refl _ _ | assumption | apply Fr.drewN | apply Fr.drew | apply Fr.drewl | apply Fr.drewNl | apply Fr.alloc))) hf (fun _ _ h => h)

end Go.Proofs.YtlbomnbpahmphaaGreat
