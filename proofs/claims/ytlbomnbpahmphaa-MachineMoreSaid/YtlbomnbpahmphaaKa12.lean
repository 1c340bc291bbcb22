/- Walks: the driver's 'tell'. Condition: the driver's trace is a row of its own. -/
import Derived.Test.YtlbomnbpahmphaaKa08
import Derived.Test.YtlbomnbpahmphaaKa04
namespace Go.Proofs.Ytlbomnbpahmphaa
open Go.RowKit

theorem Try.infoEvent : (Try.prog.info? 63).map (fun i => (i.zero, i.size, i.bytes)) = some (some (.agg #[.int .i64 0, .int .i64 0, .int .i64 0, .int .i64 0]), 4, 32) := by kernel_rfl

structure Ev where
  kind : Int
  task : Int
  a : Int
  n : Int
def Ev.cs (e : Ev) : List Value := [.int .i64 e.kind, .int .i64 e.task, .int .i64 e.a, .int .i64 e.n]
def evs (l : List Ev) : List Value := l.flatMap Ev.cs
theorem evs_len (l : List Ev) : (evs l).length = l.length * 4 := by
  induction l with
  | nil => rfl
  | cons x l ih => simp only [evs, List.flatMap_cons, List.length_append, List.length_cons] at *; rw [ih]; simp [Ev.cs]; omega
theorem evs_append (l m : List Ev) : evs (l ++ m) = evs l ++ evs m := by simp [evs]

set_option maxRecDepth 100000 in
theorem tell_c (w : World) (d : Nat) (f0 f1 f2 f3 f4 tasks queue trace over : Value) (n : Nat) (es : List Ev) (hd : Row w d 107 [f0, f1, f2, f3, f4, tasks, queue, trace, over])
    (ht : Own w trace 63 4 n (evs es)) (sb so m c : Nat) (l : List Ev) (hl : l.length = m) (hm : 0 < m) (hc : ∀ j u, (evs l)[j]? = some u → w.cell? ⟨sb, so + j, none⟩ = some u) (hb : n + m ≤ 1000000000000) :
    Calls Try.prog 46 #[.pointer (some ⟨d, 0, none⟩), .slice (some ⟨sb, so, none⟩) m c] w fun e w' => e = .returned (.tuple #[]) ∧ ∃ trace', Row w' d 107 [f0, f1, f2, f3, f4, tasks, queue, trace', over] ∧
      Own w' trace' 63 4 (n + m) (evs (es ++ l)) ∧ (∀ g, trace'.ownBlock = some g → trace.ownBlock = some g ∨ w.heap.size ≤ g) ∧ Fr (fun x => x = d ∨ trace.ownBlock = some x) w w' := by
  obtain ⟨i0, hi, hz0, hz1, hz2⟩ := info_parts Try.infoEvent
  have c7 := hd.cell (o := 7) rfl
  have fz := hd.frozen
  have hlt := hd.lt
  have hne := ht.ne hd (by decide)
  obtain ⟨g, cap', w1, hrun, ho, hf, hg, hglt⟩ := run_app (P := Try.prog) (w := w) ht 48 48 i0 _ 32 Try.underlying48 hi hz0 hz1 hz2 rfl (by omega) sb so m c (evs l) (by rw [evs_len, hl]) hc
    (fun u hu => by simp only [evs, List.mem_flatMap] at hu; obtain ⟨e, _, he⟩ := hu; simp only [Ev.cs, List.mem_cons, List.not_mem_nil, or_false] at he; rcases he with rfl | rfl | rfl | rfl <;> rfl) hm (by omega) (by unfold maxLen; omega)
  have hd1 := hf.row hd hne
  have fz1 := hd1.frozen
  have c71 := hd1.cell (o := 7) rfl
  have HH := Lib.hid (And.intro hd1 (And.intro ho (And.intro hf (And.intro hg hne))))
  go_enter Try.func46, Try.ntmps46
  clear hd1 ho hf hg
  go_wp2_with (at_builtin; refine wpList_app rfl (.tmp 8) (.tmp 9) _ rfl rfl rfl _ rfl hrun ?_)
  obtain ⟨hd1, ho, hf, hg, hne⟩ := HH.out
  refine bodyPost_end (results_none rfl _ _ _) rfl ?_
  refine ⟨rfl, _, hd1.set_same 7 _, ?_, ?_, ?_⟩
  · rw [evs_append]
    exact ho.fr ((Fr.refl (fun x => x = d) w1).setCell (Or.inl rfl) _) (fun g' hg' e => by simp [Value.ownBlock] at hg'; subst hg' e; exact ho.ne hd1 (by decide) rfl)
  · intro g' hg'
    simp [Value.ownBlock] at hg'
    subst hg'
    rcases hg with hg | hg
    · exact Or.inl hg
    · exact Or.inr (Nat.le_of_eq hg.symm)
  · exact (hf.mono (D' := fun x => x = d ∨ trace.ownBlock = some x) fun b _ hb => Or.inr hb).setCell (a := ⟨d, 7, none⟩) (Or.inl (Or.inl rfl)) _

end Go.Proofs.Ytlbomnbpahmphaa
