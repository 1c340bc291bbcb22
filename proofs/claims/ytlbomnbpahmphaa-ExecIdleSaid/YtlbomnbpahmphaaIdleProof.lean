/- THE LAW 'ExecIdle': for every row of acts, and every number of tasks, it answers true and leaves what came in as it was. No condition. -/
import Derived.Test.YtlbomnbpahmphaaRows
import Derived.Test.YtlbomnbpahmphaaChecked
import Derived.Test.YtlbomnbpahmphaaIdleWalk
import Derived.Test.YtlbomnbpahmphaaArgs
import Derived.Deep.Slices
import Derived.ProofKit
namespace Go.Proofs.Ytlbomnbpahmphaa
open Go.ChangeShapes Go.WideShapes Go.ChangeAt Go.RowKit

instance : Inhabited Ac := ⟨⟨0, 0, 0, none, 0, 0⟩⟩

section
variable {H : Type} {enc : TypeId × Value → H} {w : World} {base : Nat} {sp : Nat → Bool} {held : Bool}

theorem trod_one {f : Nat → List Value → Option (DataW H × List MemPlace)} {n : Nat} {c : List Value} {xs : List (DataW H × List MemPlace)} {i : Nat} (h : f n c = xs[i]?) (hi : i < xs.length) : ∃ y, f n c = some y := ⟨_, h.trans (List.getElem?_eq_getElem hi)⟩

set_option maxRecDepth 100000 in
theorem open_act {fuel : Nat} {cs : List Value} {x : DataW H × List MemPlace} (h : DataW.trod enc Try.prog w base sp held fuel 67 cs = some x) : ∃ y : Ac, cs = y.cs := by
  obtain ⟨xs, n, _, _, hl, hxl, hf⟩ := DataW.trod_struct Try.underlying67 h
  have hl' : cs.length = 4 := hl.trans (by kernel_rfl)
  match cs, hl' with
  | [c0, c1, c2, c3], _ =>
  have k0 : Try.prog.cellsOf 65 = 1 := by kernel_rfl
  have k1 : Try.prog.cellsOf 3 = 1 := by kernel_rfl
  have k3 : Try.prog.cellsOf 34 = 1 := by kernel_rfl
  have f0 := (hf 0 _ rfl).trans (List.getElem?_eq_getElem (by rw [hxl]; decide))
  have f1 := (hf 1 _ rfl).trans (List.getElem?_eq_getElem (by rw [hxl]; decide))
  have f2 := (hf 2 _ rfl).trans (List.getElem?_eq_getElem (by rw [hxl]; decide))
  have f3 := (hf 3 _ rfl).trans (List.getElem?_eq_getElem (by rw [hxl]; decide))
  simp only [List.getElem_toArray, List.getElem_cons_zero, List.getElem_cons_succ, k0, k1, k3, List.drop_zero, List.drop_succ_cons, List.take_succ_cons, List.take_zero] at f0 f1 f2 f3
  obtain ⟨n0, e0, _⟩ := DataW.trod_int Try.underlying65 f0
  obtain ⟨n1, e1, _⟩ := DataW.trod_int Try.underlying3 f1
  obtain ⟨n2, e2, _⟩ := DataW.trod_int Try.underlying3 f2
  simp only [List.cons.injEq, and_true] at e0 e1 e2
  subst e0 e1 e2
  rcases DataW.trod_slice Try.underlying34 f3 with ⟨e3, _⟩ | ⟨a, len, cap, _, _, _, _, e3, _⟩
  · simp only [List.cons.injEq, and_true] at e3
    exact ⟨⟨n0, n1, n2, none, 0, 0⟩, by rw [e3]; rfl⟩
  · simp only [List.cons.injEq, and_true] at e3
    exact ⟨⟨n0, n1, n2, some a, len, cap⟩, by rw [e3]; rfl⟩

set_option maxRecDepth 100000 in
set_option maxRecDepth 100000 in
theorem open_acts {v : Value} {d : DataW H} {ps : List MemPlace} {r : Reach} {b0 : Nat} (hval : Value.okWide Try.prog w r b0 56 v) (h : DataW.Trod enc Try.prog w base (fun _ => true) held 56 v d ps) :
    ∃ ao l cap, v = .slice ao (List.length l) cap ∧ Acts w ao l ∧ l.length ≤ maxLen := by
  obtain ⟨ao, len, cap, rfl⟩ := okWide_slice Try.underlying56 hval
  obtain ⟨fuel, hf⟩ := h
  have k4 : Try.prog.cellsOf 67 = 4 := by kernel_rfl
  rcases Deep.open_slice Try.underlying56 hf with ⟨e, _⟩ | ⟨a, len', cap', m, n, D, Pl, e, _, hl, hm, hmm, _, hx⟩
  · simp [Value.cells] at e
    obtain ⟨rfl, rfl, rfl⟩ := e
    exact ⟨none, [], 0, rfl, fun h => absurd h (by simp), by simp⟩
  · simp [Value.cells] at e
    obtain ⟨rfl, rfl, rfl⟩ := e
    simp only [if_true] at hmm
    subst hmm
    rw [k4] at hx
    have each : ∀ i, i < len → ∃ y : Ac, w.cells? base (a.add (i * 4)) 4 = some y.cs := fun i hi => by
      obtain ⟨cs', h1, h2⟩ := hx i (by omega)
      obtain ⟨y, rfl⟩ := open_act h2
      exact ⟨y, h1⟩
    obtain ⟨Y, hY⟩ := Deep.choose_lt (α := Ac) each
    refine ⟨some a, (List.range len).map Y, m, by simp, fun hpos => ?_, by simp; omega⟩
    simp only [List.length_map, List.length_range] at hpos
    have cell : ∀ i j u, i < len → (Y i).cs[j]? = some u → w.cell? (a.add (i * 4 + j)) = some u := fun i j u hi hu => by
      obtain ⟨_, hl4, hc⟩ := World.cells?_some (hY i hi)
      have hj : j < 4 := by have := (List.getElem?_eq_some_iff.1 hu).1; simpa [Ac.cs] using this
      have := hc j hj
      rw [Deep.add_add, hu] at this
      exact this
    obtain ⟨b, o, spot⟩ := a
    have hspot : spot = none := by
      have := cell 0 0 _ hpos rfl
      simpa [Addr.add] using World.cell?_spot this
    subst hspot
    refine ⟨b, o, rfl, fun j u hu => ?_⟩
    obtain ⟨q, r, rfl, hr⟩ : ∃ q r, j = q * 4 + r ∧ r < 4 := ⟨j / 4, j % 4, by omega, by omega⟩
    have hjl := (List.getElem?_eq_some_iff.1 hu).1
    rw [acs_len] at hjl
    simp only [List.length_map, List.length_range] at hjl
    have hq : q < len := by omega
    obtain ⟨g0, g1, g2, g3⟩ := acs_get (l := (List.range len).map Y) (i := q) (x := Y q) (by simp [hq])
    have key : (Y q).cs[r]? = some u := by
      match r, hr with
      | 0, _ => rw [Nat.add_zero, g0] at hu; exact hu
      | 1, _ => rw [g1] at hu; exact hu
      | 2, _ => rw [g2] at hu; exact hu
      | 3, _ => rw [g3] at hu; exact hu
    have := cell q r u hq key
    rw [add_plain] at this
    exact this
end

theorem own : ownKnob Try.prog.godebug = none := by kernel_rfl

set_option maxRecDepth 100000 in
theorem idle_lifted (os : Os) (started : os.Started) (H : Type) (enc : TypeId × Value → H) :
    ReturnsInHanded {} Try.checked os 8 .any (Rows.execIdleSpec.pre6 enc Try.prog Try.f8 Rows.execIdleRow.domain false) (Rows.execIdleSpec.post enc Try.prog Try.f8 false true false false) := by
  refine returnsInHanded_of_change (C := Try.checked) own started (by kernel_rfl) Try.func8
    (ChangeSpec.witness6 (enc := enc) (C := Try.checked) false ⟨#[], #[.slice none 0 0, .int .i64 0], []⟩ 8 (by kernel_rfl) (by kernel_rfl) (by kernel_rfl) (by kernel_rfl)) ?_
  intro W base args ds gs before hval hW _ _
  have hW' := hW
  obtain ⟨p, q, hA0, hV, rfl, hfz, hnd⟩ := hW
  have hA : DataW.TrodAll enc Try.prog W 0 (fun _ => true) true Try.f8.params.toList args.toList ds p := hA0
  rw [Try.params8] at hA hval
  obtain ⟨v0, vs0, d0, ds0, p0, q0, hargs, rfl, rfl, h0, r0⟩ := trodAll_cons hA
  obtain ⟨v1, vs1, d1, ds1, p1, q1, rfl, rfl, rfl, h1, r1⟩ := trodAll_cons r0
  obtain ⟨rfl, rfl, rfl⟩ := trodAll_nil r1
  obtain rfl : args = #[v0, v1] := by cases args; simp_all
  obtain ⟨rfl, rfl⟩ := trodVars_none hV
  obtain ⟨ao, l, cap, rfl, hl, hm⟩ := open_acts (hval 0 _ _ rfl rfl) h0
  obtain ⟨n1, rfl, rfl, rfl, _⟩ := open_int Try.underlying3 (hval 1 _ _ rfl rfl) h1
  refine (idle_c W ao cap l hl hm n1).mono fun e W' ⟨he, hf⟩ => ?_
  subst he
  exact ⟨_, rfl, law_post (tb := 4) hf hW' 6 (by kernel_rfl) rfl (by kernel_rfl) Try.underlying4 rfl rfl rfl⟩

theorem execIdle_holds : Rows.ExecIdleSaid :=
  OpenClaim.holds_of_wide 8 Try.f8 rfl rfl rfl rfl rfl rfl rfl ⟨rfl, rfl, rfl, rfl, rfl⟩ rfl rfl rfl rfl rfl (by kernel_rfl) Try.func8 (by kernel_rfl)
    (of_decide_eq_true (by kernel_rfl)) (by unfold Func.isWrapper; first | (rw [if_pos (by decide +kernel)]; kernel_rfl) | (rw [if_neg (by decide +kernel)]; exact ⟨rfl, rfl⟩))
    (fun os started H enc _ => idle_lifted os started H enc)

end Go.Proofs.Ytlbomnbpahmphaa
