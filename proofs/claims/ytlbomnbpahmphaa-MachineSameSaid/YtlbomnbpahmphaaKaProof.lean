/- THE LAW 'MachineSame': for every program, every room, fuel and rows of acts, it answers true and leaves what came in as it was. No condition. -/
import Derived.Test.YtlbomnbpahmphaaRows
import Derived.Test.YtlbomnbpahmphaaChecked
import Derived.Test.YtlbomnbpahmphaaKa34
namespace Go.Proofs.Ytlbomnbpahmphaa
open Go.ChangeShapes Go.WideShapes Go.ChangeAt Go.RowKit

theorem law_own : ownKnob Try.prog.godebug = none := by kernel_rfl

section
variable {H : Type} {enc : TypeId × Value → H} {W : World} {r : Reach} {b0 : Nat}

theorem light_arg {ts : List TypeId} {ds : List (DataW H)} (h : (DataW.weightsEach Try.prog ts ds).all (· ≤ reachBytes) = true) {j : Nat} {t : TypeId} {d : DataW H} (ht : ts[j]? = some t) (hd : ds[j]? = some d) : Light t d := fun n hn => by
  have := List.all_eq_true.1 h n (DataW.weights_mem_each ht hd n hn)
  simpa using this
set_option maxRecDepth 100000 in
theorem arg_prog {v : Value} {d : DataW H} {ps : List MemPlace} (hval : Value.okWide Try.prog W r b0 25 v) (h : DataW.Trod enc Try.prog W 0 (fun _ => true) true 25 v d ps) (hl : Light 25 d) : ∃ P, PrAt W.heap.size P W v := by
  refine open_prog h hl ?_
  unfold Value.okWide at hval
  rw [Try.underlying25] at hval
  obtain ⟨cs, rfl, _⟩ := hval
  exact ⟨cs, rfl, rfl⟩
set_option maxRecDepth 100000 in
theorem arg_acts {v : Value} {d : DataW H} {ps : List MemPlace} (hval : Value.okWide Try.prog W r b0 26 v) (h : DataW.Trod enc Try.prog W 0 (fun _ => true) true 26 v d ps) (hl : Light 26 d) :
    ∃ ao l cap, v = .slice ao (List.length l) cap ∧ AxAt W.heap.size W ao l := by
  obtain ⟨fuel, hf⟩ := h
  obtain ⟨ao, len, cap, rfl⟩ := okWide_slice Try.underlying26 hval
  obtain ⟨ao', l, cap', e, _, hx⟩ := open_axs Try.underlying26 Try.underlying36 ⟨rfl, rfl⟩ ⟨rfl, rfl⟩ ⟨rfl, rfl⟩ ⟨rfl, rfl⟩ Try.underlying3 (by kernel_rfl) (by kernel_rfl) hf hl
  simp [Value.cells] at e
  obtain ⟨rfl, rfl, rfl⟩ := e
  exact ⟨_, l, _, rfl, hx⟩
end

set_option maxRecDepth 100000 in
theorem same_lifted (os : Os) (started : os.Started) (H : Type) (enc : TypeId × Value → H) :
    ReturnsInHanded {} Try.checked os 4 .any (Rows.machineSameSpec.pre6 enc Try.prog Try.f4 Rows.machineSameRow.domain false) (Rows.machineSameSpec.post enc Try.prog Try.f4 false true false false) := by
  refine returnsInHanded_of_change_sized (C := Try.checked) law_own started (by kernel_rfl) Try.func4
    (ChangeSpec.witness6 (enc := enc) (C := Try.checked) false ⟨#[], #[.agg #[.slice none 0 0, .slice none 0 0], .int .i64 0, .int .i64 0, .slice none 0 0, .slice none 0 0], []⟩ 8 (by kernel_rfl) (by kernel_rfl) (by kernel_rfl) (by kernel_rfl)) ?_
  intro W base args ds gs before hval hW _ hsz0 _
  have hW' := hW
  have hsz : (DataW.weightsEach Try.prog (Try.f4.params.toList ++ Rows.machineSameSpec.plain.varTypes Try.prog) (ds ++ gs)).all (· ≤ reachBytes) = true := hsz0
  obtain ⟨p, q, hA0, hV, rfl, hfz, hnd⟩ := hW
  have hA : DataW.TrodAll enc Try.prog W 0 (fun _ => true) true Try.f4.params.toList args.toList ds p := hA0
  rw [Try.params4] at hA hval hsz
  obtain ⟨v0, vs0, d0, ds0, p0, q0, hargs, rfl, rfl, h0, r0⟩ := trodAll_cons hA
  obtain ⟨v1, vs1, d1, ds1, p1, q1, rfl, rfl, rfl, h1, r1⟩ := trodAll_cons r0
  obtain ⟨v2, vs2, d2, ds2, p2, q2, rfl, rfl, rfl, h2, r2⟩ := trodAll_cons r1
  obtain ⟨v3, vs3, d3, ds3, p3, q3, rfl, rfl, rfl, h3, r3⟩ := trodAll_cons r2
  obtain ⟨v4, vs4, d4, ds4, p4, q4, rfl, rfl, rfl, h4, r4⟩ := trodAll_cons r3
  obtain ⟨rfl, rfl, rfl⟩ := trodAll_nil r4
  obtain rfl : args = #[v0, v1, v2, v3, v4] := by cases args; simp_all
  obtain ⟨rfl, rfl⟩ := trodVars_none hV
  obtain ⟨P, hP⟩ := arg_prog (hval 0 _ _ rfl rfl) h0 (light_arg hsz (j := 0) rfl rfl)
  obtain ⟨n1, rfl, rfl, rfl, _⟩ := open_int Try.underlying3 (hval 1 _ _ rfl rfl) h1
  obtain ⟨n2, rfl, rfl, rfl, _⟩ := open_int Try.underlying3 (hval 2 _ _ rfl rfl) h2
  obtain ⟨ao, l, cap, rfl, hl⟩ := arg_acts (hval 3 _ _ rfl rfl) h3 (light_arg hsz (j := 3) rfl rfl)
  obtain ⟨bo, o, bcap, rfl, ho⟩ := arg_acts (hval 4 _ _ rfl rfl) h4 (light_arg hsz (j := 4) rfl rfl)
  refine (same_c W P v0 hP n1 n2 ao bo cap bcap l o hl ho).mono fun e W' ⟨he, hf⟩ => ?_
  subst he
  exact ⟨_, rfl, law_post (tb := 4) hf hW' 8 (by kernel_rfl) rfl (by kernel_rfl) Try.underlying4 rfl rfl rfl⟩

theorem machineSame_holds : Rows.MachineSameSaid :=
  OpenClaim.holds_of_wide 4 Try.f4 rfl rfl rfl rfl rfl rfl rfl ⟨rfl, rfl, rfl, rfl, rfl⟩ rfl rfl rfl rfl rfl (by kernel_rfl) Try.func4 (by kernel_rfl)
    (of_decide_eq_true (by kernel_rfl)) (by unfold Func.isWrapper; first | (rw [if_pos (by decide +kernel)]; kernel_rfl) | (rw [if_neg (by decide +kernel)]; exact ⟨rfl, rfl⟩))
    (fun os started H enc _ => same_lifted os started H enc)

end Go.Proofs.Ytlbomnbpahmphaa
