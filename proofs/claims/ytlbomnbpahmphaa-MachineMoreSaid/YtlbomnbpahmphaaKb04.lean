/- Opening the arguments of the laws of layer 3. No condition. -/
import Derived.Test.YtlbomnbpahmphaaKa32
namespace Go.Proofs.Ytlbomnbpahmphaa
open Go.ChangeShapes Go.WideShapes Go.ChangeAt Go.RowKit

theorem law_own : ownKnob Try.prog.godebug = none := by kernel_rfl

section
variable {H : Type} {enc : TypeId × Value → H} {W : World} {r : Reach} {b0 : Nat}

theorem light_arg {ts : List TypeId} {ds : List (DataW H)} (h : (DataW.weightsEach Try.prog ts ds).all (· ≤ reachBytes) = true) {j : Nat} {t : TypeId} {d : DataW H} (ht : ts[j]? = some t) (hd : ds[j]? = some d) : Light t d := fun n hn => by
  have := List.all_eq_true.1 h n (DataW.weights_mem_each ht hd n hn)
  simpa using this
set_option maxRecDepth 100000 in
theorem arg_prog {v : Value} {d : DataW H} {ps : List MemPlace} (hval : Value.okWide Try.prog W r b0 25 v) (h : DataW.Trod enc Try.prog W 0 (fun _ => true) true 25 v d ps) (hl : Light 25 d) : ∃ P, PrAt W.heap.size P W v := by
  refine open_prog h hl ?_
  unfold Value.okWide at hval
  rw [Try.underlying25] at hval
  obtain ⟨cs, rfl, _⟩ := hval
  exact ⟨cs, rfl, rfl⟩
set_option maxRecDepth 100000 in
theorem arg_acts {v : Value} {d : DataW H} {ps : List MemPlace} (hval : Value.okWide Try.prog W r b0 26 v) (h : DataW.Trod enc Try.prog W 0 (fun _ => true) true 26 v d ps) (hl : Light 26 d) :
    ∃ ao l cap, v = .slice ao (List.length l) cap ∧ AxAt W.heap.size W ao l := by
  obtain ⟨fuel, hf⟩ := h
  obtain ⟨ao, len, cap, rfl⟩ := okWide_slice Try.underlying26 hval
  obtain ⟨ao', l, cap', e, _, hx⟩ := open_axs Try.underlying26 Try.underlying36 ⟨rfl, rfl⟩ ⟨rfl, rfl⟩ ⟨rfl, rfl⟩ ⟨rfl, rfl⟩ Try.underlying3 (by kernel_rfl) (by kernel_rfl) hf hl
  simp [Value.cells] at e
  obtain ⟨rfl, rfl, rfl⟩ := e
  exact ⟨_, l, _, rfl, hx⟩
end

end Go.Proofs.Ytlbomnbpahmphaa
