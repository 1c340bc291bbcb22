/- Opening the arguments of the laws of layer 21. No condition. -/
import Derived.Test.YtlbomnbpahmphaaGreatR38
import Derived.Test.YtlbomnbpahmphaaGreatR24
namespace Go.Proofs.YtlbomnbpahmphaaGreat
open Go.ChangeShapes Go.WideShapes Go.ChangeAt Go.RowKit

section
variable {H : Type} {enc : TypeId × Value → H} {W : World} {r : Reach} {b0 : Nat}

set_option maxRecDepth 100000 in
theorem okWide_cap {t e : TypeId} {a : Option Addr} {len cap : Nat} (ht : Tryz.prog.underlying t = some (.slice e)) (h : Value.okWide Tryz.prog W r b0 t (.slice a len cap)) : len ≤ cap := by
 simp only [Value.okWide, ht, Cell.okWide, Cell.ok] at h
 cases a with
 | some a => exact h.1
 | none =>
  cases len with
  | zero => exact Nat.zero_le _
  | succ n => exact h.elim

set_option maxRecDepth 100000 in
theorem arg_bools {v : Value} {d : DataW H} {ps : List MemPlace} (hval : Value.okWide Tryz.prog W r b0 64 v) (h : DataW.Trod enc Tryz.prog W 0 (fun _ => true) true 64 v d ps) (hl : Light 64 d) :
 ∃ ao l cap, v = .slice ao (List.length l) cap ∧ BoolsAt W.heap.size W ao l := by
 obtain ⟨fuel, hf⟩ := h
 obtain ⟨ao, len, cap, rfl⟩ := okWide_slice Tryz.underlying64 hval
 obtain ⟨ao', l, cap', e, _, hh⟩ := open_row (α := Bool) Tryz.underlying64 (k := 1) (by kernel_rfl) (by decide) (fun cs n => cs = [.bool n]) (fun f c y hy _ => by
  obtain ⟨n, e, _⟩ := DataW.trod_bool Tryz.underlying4 hy
  exact ⟨n, e⟩) hf hl
 simp [Value.cells] at e
 obtain ⟨rfl, rfl, rfl⟩ := e
 refine ⟨_, l, _, rfl, fun i n hn => ?_⟩
 obtain ⟨b, o, cs', e1, e2, hc⟩ := hh i n hn
 subst e2
 have := hc 0 _ rfl
 simp only [Nat.mul_one, Nat.add_zero] at this
 exact ⟨b, o, e1, this⟩
set_option maxRecDepth 100000 in
theorem arg_acts21 {v : Value} {d : DataW H} {ps : List MemPlace} (hval : Value.okWide Tryz.prog W r b0 65 v) (h : DataW.Trod enc Tryz.prog W 0 (fun _ => true) true 65 v d ps) (hl : Light 65 d) :
 ∃ ao l cap, v = .slice ao (List.length l) cap ∧ AxAt W.heap.size W ao l ∧ l.length ≤ cap := by
 obtain ⟨fuel, hf⟩ := h
 obtain ⟨ao, len, cap, rfl⟩ := okWide_slice Tryz.underlying65 hval
 have hcap := okWide_cap Tryz.underlying65 hval
 obtain ⟨ao', l, cap', e, _, hx⟩ := open_axs Tryz.underlying65 Tryz.underlying69 ⟨rfl, rfl⟩ ⟨rfl, rfl⟩ ⟨rfl, rfl⟩ ⟨rfl, rfl⟩ Tryz.underlying67 (by kernel_rfl) (by kernel_rfl) hf hl
 simp [Value.cells] at e
 obtain ⟨rfl, rfl, rfl⟩ := e
 exact ⟨_, l, _, rfl, hx, hcap⟩
end

end Go.Proofs.YtlbomnbpahmphaaGreat
