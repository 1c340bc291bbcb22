/- Walks: the laws of layer 21: two rows of events that are the same; whether all is more than is looked at; whether a trace ends ahead of its script. Conditions: what is read lies there. -/
import Derived.Test.YtlbomnbpahmphaaGreatN37
import Derived.Test.YtlbomnbpahmphaaGreatN18
namespace Go.Proofs.YtlbomnbpahmphaaGreat
open Go.RowKit

/-- A call that returns a bool; if it is false, all is little. -/
def OverOk (e : Ending) (m : Nat) (fuel words : Int) : Prop := ∃ b : Bool, e = .returned (.bool b) ∧ (b = false → m ≤ 40 ∧ fuel ≤ 3000 ∧ words ≤ 2000)
theorem OverOk.mk {e : Ending} {b : Bool} {m : Nat} {fuel words : Int} (h : e = .returned (.bool b)) (h2 : b = false → m ≤ 40 ∧ fuel ≤ 3000 ∧ words ≤ 2000) : OverOk e m fuel words := ⟨b, h, h2⟩

set_option maxRecDepth 100000 in
set_option maxHeartbeats 400000 in
theorem over21_c {base : Nat} {P : Pr} {w : World} {v : Value} (h : PrAt base P w v) (ao : Option Addr) (m ac : Nat) (fuel words : Int) :
 Calls Tryz.prog 26 #[v, .slice ao m ac, .int .i64 fuel, .int .i64 words] w fun e w' => OverOk e m fuel words ∧ Fr Non w w' := by
 obtain ⟨⟨fo, fc, co, cc, rfl, h1, h2⟩, h3⟩ := h
 have HH := Lib.hid (And.intro h1 h2)
 clear h1 h2 h3
 have h0f : (0 : Int) ≤ (P.funs.length : Int) := by omega
 have h0c : (0 : Int) ≤ (P.cos.length : Int) := by omega
 generalize hn : P.funs.length = n at *
 generalize hk : P.cos.length = k at *
 by_cases hf60 : (40 : Int) < n
 · have d0 : decide ((40 : Int) < n) = true := decide_eq_true hf60
   go_enter Tryz.func26, Tryz.ntmps26
   go_wp2_with fail
   go_ret
   exact ⟨OverOk.mk rfl (fun e => by cases e), by exact (by repeat (first | exact .refl _ _ | assumption | apply Fr.drewN | apply Fr.drew | apply Fr.drewl | apply Fr.drewNl | apply Fr.alloc))⟩
 have d0 : decide ((40 : Int) < n) = false := decide_eq_false hf60
 by_cases hc60 : (40 : Int) < k
 · have d1 : decide ((40 : Int) < k) = true := decide_eq_true hc60
   go_enter Tryz.func26, Tryz.ntmps26
   go_wp2_with fail
   go_ret
   exact ⟨OverOk.mk rfl (fun e => by cases e), by exact (by repeat (first | exact .refl _ _ | assumption | apply Fr.drewN | apply Fr.drew | apply Fr.drewl | apply Fr.drewNl | apply Fr.alloc))⟩
 have d1 : decide ((40 : Int) < k) = false := decide_eq_false hc60
 by_cases hm : (40 : Int) < m
 · have d2 : decide ((40 : Int) < m) = true := decide_eq_true hm
   go_enter Tryz.func26, Tryz.ntmps26
   go_wp2_with fail
   go_ret
   exact ⟨OverOk.mk rfl (fun e => by cases e), by exact (by repeat (first | exact .refl _ _ | assumption | apply Fr.drewN | apply Fr.drew | apply Fr.drewl | apply Fr.drewNl | apply Fr.alloc))⟩
 have d2 : decide ((40 : Int) < m) = false := decide_eq_false hm
 by_cases hfu : (3000 : Int) < fuel
 · have d3 : decide ((3000 : Int) < fuel) = true := decide_eq_true hfu
   go_enter Tryz.func26, Tryz.ntmps26
   go_wp2_with fail
   go_ret
   exact ⟨OverOk.mk rfl (fun e => by cases e), by exact (by repeat (first | exact .refl _ _ | assumption | apply Fr.drewN | apply Fr.drew | apply Fr.drewl | apply Fr.drewNl | apply Fr.alloc))⟩
 have d3 : decide ((3000 : Int) < fuel) = false := decide_eq_false hfu
 by_cases hwo : (2000 : Int) < words
 · have d4 : decide ((2000 : Int) < words) = true := decide_eq_true hwo
   go_enter Tryz.func26, Tryz.ntmps26
   go_wp2_with fail
   go_ret
   exact ⟨OverOk.mk rfl (fun e => by cases e), by exact (by repeat (first | exact .refl _ _ | assumption | apply Fr.drewN | apply Fr.drew | apply Fr.drewl | apply Fr.drewNl | apply Fr.alloc))⟩
 have d4 : decide ((2000 : Int) < words) = false := decide_eq_false hwo
 go_enter Tryz.func26, Tryz.ntmps26
 go_wp2_with fail
 have hr : Row (w.alloc (.cells #[.slice fo n fc, .slice co k cc] 25)) w.heap.size 25 [.slice fo n fc, .slice co k cc] := Row.new' rfl
 have hf : Fr Non w (w.alloc (.cells #[.slice fo n fc, .slice co k cc] 25)) := by exact (by repeat (first | exact .refl _ _ | assumption | apply Fr.drewN | apply Fr.drew | apply Fr.drewl | apply Fr.drewNl | apply Fr.alloc))
 generalize hg : w.heap.size = g at *
 generalize w.alloc (.cells #[.slice fo n fc, .slice co k cc] 25) = W at *
 have HR := Lib.hid (And.intro hr hf)
 clear hr hf
 go_loopw [9] (fun v9 wr => ∃ i : Nat, i ≤ n ∧ v9 = .int .i64 i ∧ Fr Non W wr) (fun v9 _ => n - (intOf v9).toNat)
 case atStart => exact ⟨0, by omega, rfl, Fr.refl _ _⟩
 case round =>
  obtain ⟨i, hi, rfl, hf⟩ := hrel
  obtain ⟨q0, q1, qz⟩ := row2 (hf.row HR.out.1 id)
  by_cases hlt : i < n
  · obtain ⟨x, hx⟩ : ∃ x, P.funs[i]? = some x := ⟨P.funs[i]'(by omega), List.getElem?_eq_getElem (by omega)⟩
    obtain ⟨b, o, io, ic, rfl, hc, _⟩ := HH.out.1 i x hx
    have e0 := (HR.out.2.trans hf).cell hc.2 id
    clear hc
    by_cases hbig : (3000 : Int) < x.length
    · have hd1 : decide ((3000 : Int) < x.length) = true := decide_eq_true hbig
      go_wp2_with fail
      go_ret
      exact ⟨OverOk.mk rfl (fun e => by first | (cases e; done) | omega), HR.out.2.trans (by exact (by repeat (first | exact .refl _ _ | assumption | apply Fr.drewN | apply Fr.drew | apply Fr.drewl | apply Fr.drewNl | apply Fr.alloc)))⟩
    · have hd1 : decide ((3000 : Int) < x.length) = false := decide_eq_false hbig
      go_wp2_with fail
      exact ⟨⟨i + 1, by omega, by simp, by exact (by repeat (first | exact .refl _ _ | assumption | apply Fr.drewN | apply Fr.drew | apply Fr.drewl | apply Fr.drewNl | apply Fr.alloc))⟩, by simp [intOf]; omega⟩
  · obtain rfl : i = n := by omega
    go_wp2_with fail
    go_ret
    exact ⟨OverOk.mk rfl (fun e => by first | (cases e; done) | omega), HR.out.2.trans (by exact (by repeat (first | exact .refl _ _ | assumption | apply Fr.drewN | apply Fr.drew | apply Fr.drewl | apply Fr.drewNl | apply Fr.alloc)))⟩


end Go.Proofs.YtlbomnbpahmphaaGreat
