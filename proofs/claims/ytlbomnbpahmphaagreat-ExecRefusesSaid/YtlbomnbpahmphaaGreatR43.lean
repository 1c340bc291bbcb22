/- Walks: the laws of layer 21: two rows of events that are the same; whether all is more than is looked at; whether a trace ends ahead of its script. Conditions: what is read lies there. -/
import Derived.Test.YtlbomnbpahmphaaGreatR36
import Derived.Test.YtlbomnbpahmphaaGreatR18
namespace Go.Proofs.YtlbomnbpahmphaaGreat
open Go.RowKit

set_option maxRecDepth 100000 in
set_option maxHeartbeats 400000 in
theorem same21_c (w : World) (ao bo : Option Addr) (ac bc : Nat) (l : List Ev) (ha : Evs w ao l) (hb : Evs w bo l) (hl : l.length ≤ 1000000000) :
 Calls Tryz.prog 29 #[.slice ao l.length ac, .slice bo l.length bc] w fun e w' => e = .returned (.bool true) ∧ Fr Non w w' := by
 have h0l : (0 : Int) ≤ (l.length : Int) := by omega
 have HH := Lib.hid (And.intro ha hb)
 clear ha hb
 go_enter Tryz.func29, Tryz.ntmps29
 go_wp2_with fail
 go_loopw [5] (fun v5 wr => ∃ i : Nat, i ≤ l.length ∧ v5 = .int .i64 i ∧ Fr Non w wr) (fun v5 _ => l.length - (intOf v5).toNat)
 case atStart => exact ⟨0, by omega, rfl, by exact (by repeat (first | exact .refl _ _ | assumption | apply Fr.drewN | apply Fr.drew | apply Fr.drewl | apply Fr.drewNl | apply Fr.alloc))⟩
 case round =>
  obtain ⟨i, hi, rfl, hf⟩ := hrel
  by_cases hlt : i < l.length
  · obtain ⟨x, hx⟩ : ∃ x, l[i]? = some x := ⟨l[i], List.getElem?_eq_getElem hlt⟩
    obtain ⟨sb, so, rfl, hac⟩ := HH.out.1 (by omega)
    obtain ⟨tb, tO, rfl, hbc⟩ := HH.out.2 (by omega)
    obtain ⟨g0, g1, g2, g3⟩ := evs_get' hx
    have e0 := hf.cell (hac _ _ g0) id
    have e1 := hf.cell (hac _ _ g1) id
    have e2 := hf.cell (hac _ _ g2) id
    have e3 := hf.cell (hac _ _ g3) id
    have t0 := hf.cell (hbc _ _ g0) id
    have t1 := hf.cell (hbc _ _ g1) id
    have t2 := hf.cell (hbc _ _ g2) id
    have t3 := hf.cell (hbc _ _ g3) id
    rw [← Nat.add_assoc] at e1 e2 e3 t1 t2 t3
    clear g0 g1 g2 g3 hac hbc hx
    have hi0 : (0 : Int) ≤ (i : Int) := by omega
    have hi1 : (i : Int) < (l.length : Int) := by omega
    go_wp2_with fail
    go_quiet (fail)
    go_wp2_with fail
    exact ⟨⟨i + 1, by omega, by simp, by exact (by repeat (first | exact .refl _ _ | assumption | apply Fr.drewN | apply Fr.drew | apply Fr.drewl | apply Fr.drewNl | apply Fr.alloc))⟩, by simp [intOf]; omega⟩
  · obtain rfl : i = l.length := by omega
    go_wp2_with fail
    go_ret
    exact ⟨rfl, by exact (by repeat (first | exact .refl _ _ | assumption | apply Fr.drewN | apply Fr.drew | apply Fr.drewl | apply Fr.drewNl | apply Fr.alloc))⟩

/-- A call that returns a bool; if it is false, all is little. -/
def OverOk (e : Ending) (m : Nat) (fuel words : Int) : Prop := ∃ b : Bool, e = .returned (.bool b) ∧ (b = false → m ≤ 40 ∧ fuel ≤ 3000 ∧ words ≤ 2000)
theorem OverOk.mk {e : Ending} {b : Bool} {m : Nat} {fuel words : Int} (h : e = .returned (.bool b)) (h2 : b = false → m ≤ 40 ∧ fuel ≤ 3000 ∧ words ≤ 2000) : OverOk e m fuel words := ⟨b, h, h2⟩

set_option maxRecDepth 100000 in
set_option maxHeartbeats 400000 in
theorem over21_c {base : Nat} {P : Pr} {w : World} {v : Value} (h : PrAt base P w v) (ao : Option Addr) (m ac : Nat) (fuel words : Int) :
 Calls Tryz.prog 26 #[v, .slice ao m ac, .int .i64 fuel, .int .i64 words] w fun e w' => OverOk e m fuel words ∧ Fr Non w w' := by
 obtain ⟨⟨fo, fc, co, cc, rfl, h1, h2⟩, h3⟩ := h
 have HH := Lib.hid (And.intro h1 h2)
 clear h1 h2 h3
 have h0f : (0 : Int) ≤ (P.funs.length : Int) := by omega
 have h0c : (0 : Int) ≤ (P.cos.length : Int) := by omega
 generalize hn : P.funs.length = n at *
 generalize hk : P.cos.length = k at *
 by_cases hf60 : (40 : Int) < n
 · have d0 : decide ((40 : Int) < n) = true := decide_eq_true hf60
   go_enter Tryz.func26, Tryz.ntmps26
   go_wp2_with fail
   go_ret
   exact ⟨OverOk.mk rfl (fun e => by cases e), by exact (by repeat (first | exact .refl _ _ | assumption | apply Fr.drewN | apply Fr.drew | apply Fr.drewl | apply Fr.drewNl | apply Fr.alloc))⟩
 have d0 : decide ((40 : Int) < n) = false := decide_eq_false hf60
 by_cases hc60 : (40 : Int) < k
 · have d1 : decide ((40 : Int) < k) = true := decide_eq_true hc60
   go_enter Tryz.func26, Tryz.ntmps26
   go_wp2_with fail
   go_ret
   exact ⟨OverOk.mk rfl (fun e => by cases e), by exact (by repeat (first | exact .refl _ _ | assumption | apply Fr.drewN | apply Fr.drew | apply Fr.drewl | apply Fr.drewNl | apply Fr.alloc))⟩
 have d1 : decide ((40 : Int) < k) = false := decide_eq_false hc60
 by_cases hm : (40 : Int) < m
 · have d2 : decide ((40 : Int) < m) = true := decide_eq_true hm
   go_enter Tryz.func26, Tryz.ntmps26
   go_wp2_with fail
   go_ret
   exact ⟨OverOk.mk rfl (fun e => by cases e), by exact (by repeat (first | exact .refl _ _ | assumption | apply Fr.drewN | apply Fr.drew | apply Fr.drewl | apply Fr.drewNl | apply Fr.alloc))⟩
 have d2 : decide ((40 : Int) < m) = false := decide_eq_false hm
 by_cases hfu : (3000 : Int) < fuel
 · have d3 : decide ((3000 : Int) < fuel) = true := decide_eq_true hfu
   go_enter Tryz.func26, Tryz.ntmps26
   go_wp2_with fail
   go_ret
   exact ⟨OverOk.mk rfl (fun e => by cases e), by exact (by repeat (first | exact .refl _ _ | assumption | apply Fr.drewN | apply Fr.drew | apply Fr.drewl | apply Fr.drewNl | apply Fr.alloc))⟩
 have d3 : decide ((3000 : Int) < fuel) = false := decide_eq_false hfu
 by_cases hwo : (2000 : Int) < words
 · have d4 : decide ((2000 : Int) < words) = true := decide_eq_true hwo
   go_enter Tryz.func26, Tryz.ntmps26
   go_wp2_with fail
   go_ret
   exact ⟨OverOk.mk rfl (fun e => by cases e), by exact (by repeat (first | exact .refl _ _ | assumption | apply Fr.drewN | apply Fr.drew | apply Fr.drewl | apply Fr.drewNl | apply Fr.alloc))⟩
 have d4 : decide ((2000 : Int) < words) = false := decide_eq_false hwo
 go_enter Tryz.func26, Tryz.ntmps26
 go_wp2_with fail
 have hr : Row (w.alloc (.cells #[.slice fo n fc, .slice co k cc] 25)) w.heap.size 25 [.slice fo n fc, .slice co k cc] := Row.new' rfl
 have hf : Fr Non w (w.alloc (.cells #[.slice fo n fc, .slice co k cc] 25)) := by exact (by repeat (first | exact .refl _ _ | assumption | apply Fr.drewN | apply Fr.drew | apply Fr.drewl | apply Fr.drewNl | apply Fr.alloc))
 generalize hg : w.heap.size = g at *
 generalize w.alloc (.cells #[.slice fo n fc, .slice co k cc] 25) = W at *
 have HR := Lib.hid (And.intro hr hf)
 clear hr hf
 go_loopw [9] (fun v9 wr => ∃ i : Nat, i ≤ n ∧ v9 = .int .i64 i ∧ Fr Non W wr) (fun v9 _ => n - (intOf v9).toNat)
 case atStart => exact ⟨0, by omega, rfl, Fr.refl _ _⟩
 case round =>
  obtain ⟨i, hi, rfl, hf⟩ := hrel
  obtain ⟨q0, q1, qz⟩ := row2 (hf.row HR.out.1 id)
  by_cases hlt : i < n
  · obtain ⟨x, hx⟩ : ∃ x, P.funs[i]? = some x := ⟨P.funs[i]'(by omega), List.getElem?_eq_getElem (by omega)⟩
    obtain ⟨b, o, io, ic, rfl, hc, _⟩ := HH.out.1 i x hx
    have e0 := (HR.out.2.trans hf).cell hc.2 id
    clear hc
    by_cases hbig : (3000 : Int) < x.length
    · have hd1 : decide ((3000 : Int) < x.length) = true := decide_eq_true hbig
      go_wp2_with fail
      go_ret
      exact ⟨OverOk.mk rfl (fun e => by first | (cases e; done) | omega), HR.out.2.trans (by exact (by repeat (first | exact .refl _ _ | assumption | apply Fr.drewN | apply Fr.drew | apply Fr.drewl | apply Fr.drewNl | apply Fr.alloc)))⟩
    · have hd1 : decide ((3000 : Int) < x.length) = false := decide_eq_false hbig
      go_wp2_with fail
      exact ⟨⟨i + 1, by omega, by simp, by exact (by repeat (first | exact .refl _ _ | assumption | apply Fr.drewN | apply Fr.drew | apply Fr.drewl | apply Fr.drewNl | apply Fr.alloc))⟩, by simp [intOf]; omega⟩
  · obtain rfl : i = n := by omega
    go_wp2_with fail
    go_ret
    exact ⟨OverOk.mk rfl (fun e => by first | (cases e; done) | omega), HR.out.2.trans (by exact (by repeat (first | exact .refl _ _ | assumption | apply Fr.drewN | apply Fr.drew | apply Fr.drewl | apply Fr.drewNl | apply Fr.alloc)))⟩


/-- Does a trace end ahead of its script's end? -/
def endsB (l : List Ev) : Bool := match l.getLast? with
 | none => false
 | some e => (e.kind == 10) || ((e.kind == 11) || ((e.kind == 12) || (e.kind == 13)))

set_option maxRecDepth 100000 in
set_option maxHeartbeats 400000 in
theorem ends21_c (w : World) (ao : Option Addr) (ac : Nat) (l : List Ev) (ha : Evs w ao l) (hl : l.length ≤ 1000000000) :
 Calls Tryz.prog 28 #[.slice ao l.length ac] w fun e w' => e = .returned (.bool (endsB l)) ∧ Fr Non w w' := by
 by_cases h0 : l.length = 0
 · obtain rfl : l = [] := List.eq_nil_of_length_eq_zero h0
   show Calls _ _ _ _ fun e w' => e = .returned (.bool false) ∧ _
   clear ha
   rw [h0]
   go_enter Tryz.func28, Tryz.ntmps28
   go_wp2_with fail
   go_ret
   exact ⟨rfl, by exact (by repeat (first | exact .refl _ _ | assumption | apply Fr.drewN | apply Fr.drew | apply Fr.drewl | apply Fr.drewNl | apply Fr.alloc))⟩
 · obtain ⟨x, hx⟩ : ∃ x, l[l.length - 1]? = some x := ⟨l[l.length - 1], List.getElem?_eq_getElem (by omega)⟩
   have hx2 : l.getLast? = some x := by rw [List.getLast?_eq_getElem?]; exact hx
   have hB : endsB l = ((x.kind == 10) || ((x.kind == 11) || ((x.kind == 12) || (x.kind == 13)))) := by unfold endsB; rw [hx2]
   rw [hB]
   obtain ⟨b, o, rfl, hc⟩ := ha (by omega)
   obtain ⟨g0, g1, g2, g3⟩ := evs_get' hx
   have e0 := hc _ _ g0
   obtain ⟨n, hn⟩ : ∃ n, l.length = n + 1 := ⟨l.length - 1, by omega⟩
   rw [hn, Nat.add_sub_cancel] at e0
   generalize l.length = N at *
   have hne : ((N : Int) == 0) = false := beq_false_of_ne (by omega)
   have hsub : wrap64 ((N : Int) - 1) = (n : Int) := by rw [IntWalk.wrap64_in _ (by omega)]; omega
   have h0n : (0 : Int) ≤ (n : Int) := by omega
   have hnn : (n : Int) < (N : Int) := by omega
   have hnn2 : n < N := by omega
   obtain ⟨xk, xt, xa, xn⟩ := x
   simp only at e0 ⊢
   clear hx hx2 hB hc g0 g1 g2 g3 hl h0 hn
   rcases (by omega : xk = 10 ∨ xk = 11 ∨ xk = 12 ∨ xk = 13 ∨ (xk ≠ 10 ∧ xk ≠ 11 ∧ xk ≠ 12 ∧ xk ≠ 13)) with rfl | rfl | rfl | rfl | ⟨n0, n1, n2, n3⟩
   · go_enter Tryz.func28, Tryz.ntmps28
     go_wp2_with fail
     go_ret
     exact ⟨rfl, by exact (by repeat (first | exact .refl _ _ | assumption | apply Fr.drewN | apply Fr.drew | apply Fr.drewl | apply Fr.drewNl | apply Fr.alloc))⟩
   · go_enter Tryz.func28, Tryz.ntmps28
     go_wp2_with fail
     go_ret
     exact ⟨rfl, by exact (by repeat (first | exact .refl _ _ | assumption | apply Fr.drewN | apply Fr.drew | apply Fr.drewl | apply Fr.drewNl | apply Fr.alloc))⟩
   · go_enter Tryz.func28, Tryz.ntmps28
     go_wp2_with fail
     go_ret
     exact ⟨rfl, by exact (by repeat (first | exact .refl _ _ | assumption | apply Fr.drewN | apply Fr.drew | apply Fr.drewl | apply Fr.drewNl | apply Fr.alloc))⟩
   · go_enter Tryz.func28, Tryz.ntmps28
     go_wp2_with fail
     go_ret
     exact ⟨rfl, by exact (by repeat (first | exact .refl _ _ | assumption | apply Fr.drewN | apply Fr.drew | apply Fr.drewl | apply Fr.drewNl | apply Fr.alloc))⟩
   · have d0 : (xk == 10) = false := beq_false_of_ne n0
     have d1 : (xk == 11) = false := beq_false_of_ne n1
     have d2 : (xk == 12) = false := beq_false_of_ne n2
     have d3 : (xk == 13) = false := beq_false_of_ne n3
     rw [d0, d1, d2, d3]
     go_enter Tryz.func28, Tryz.ntmps28
     go_wp2_with fail
     go_ret
     exact ⟨rfl, by exact (by repeat (first | exact .refl _ _ | assumption | apply Fr.drewN | apply Fr.drew | apply Fr.drewl | apply Fr.drewNl | apply Fr.alloc))⟩

end Go.Proofs.YtlbomnbpahmphaaGreat
