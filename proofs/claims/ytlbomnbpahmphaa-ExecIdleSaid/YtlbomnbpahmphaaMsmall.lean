/- Walks: small functions of words: 'Off', 'off', 'number', the memory's 'Live' and 'New', 'failed', 'checked'. No condition but, for 'Live', that the memory lies in blocks as 'MemL' says. -/
import Derived.Test.YtlbomnbpahmphaaMpiece
import Derived.Laws.ResultCell
namespace Go.Proofs.Ytlbomnbpahmphaa
open Go.RowKit

/-- The word number of an address so many words on; a number stays as it is. -/
def offn (p : Bool) (n k : Int) : Int := if p = true then wrap64 (n + k) else n

set_option maxHeartbeats 400000 in
theorem Off_num (w : World) (a n k : Int) : Calls Try.prog 52 #[.agg #[.bool false, .int .i64 a, .int .i64 n], .int .i64 k] w fun e w' =>
    e = .returned (.tuple #[.agg #[.bool false, .int .i64 0, .int .i64 0], .int .i64 11]) ∧ Fr Non w w' := by
  go_enter Try.func52, Try.ntmps52
  go_wp2
  exact bodyPost_ret (v := .tuple #[.agg #[.bool false, .int .i64 0, .int .i64 0], .int .i64 11]) (by simp [results, Try.results52, go_sem]) rfl ⟨rfl, (by repeat (first | exact Fr.refl _ _ | assumption | refine Fr.drewN ?_ _ | refine Fr.drew ?_ | refine Fr.drewl ?_ | refine Fr.drewNl ?_ _ | refine Fr.alloc ?_ _))⟩

set_option maxHeartbeats 400000 in
theorem Off_ptr (w : World) (a n k : Int) : Calls Try.prog 52 #[.agg #[.bool true, .int .i64 a, .int .i64 n], .int .i64 k] w fun e w' =>
    e = .returned (.tuple #[.agg #[.bool true, .int .i64 a, .int .i64 (wrap64 (n + k))], .int .i64 0]) ∧ Fr Non w w' := by
  go_enter Try.func52, Try.ntmps52
  go_wp2
  exact bodyPost_ret (v := .tuple #[.agg #[.bool true, .int .i64 a, .int .i64 (wrap64 (n + k))], .int .i64 0]) (by simp [results, Try.results52, go_sem]) rfl ⟨rfl, (by repeat (first | exact Fr.refl _ _ | assumption | refine Fr.drewN ?_ _ | refine Fr.drew ?_ | refine Fr.drewl ?_ | refine Fr.drewNl ?_ _ | refine Fr.alloc ?_ _))⟩

set_option maxHeartbeats 400000 in
theorem number_c (w : World) (n : Int) : Calls Try.prog 34 #[.int .i64 n] w fun e w' =>
    e = .returned (.agg #[.bool false, .int .i64 0, .int .i64 n]) ∧ Fr Non w w' := by
  go_enter Try.func34, Try.ntmps34
  go_wp2
  exact bodyPost_ret (v := .agg #[.bool false, .int .i64 0, .int .i64 n]) (by simp [results, Try.results34, go_sem]) rfl ⟨rfl, (by repeat (first | exact Fr.refl _ _ | assumption | refine Fr.drewN ?_ _ | refine Fr.drew ?_ | refine Fr.drewl ?_ | refine Fr.drewNl ?_ _ | refine Fr.alloc ?_ _))⟩

set_option maxHeartbeats 400000 in
theorem off_c (w : World) (p : Bool) (a n k : Int) : Calls Try.prog 33 #[.agg #[.bool p, .int .i64 a, .int .i64 n], .int .i64 k] w fun e w' =>
    e = .returned (.agg #[.bool p, .int .i64 a, .int .i64 (offn p n k)]) ∧ Fr Non w w' := by
  cases p with
  | false =>
    rw [show offn false n k = n from rfl]
    go_enter Try.func33, Try.ntmps33
    go_wp2_with fail
    refine (Off_num _ a n k).mono ?_
    rintro e1 w1 ⟨rfl, hf⟩
    obtain ⟨r1, r2⟩ := hf.new_row2 id id
    obtain ⟨b0, b1, b2, bz⟩ := row3 r1
    obtain ⟨d0, d1, d2, dz⟩ := row3 r2
    have l1 := r1.lt
    have l2 := r2.lt
    clear r1 r2
    go_wp2
    exact bodyPost_ret (v := .agg #[.bool false, .int .i64 a, .int .i64 n]) (by simp [results, Try.results33, go_sem, l1, l2, d0, d1, d2]) rfl ⟨rfl, (by repeat (first | exact Fr.refl _ _ | assumption | refine Fr.drewN ?_ _ | refine Fr.drew ?_ | refine Fr.drewl ?_ | refine Fr.drewNl ?_ _ | refine Fr.alloc ?_ _ | (refine Fr.setCell ?_ (Or.inr (by simp)) _) | refine Fr.trans ?_ (by assumption)))⟩
  | true =>
    rw [show offn true n k = wrap64 (n + k) from rfl]
    generalize hm : wrap64 (n + k) = m
    have HO := Lib.hid (hm ▸ fun w1 => Off_ptr w1 a n k)
    clear hm
    go_enter Try.func33, Try.ntmps33
    go_wp2_with fail
    refine (HO.out _).mono ?_
    rintro e1 w1 ⟨rfl, hf⟩
    obtain ⟨r1, r2⟩ := hf.new_row2 id id
    obtain ⟨b0, b1, b2, bz⟩ := row3 r1
    obtain ⟨d0, d1, d2, dz⟩ := row3 r2
    have l1 := r1.lt
    have l2 := r2.lt
    clear r1 r2
    go_wp2
    exact bodyPost_ret (v := .agg #[.bool true, .int .i64 a, .int .i64 m]) (by simp [results, Try.results33, go_sem, l1, l2, d0, d1, d2]) rfl ⟨rfl, (by repeat (first | exact Fr.refl _ _ | assumption | refine Fr.drewN ?_ _ | refine Fr.drew ?_ | refine Fr.drewl ?_ | refine Fr.drewNl ?_ _ | refine Fr.alloc ?_ _ | (refine Fr.setCell ?_ (Or.inr (by simp)) _) | refine Fr.trans ?_ (by assumption)))⟩

set_option maxHeartbeats 400000 in
theorem memLive_c {D : Nat → Prop} {w : World} {mb cap bb : Nat} {ao : Option Addr} {arr : List Value} {wb zb : Nat → Nat} {M : Mem} (h : MemL D w mb ao cap bb arr wb zb M) :
    Calls Try.prog 40 #[.pointer (some ⟨mb, 0, none⟩)] w fun e w' => e = .returned (.int .i64 (live M.blocks)) ∧ Fr Non w w' := by
  have c2 := h.c2
  go_enter Try.func40, Try.ntmps40
  go_wp2
  go_ret
  exact ⟨rfl, (by repeat (first | exact Fr.refl _ _ | assumption | refine Fr.drewN ?_ _ | refine Fr.drew ?_ | refine Fr.drewl ?_ | refine Fr.drewNl ?_ _ | refine Fr.alloc ?_ _))⟩

set_option maxHeartbeats 400000 in
theorem failed_c (w : World) (n : Int) : Calls Try.prog 31 #[.int .i64 n] w fun e w' =>
    ∃ b, e = .returned (.pointer (some ⟨b, 0, none⟩)) ∧ Row w' b 41 [.int .i64 (if n = 10 then 5 else 6), .int .i64 (if n = 10 then 0 else n)] ∧ w.heap.size ≤ b ∧ Fr Non w w' := by
  by_cases h : n = 10
  · subst h
    go_enter Try.func31, Try.ntmps31
    go_wp2
    go_ret
    exact ⟨w.heap.size, rfl, Row.new w _ _, Nat.le_refl _, (by repeat (first | exact Fr.refl _ _ | assumption | refine Fr.drewN ?_ _ | refine Fr.drew ?_ | refine Fr.drewl ?_ | refine Fr.drewNl ?_ _ | refine Fr.alloc ?_ _))⟩
  · rw [if_neg h, if_neg h]
    have hd : (n == 10) = false := by simpa using h
    go_enter Try.func31, Try.ntmps31
    go_wp2
    go_ret
    exact ⟨w.heap.size, rfl, Row.new w _ _, Nat.le_refl _, (by repeat (first | exact Fr.refl _ _ | assumption | refine Fr.drewN ?_ _ | refine Fr.drew ?_ | refine Fr.drewl ?_ | refine Fr.drewNl ?_ _ | refine Fr.alloc ?_ _))⟩

end Go.Proofs.Ytlbomnbpahmphaa
