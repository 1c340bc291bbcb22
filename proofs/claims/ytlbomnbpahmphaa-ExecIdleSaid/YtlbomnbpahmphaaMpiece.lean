/- Walks: the memory's 'piece': an address's allocation, if it has so many words from there on. Condition: the memory lies in blocks as 'MemL' says. -/
import Derived.Test.YtlbomnbpahmphaaMblock
namespace Go.Proofs.Ytlbomnbpahmphaa
open Go.RowKit

section
variable {D : Nat → Prop} {w : World} {mb cap bb : Nat} {ao : Option Addr} {arr : List Value} {wb zb : Nat → Nat} {M : Mem}

set_option maxHeartbeats 400000 in
theorem piece_bad0 (h : MemL D w mb ao cap bb arr wb zb M) (p : Bool) (a n m : Int) (he : M.errb ⟨p, a, n⟩ ≠ 0) :
    Calls Try.prog 51 #[.pointer (Option.some ⟨mb, 0, none⟩), .agg #[.bool p, .int .i64 a, .int .i64 n], .int .i64 m] w fun e w' =>
      e = .returned (.tuple #[.pointer none, .int .i64 (M.errb ⟨p, a, n⟩)]) ∧ Fr Non w w' := by
  have hc := fun w1 (h1 : MemL D w1 mb ao cap bb arr wb zb M) => block_bad h1 p a n he
  have hd : (M.errb ⟨p, a, n⟩ == 0) = false := by simpa using he
  generalize M.errb ⟨p, a, n⟩ = e at *
  have HC := Lib.hid hc
  clear hc
  go_enter Try.func51, Try.ntmps51
  go_wp2_with fail
  refine (HC.out _ (h.fr (by exact (by repeat (first | exact Fr.refl _ _ | assumption | refine Fr.drewN ?_ _ | refine Fr.drew ?_ | refine Fr.drewl ?_ | refine Fr.drewNl ?_ _ | refine Fr.alloc ?_ _))) (fun _ _ => id))).mono ?_
  rintro e1 w1 ⟨rfl, hf⟩
  go_wp2
  go_quiet (fail)
  go_wp2
  go_ret2
  exact ⟨rfl, ((Fr.refl _ _).alloc _).trans hf |>.drewN _⟩

/-- What a good address leads to, in cells. -/
theorem MemL.good (h : MemL D w mb ao cap bb arr wb zb M) {p : Bool} {a n : Int} (he : M.errb ⟨p, a, n⟩ = 0) :
    ∃ k : Nat, a = (k : Int) + 1 ∧ p = true ∧ k < M.blocks.length ∧ M.blocks[k]? = Option.some (M.blk a) ∧ Row w bb 125 arr ∧ (M.blk a).ok ∧
      arr[k * 3]? = Option.some (.slice (Option.some ⟨wb k, 0, none⟩) (M.blk a).words.length (M.blk a).words.length) ∧ arr[k * 3 + 1]? = Option.some (.slice (Option.some ⟨zb k, 0, none⟩) (M.blk a).words.length (M.blk a).words.length) ∧
      arr[k * 3 + 2]? = Option.some (.bool false) ∧ Row w (wb k) 38 (flat (M.blk a).words) ∧ Row w (zb k) 4 ((M.blk a).set.map Value.bool) ∧ D (wb k) ∧ D (zb k) ∧ D bb ∧ (M.blk a).freed = false ∧ (M.blk a).words.length ≤ 1048576 := by
  obtain ⟨h1, h2, h3, h4⟩ := Mem.errb_zero he
  simp only at h1 h2 h3 h4
  obtain ⟨k, rfl⟩ : ∃ k : Nat, a = (k : Int) + 1 := ⟨(a - 1).toNat, by omega⟩
  obtain ⟨_, hr, _, _, hD, hb, hat⟩ := h.some h2 h3
  rw [show ((k : Int) + 1 - 1).toNat = k by omega] at hat hb
  unfold Blk.at at hat
  rw [if_neg (by simp [h4])] at hat
  obtain ⟨g1, g2, g3, g4, g5, g6, g7⟩ := hat
  have hmem : M.blk ((k : Int) + 1) ∈ M.blocks := List.mem_of_getElem? hb
  refine ⟨k, rfl, h1, by omega, hb, hr, h.ok.blk _ hmem, g1, g2, g3, g4, g5, g6, g7, hD, h4, ?_⟩
  have hu := h.ok.used
  have hro := h.ok.room
  have : (M.blk ((k : Int) + 1)).words.length ≤ used M.blocks := used_mem hmem
  omega

set_option maxHeartbeats 400000 in
theorem piece_in (h : MemL D w mb ao cap bb arr wb zb M) (p : Bool) (a n m : Int) (he : M.errb ⟨p, a, n⟩ = 0) (hm : 0 ≤ m) :
    Calls Try.prog 51 #[.pointer (Option.some ⟨mb, 0, none⟩), .agg #[.bool p, .int .i64 a, .int .i64 n], .int .i64 m] w fun e w' =>
      e = .returned (.tuple (if M.errp ⟨p, a, n⟩ m = 0 then #[.pointer (Option.some ⟨bb, (a - 1).toNat * 3, none⟩), .int .i64 0] else #[.pointer none, .int .i64 13])) ∧ Fr Non w w' := by
  have hep : M.errp ⟨p, a, n⟩ m = if n < 0 ∨ ((M.blk a).words.length : Int) < m ∨ ((M.blk a).words.length : Int) - m < n then 13 else 0 := by unfold Mem.errp; rw [if_pos he]
  have HC := Lib.hid fun w1 (h1 : MemL D w1 mb ao cap bb arr wb zb M) => block_good h1 p a n he
  obtain ⟨k, rfl, rfl, hk, _, hr, _, g1, _, _, _, _, hw, hz, hD, _, hlen⟩ := h.good he
  rw [show ((k : Int) + 1 - 1).toNat = k by omega] at HC ⊢
  have f1 := hr.cell g1
  rw [hep]
  clear hep he hr g1
  generalize (M.blk ((k : Int) + 1)).words.length = L at *
  have fb : ∀ w1, Fr Non (w.alloc (.cells #[.bool true, .int .i64 ((k : Int) + 1), .int .i64 n] 38)) w1 → w1.cell? ⟨bb, k * 3, none⟩ = Option.some (.slice (Option.some ⟨wb k, 0, none⟩) L L) := fun w1 hf =>
    (Fr.trans (by repeat (first | exact Fr.refl _ _ | assumption | refine Fr.drewN ?_ _ | refine Fr.drew ?_ | refine Fr.drewl ?_ | refine Fr.drewNl ?_ _ | refine Fr.alloc ?_ _)) hf).cell f1 id
  have HF := Lib.hid fb
  clear fb f1
  by_cases h1 : n < 0
  · have d1 : decide (n < 0) = true := decide_eq_true h1
    rw [if_pos (Or.inl h1)]
    simp only [show ¬ ((13 : Int) = 0) by omega, if_false]
    go_enter Try.func51, Try.ntmps51
    go_wp2_with fail
    refine (HC.out _ (h.fr (by exact (by repeat (first | exact Fr.refl _ _ | assumption | refine Fr.drewN ?_ _ | refine Fr.drew ?_ | refine Fr.drewl ?_ | refine Fr.drewNl ?_ _ | refine Fr.alloc ?_ _))) (fun _ _ => id))).mono ?_
    rintro e1 w1 ⟨rfl, hf⟩
    have b2 := hf.new_cell (by simp [Non]) (o := 2) rfl
    have f1 := HF.out w1 hf
    go_wp2
    go_quiet (fail)
    go_wp2
    go_ret2
    exact ⟨rfl, ((Fr.refl _ _).alloc _).trans hf |>.drewN _⟩
  · have d1 : decide (n < 0) = false := decide_eq_false h1
    by_cases h2 : (L : Int) < m
    · have d2 : decide ((L : Int) < m) = true := decide_eq_true h2
      rw [if_pos (Or.inr (Or.inl h2))]
      simp only [show ¬ ((13 : Int) = 0) by omega, if_false]
      go_enter Try.func51, Try.ntmps51
      go_wp2_with fail
      refine (HC.out _ (h.fr (by exact (by repeat (first | exact Fr.refl _ _ | assumption | refine Fr.drewN ?_ _ | refine Fr.drew ?_ | refine Fr.drewl ?_ | refine Fr.drewNl ?_ _ | refine Fr.alloc ?_ _))) (fun _ _ => id))).mono ?_
      rintro e1 w1 ⟨rfl, hf⟩
      have b2 := hf.new_cell (by simp [Non]) (o := 2) rfl
      have f1 := HF.out w1 hf
      go_wp2
      go_quiet (fail)
      go_wp2
      go_ret2
      exact ⟨rfl, ((Fr.refl _ _).alloc _).trans hf |>.drewN _⟩
    · have d2 : decide ((L : Int) < m) = false := decide_eq_false h2
      have hwr : IntKind.i64.wrap ((L : Int) - m) = (L : Int) - m := IntWalk.i64_in _ (by omega)
      by_cases h3 : (L : Int) - m < n
      · have d3 : decide ((L : Int) - m < n) = true := decide_eq_true h3
        rw [if_pos (Or.inr (Or.inr h3))]
        simp only [show ¬ ((13 : Int) = 0) by omega, if_false]
        go_enter Try.func51, Try.ntmps51
        go_wp2_with fail
        refine (HC.out _ (h.fr (by exact (by repeat (first | exact Fr.refl _ _ | assumption | refine Fr.drewN ?_ _ | refine Fr.drew ?_ | refine Fr.drewl ?_ | refine Fr.drewNl ?_ _ | refine Fr.alloc ?_ _))) (fun _ _ => id))).mono ?_
        rintro e1 w1 ⟨rfl, hf⟩
        have b2 := hf.new_cell (by simp [Non]) (o := 2) rfl
        have f1 := HF.out w1 hf
        go_wp2
        go_quiet (fail)
        clear hwr
        go_wp2
        go_ret2
        exact ⟨rfl, ((Fr.refl _ _).alloc _).trans hf |>.drewN _⟩
      · have d3 : decide ((L : Int) - m < n) = false := decide_eq_false h3
        have hn : ¬ (n < 0 ∨ (L : Int) < m ∨ (L : Int) - m < n) := by rintro (h | h | h); exact h1 h; exact h2 h; exact h3 h
        simp only [if_neg hn, if_true]
        go_enter Try.func51, Try.ntmps51
        go_wp2_with fail
        refine (HC.out _ (h.fr (by exact (by repeat (first | exact Fr.refl _ _ | assumption | refine Fr.drewN ?_ _ | refine Fr.drew ?_ | refine Fr.drewl ?_ | refine Fr.drewNl ?_ _ | refine Fr.alloc ?_ _))) (fun _ _ => id))).mono ?_
        rintro e1 w1 ⟨rfl, hf⟩
        have b2 := hf.new_cell (by simp [Non]) (o := 2) rfl
        have f1 := HF.out w1 hf
        go_wp2
        go_quiet (fail)
        clear hwr
        go_wp2
        go_ret2
        exact ⟨rfl, ((Fr.refl _ _).alloc _).trans hf |>.drewN _⟩

theorem piece_bad (h : MemL D w mb ao cap bb arr wb zb M) (p : Bool) (a n m : Int) (hm : 0 ≤ m) (he : M.errp ⟨p, a, n⟩ m ≠ 0) :
    Calls Try.prog 51 #[.pointer (Option.some ⟨mb, 0, none⟩), .agg #[.bool p, .int .i64 a, .int .i64 n], .int .i64 m] w fun e w' =>
      e = .returned (.tuple #[.pointer none, .int .i64 (M.errp ⟨p, a, n⟩ m)]) ∧ Fr Non w w' := by
  by_cases h0 : M.errb ⟨p, a, n⟩ = 0
  · have := piece_in h p a n m h0 hm
    rw [if_neg he] at this
    have e : M.errp ⟨p, a, n⟩ m = 13 := by
      unfold Mem.errp at *
      rw [if_pos h0] at *
      split at he
      · rw [if_pos (by assumption)]
      · exact absurd rfl he
    rw [e]
    exact this
  · have e : M.errp ⟨p, a, n⟩ m = M.errb ⟨p, a, n⟩ := by unfold Mem.errp; rw [if_neg h0]
    rw [e]
    exact piece_bad0 h p a n m h0
theorem piece_good (h : MemL D w mb ao cap bb arr wb zb M) (p : Bool) (a n m : Int) (hm : 0 ≤ m) (he : M.errp ⟨p, a, n⟩ m = 0) :
    Calls Try.prog 51 #[.pointer (Option.some ⟨mb, 0, none⟩), .agg #[.bool p, .int .i64 a, .int .i64 n], .int .i64 m] w fun e w' =>
      e = .returned (.tuple #[.pointer (Option.some ⟨bb, (a - 1).toNat * 3, none⟩), .int .i64 0]) ∧ Fr Non w w' := by
  have := piece_in h p a n m (Mem.errp_zero he).1 hm
  rw [if_pos he] at this
  exact this
end

end Go.Proofs.Ytlbomnbpahmphaa
