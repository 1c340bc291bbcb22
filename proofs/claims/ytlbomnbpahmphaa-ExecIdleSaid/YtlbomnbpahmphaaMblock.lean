/- Walks: the memory's 'block' and 'piece': which allocation an address leads to, or what is wrong. Condition: the memory lies in blocks as 'MemL' says. -/
import Derived.Test.YtlbomnbpahmphaaMspec
namespace Go.Proofs.Ytlbomnbpahmphaa
open Go.RowKit

section
variable {D : Nat → Prop} {w : World} {mb cap bb : Nat} {ao : Option Addr} {arr : List Value} {wb zb : Nat → Nat} {M : Mem}

theorem MemL.c0 (h : MemL D w mb ao cap bb arr wb zb M) : w.cell? ⟨mb, 0, none⟩ = some (.int .i64 M.room) := h.head.cell rfl
theorem MemL.c1 (h : MemL D w mb ao cap bb arr wb zb M) : w.cell? ⟨mb, 1, none⟩ = some (.int .i64 (used M.blocks)) := h.head.cell rfl
theorem MemL.c2 (h : MemL D w mb ao cap bb arr wb zb M) : w.cell? ⟨mb, 2, none⟩ = some (.int .i64 (live M.blocks)) := h.head.cell rfl
theorem MemL.c3 (h : MemL D w mb ao cap bb arr wb zb M) : w.cell? ⟨mb, 3, none⟩ = some (.slice ao M.blocks.length cap) := h.head.cell rfl

/-- An address that leads to a block: the row is there. -/
theorem MemL.some (h : MemL D w mb ao cap bb arr wb zb M) {a : Int} (h1 : 1 ≤ a) (h2 : a ≤ (M.blocks.length : Int)) :
    ao = Option.some ⟨bb, 0, none⟩ ∧ Row w bb 125 arr ∧ arr.length = cap * 3 ∧ M.blocks.length ≤ cap ∧ D bb ∧ M.blocks[(a - 1).toNat]? = Option.some (M.blk a) ∧ (M.blk a).at w D arr wb zb (a - 1).toNat := by
  have hl : (a - 1).toNat < M.blocks.length := by omega
  have hb : M.blocks[(a - 1).toNat]? = Option.some (M.blk a) := by unfold Mem.blk; rw [List.getD, List.getElem?_eq_getElem hl]; rfl
  rcases h.row with ⟨_, _, h3⟩ | ⟨h3, h4, h5, h6, _, h8⟩
  · rw [h3] at hl; simp at hl
  · exact ⟨h3, h4, h5, h6, h8, hb, h.blk _ _ hb⟩

theorem Mem.errb_zero {p : Wd} (h : M.errb p = 0) : p.p = true ∧ 1 ≤ p.a ∧ p.a ≤ (M.blocks.length : Int) ∧ (M.blk p.a).freed = false := by
  unfold Mem.errb at h
  split at h; · omega
  split at h; · omega
  split at h; · omega
  rename_i h1 h2 h3
  exact ⟨by simpa using h1, by omega, by omega, by simpa using h3⟩
theorem Mem.errp_zero {p : Wd} {n : Int} (h : M.errp p n = 0) : M.errb p = 0 ∧ 0 ≤ p.n ∧ n ≤ ((M.blk p.a).words.length : Int) ∧ p.n ≤ ((M.blk p.a).words.length : Int) - n := by
  unfold Mem.errp at h
  split at h
  · split at h
    · omega
    · rename_i h1 h2; exact ⟨h1, by omega, by omega, by omega⟩
  · contradiction

set_option maxHeartbeats 400000 in
theorem block_kind (a n : Int) : Calls Try.prog 70 #[.pointer (Option.some ⟨mb, 0, none⟩), .agg #[.bool false, .int .i64 a, .int .i64 n]] w fun e w' =>
      e = .returned (.tuple #[.pointer none, .int .i64 11]) ∧ Fr Non w w' := by
  go_enter Try.func70, Try.ntmps70
  go_wp2
  go_ret2
  exact ⟨rfl, (by repeat (first | exact Fr.refl _ _ | assumption | refine Fr.drewN ?_ _ | refine Fr.drew ?_ | refine Fr.drewl ?_ | refine Fr.drewNl ?_ _ | refine Fr.alloc ?_ _))⟩

set_option maxHeartbeats 400000 in
theorem block_low (h : MemL D w mb ao cap bb arr wb zb M) (a n : Int) (ha : a < 1) :
    Calls Try.prog 70 #[.pointer (Option.some ⟨mb, 0, none⟩), .agg #[.bool true, .int .i64 a, .int .i64 n]] w fun e w' =>
      e = .returned (.tuple #[.pointer none, .int .i64 13]) ∧ Fr Non w w' := by
  have hd : decide (a < 1) = true := by simpa using ha
  have c3 := h.c3
  clear h
  go_enter Try.func70, Try.ntmps70
  go_wp2
  go_quiet (fail)
  go_wp2
  go_ret2
  exact ⟨rfl, (by repeat (first | exact Fr.refl _ _ | assumption | refine Fr.drewN ?_ _ | refine Fr.drew ?_ | refine Fr.drewl ?_ | refine Fr.drewNl ?_ _ | refine Fr.alloc ?_ _))⟩

set_option maxHeartbeats 400000 in
theorem block_high (h : MemL D w mb ao cap bb arr wb zb M) (a n : Int) (ha : 1 ≤ a) (hh : (M.blocks.length : Int) < a) :
    Calls Try.prog 70 #[.pointer (Option.some ⟨mb, 0, none⟩), .agg #[.bool true, .int .i64 a, .int .i64 n]] w fun e w' =>
      e = .returned (.tuple #[.pointer none, .int .i64 13]) ∧ Fr Non w w' := by
  have hd : decide (a < 1) = false := by simpa using ha
  have hmb := h.head.lt
  have c3 := h.c3
  clear h
  go_enter Try.func70, Try.ntmps70
  go_wp2
  go_quiet (fail)
  go_wp2
  go_ret2
  exact ⟨rfl, (by repeat (first | exact Fr.refl _ _ | assumption | refine Fr.drewN ?_ _ | refine Fr.drew ?_ | refine Fr.drewl ?_ | refine Fr.drewNl ?_ _ | refine Fr.alloc ?_ _))⟩

set_option maxHeartbeats 400000 in
theorem block_in (h : MemL D w mb ao cap bb arr wb zb M) (a n : Int) (ha : 1 ≤ a) (hh : a ≤ (M.blocks.length : Int)) :
    Calls Try.prog 70 #[.pointer (Option.some ⟨mb, 0, none⟩), .agg #[.bool true, .int .i64 a, .int .i64 n]] w fun e w' =>
      e = .returned (.tuple (if (M.blk a).freed = true then #[.pointer none, .int .i64 12] else #[.pointer (Option.some ⟨bb, (a - 1).toNat * 3, none⟩), .int .i64 0])) ∧ Fr Non w w' := by
  obtain ⟨k, rfl⟩ : ∃ k : Nat, a = (k : Int) + 1 := ⟨(a - 1).toNat, by omega⟩
  rw [show ((k : Int) + 1 - 1).toNat = k by omega]
  have hd : decide ((k : Int) + 1 < 1) = false := decide_eq_false (by omega)
  have hwr : IntKind.i64.wrap (k : Int) = (k : Int) := by
    refine IntWalk.i64_in _ ?_
    rcases h.row with ⟨_, _, h3⟩ | ⟨_, _, _, h6, h7, _⟩
    · rw [h3] at hh; simp at hh; omega
    · unfold maxLen at h7; omega
  obtain ⟨rfl, hr, _, hcap, _, hb, hat⟩ := h.some ha hh
  rw [show ((k : Int) + 1 - 1).toNat = k by omega] at hat
  have hd2 : decide ((M.blocks.length : Int) < (k : Int) + 1) = false := by simpa using hh
  have hmb := h.head.lt
  have hbb := hr.lt
  have c3 := h.c3
  have i0 : (0 : Int) ≤ (k : Int) := by omega
  have i1 : (k : Int) < (M.blocks.length : Int) := by omega
  clear h hb
  generalize M.blk ((k : Int) + 1) = b at *
  cases hf : b.freed with
  | true =>
    rw [Blk.at, if_pos hf] at hat
    have f2 := hr.cell hat.2.2
    clear hat hr hf hcap
    go_enter Try.func70, Try.ntmps70
    go_wp2
    go_quiet (fail)
    go_wp2
    go_quiet (fail)
    clear hwr
    go_wp2
    go_ret2
    exact ⟨rfl, (by repeat (first | exact Fr.refl _ _ | assumption | refine Fr.drewN ?_ _ | refine Fr.drew ?_ | refine Fr.drewl ?_ | refine Fr.drewNl ?_ _ | refine Fr.alloc ?_ _))⟩
  | false =>
    rw [Blk.at, if_neg (by simp [hf])] at hat
    have f2 := hr.cell hat.2.2.1
    clear hat hr hf hcap
    go_enter Try.func70, Try.ntmps70
    go_wp2
    go_quiet (fail)
    go_wp2
    go_quiet (fail)
    clear hwr
    go_wp2
    go_ret2
    exact ⟨rfl, (by repeat (first | exact Fr.refl _ _ | assumption | refine Fr.drewN ?_ _ | refine Fr.drew ?_ | refine Fr.drewl ?_ | refine Fr.drewNl ?_ _ | refine Fr.alloc ?_ _))⟩

/-- What 'block' says of whatever address. -/
theorem block_bad (h : MemL D w mb ao cap bb arr wb zb M) (p : Bool) (a n : Int) (he : M.errb ⟨p, a, n⟩ ≠ 0) :
    Calls Try.prog 70 #[.pointer (Option.some ⟨mb, 0, none⟩), .agg #[.bool p, .int .i64 a, .int .i64 n]] w fun e w' =>
      e = .returned (.tuple #[.pointer none, .int .i64 (M.errb ⟨p, a, n⟩)]) ∧ Fr Non w w' := by
  cases p with
  | false => exact block_kind a n
  | true =>
    by_cases h1 : a < 1
    · rw [show M.errb ⟨true, a, n⟩ = 13 by simp [Mem.errb, h1]]
      exact block_low h a n h1
    · by_cases h2 : (M.blocks.length : Int) < a
      · rw [show M.errb ⟨true, a, n⟩ = 13 by simp [Mem.errb, h2]]
        exact block_high h a n (by omega) h2
      · have := block_in h a n (by omega) (by omega)
        have e : M.errb ⟨true, a, n⟩ = if (M.blk a).freed = true then 12 else 0 := by simp [Mem.errb, h1, h2]
        rw [e] at he ⊢
        split at he
        · rename_i hf
          rw [if_pos hf] at this
          rw [if_pos hf]
          exact this
        · exact absurd rfl he
theorem block_good (h : MemL D w mb ao cap bb arr wb zb M) (p : Bool) (a n : Int) (he : M.errb ⟨p, a, n⟩ = 0) :
    Calls Try.prog 70 #[.pointer (Option.some ⟨mb, 0, none⟩), .agg #[.bool p, .int .i64 a, .int .i64 n]] w fun e w' =>
      e = .returned (.tuple #[.pointer (Option.some ⟨bb, (a - 1).toNat * 3, none⟩), .int .i64 0]) ∧ Fr Non w w' := by
  obtain ⟨h1, h2, h3, h4⟩ := Mem.errb_zero he
  simp only at h1 h2 h3 h4
  subst h1
  have := block_in h a n h2 h3
  rw [if_neg (by simp [h4])] at this
  exact this
end

end Go.Proofs.Ytlbomnbpahmphaa
