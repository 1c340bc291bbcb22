/- Walks: the memory's 'Load'. Condition: the memory lies in blocks as 'MemL' says. -/
import Derived.Test.YtlbomnbpahmphaaMsmall
namespace Go.Proofs.Ytlbomnbpahmphaa
open Go.RowKit

def Mem.load (M : Mem) (p : Wd) : Wd × Int :=
  if M.errp p 1 ≠ 0 then (Wd.zero, M.errp p 1)
  else if (M.blk p.a).set.getD p.n.toNat false = false then (Wd.zero, 14)
  else ((M.blk p.a).words.getD p.n.toNat Wd.zero, 0)

section
variable {D : Nat → Prop} {w : World} {mb cap bb : Nat} {ao : Option Addr} {arr : List Value} {wb zb : Nat → Nat} {M : Mem}

set_option maxHeartbeats 400000 in
theorem load_bad (h : MemL D w mb ao cap bb arr wb zb M) (p : Bool) (a n : Int) (he : M.errp ⟨p, a, n⟩ 1 ≠ 0) :
    Calls Try.prog 58 #[.pointer (Option.some ⟨mb, 0, none⟩), .agg #[.bool p, .int .i64 a, .int .i64 n]] w fun e w' =>
      e = .returned (.tuple #[.agg #[.bool false, .int .i64 0, .int .i64 0], .int .i64 (M.errp ⟨p, a, n⟩ 1)]) ∧ Fr Non w w' := by
  have hd : (M.errp ⟨p, a, n⟩ 1 != 0) = true := by simpa using he
  have HC := Lib.hid fun w1 (h1 : MemL D w1 mb ao cap bb arr wb zb M) => piece_bad h1 p a n 1 (by omega) he
  generalize M.errp ⟨p, a, n⟩ 1 = er at *
  go_enter Try.func58, Try.ntmps58
  go_wp2_with fail
  refine (HC.out _ (h.fr (by exact (by repeat (first | exact Fr.refl _ _ | assumption | refine Fr.drewN ?_ _ | refine Fr.drew ?_ | refine Fr.drewl ?_ | refine Fr.drewNl ?_ _ | refine Fr.alloc ?_ _))) (fun _ _ => id))).mono ?_
  rintro e1 w1 ⟨rfl, hf⟩
  obtain ⟨r1, r2⟩ := hf.new_row2 id id
  obtain ⟨d0, d1, d2, dz⟩ := row3 r2
  have l1 := r1.lt
  have l2 := r2.lt
  clear r1 r2
  go_wp2
  exact bodyPost_ret (v := .tuple #[.agg #[.bool false, .int .i64 0, .int .i64 0], .int .i64 er]) (by simp [results, Try.results58, go_sem, l1, l2, d0, d1, d2]) rfl ⟨rfl, (by repeat (first | exact Fr.refl _ _ | assumption | refine Fr.drewN ?_ _ | refine Fr.drew ?_ | refine Fr.drewl ?_ | refine Fr.drewNl ?_ _ | refine Fr.alloc ?_ _ | (refine Fr.setCell ?_ (Or.inr (by simp)) _) | refine Fr.trans ?_ (by assumption)))⟩

set_option maxHeartbeats 400000 in
theorem load_unset (h : MemL D w mb ao cap bb arr wb zb M) (p : Bool) (a n : Int) (he : M.errp ⟨p, a, n⟩ 1 = 0) (hs : (M.blk a).set.getD n.toNat false = false) :
    Calls Try.prog 58 #[.pointer (Option.some ⟨mb, 0, none⟩), .agg #[.bool p, .int .i64 a, .int .i64 n]] w fun e w' =>
      e = .returned (.tuple #[.agg #[.bool false, .int .i64 0, .int .i64 0], .int .i64 14]) ∧ Fr Non w w' := by
  have HC := Lib.hid fun w1 (h1 : MemL D w1 mb ao cap bb arr wb zb M) => piece_good h1 p a n 1 (by omega) he
  obtain ⟨he, hn0, _, hn1⟩ := Mem.errp_zero he
  obtain ⟨k, rfl, rfl, hk, _, hr, hok, _, g2, _, _, hz, _, _, _, _, hlen⟩ := h.good he
  rw [show ((k : Int) + 1 - 1).toNat = k by omega] at HC
  simp only at hn0 hn1
  generalize M.blk ((k : Int) + 1) = b at *
  obtain ⟨j, rfl⟩ := Int.eq_ofNat_of_zero_le hn0
  rw [Int.toNat_natCast] at hs
  have hj : j < b.set.length := by have := hok.1; omega
  have f2 := hr.cell g2
  have f3 := hz.cell (o := j) (v := .bool false) (by rw [List.getElem?_map, List.getElem?_eq_getElem hj]; simp [List.getD, List.getElem?_eq_getElem hj] at hs; simp [hs])
  have i0 : (0 : Int) ≤ (j : Int) := by omega
  have i1 : (j : Int) < (b.words.length : Int) := by omega
  clear hs hok hj hn0 hn1 he g2
  go_enter Try.func58, Try.ntmps58
  go_wp2_with fail
  refine (HC.out _ (h.fr (by exact (by repeat (first | exact Fr.refl _ _ | assumption | refine Fr.drewN ?_ _ | refine Fr.drew ?_ | refine Fr.drewl ?_ | refine Fr.drewNl ?_ _ | refine Fr.alloc ?_ _))) (fun _ _ => id))).mono ?_
  rintro e1 w1 ⟨rfl, hf⟩
  have hg : Fr Non w w1 := Fr.trans (by repeat (first | exact Fr.refl _ _ | assumption | refine Fr.drewN ?_ _ | refine Fr.drew ?_ | refine Fr.drewl ?_ | refine Fr.drewNl ?_ _ | refine Fr.alloc ?_ _)) hf
  replace f2 := hg.cell f2 id
  replace f3 := hg.cell f3 id
  obtain ⟨r1, r2⟩ := hf.new_row2 id id
  obtain ⟨b0, b1, b2, bz⟩ := row3 r1
  obtain ⟨d0, d1, d2, dz⟩ := row3 r2
  have l1 := r1.lt
  have l2 := r2.lt
  clear r1 r2 h hr hz
  go_wp2
  go_quiet (fail)
  go_wp2
  exact bodyPost_ret (v := .tuple #[.agg #[.bool false, .int .i64 0, .int .i64 0], .int .i64 14]) (by simp [results, Try.results58, go_sem, l1, l2, d0, d1, d2]) rfl ⟨rfl, (by repeat (first | exact Fr.refl _ _ | assumption | refine Fr.drewN ?_ _ | refine Fr.drew ?_ | refine Fr.drewl ?_ | refine Fr.drewNl ?_ _ | refine Fr.alloc ?_ _ | (refine Fr.setCell ?_ (Or.inr (by simp)) _) | refine Fr.trans ?_ (by assumption)))⟩

set_option maxHeartbeats 400000 in
theorem load_set (h : MemL D w mb ao cap bb arr wb zb M) (p : Bool) (a n : Int) (he : M.errp ⟨p, a, n⟩ 1 = 0) (hs : (M.blk a).set.getD n.toNat false = true) (x : Wd) (hx : (M.blk a).words.getD n.toNat Wd.zero = x) :
    Calls Try.prog 58 #[.pointer (Option.some ⟨mb, 0, none⟩), .agg #[.bool p, .int .i64 a, .int .i64 n]] w fun e w' =>
      e = .returned (.tuple #[.agg #[.bool x.p, .int .i64 x.a, .int .i64 x.n], .int .i64 0]) ∧ Fr Non w w' := by
  have HC := Lib.hid fun w1 (h1 : MemL D w1 mb ao cap bb arr wb zb M) => piece_good h1 p a n 1 (by omega) he
  obtain ⟨he, hn0, _, hn1⟩ := Mem.errp_zero he
  obtain ⟨k, rfl, rfl, hk, _, hr, hok, g1, g2, _, hw, hz, _, _, _, _, hlen⟩ := h.good he
  rw [show ((k : Int) + 1 - 1).toNat = k by omega] at HC
  simp only at hn0 hn1
  generalize M.blk ((k : Int) + 1) = b at *
  obtain ⟨j, rfl⟩ := Int.eq_ofNat_of_zero_le hn0
  rw [Int.toNat_natCast] at hs hx
  have hj : j < b.set.length := by have := hok.1; omega
  have hj2 : j < b.words.length := by omega
  have f1 := hr.cell g1
  have f2 := hr.cell g2
  have f3 := hz.cell (o := j) (v := .bool true) (by rw [List.getElem?_map, List.getElem?_eq_getElem hj]; simp [List.getD, List.getElem?_eq_getElem hj] at hs; simp [hs])
  have hx' : b.words[j]? = Option.some x := by rw [List.getElem?_eq_getElem hj2]; simp [List.getD, List.getElem?_eq_getElem hj2] at hx; rw [hx]
  obtain ⟨x0, x1, x2⟩ := flat_get hx'
  replace x0 := hw.cell x0
  replace x1 := hw.cell x1
  replace x2 := hw.cell x2
  have i0 : (0 : Int) ≤ (j : Int) := by omega
  have i1 : (j : Int) < (b.words.length : Int) := by omega
  clear hs hok hj hj2 hn0 hn1 he g2 g1 hx hx'
  go_enter Try.func58, Try.ntmps58
  go_wp2_with fail
  refine (HC.out _ (h.fr (by exact (by repeat (first | exact Fr.refl _ _ | assumption | refine Fr.drewN ?_ _ | refine Fr.drew ?_ | refine Fr.drewl ?_ | refine Fr.drewNl ?_ _ | refine Fr.alloc ?_ _))) (fun _ _ => id))).mono ?_
  rintro e1 w1 ⟨rfl, hf⟩
  have hg : Fr Non w w1 := Fr.trans (by repeat (first | exact Fr.refl _ _ | assumption | refine Fr.drewN ?_ _ | refine Fr.drew ?_ | refine Fr.drewl ?_ | refine Fr.drewNl ?_ _ | refine Fr.alloc ?_ _)) hf
  replace f1 := hg.cell f1 id
  replace f2 := hg.cell f2 id
  replace f3 := hg.cell f3 id
  replace x0 := hg.cell x0 id
  replace x1 := hg.cell x1 id
  replace x2 := hg.cell x2 id
  obtain ⟨r1, r2⟩ := hf.new_row2 id id
  obtain ⟨b0, b1, b2, bz⟩ := row3 r1
  obtain ⟨d0, d1, d2, dz⟩ := row3 r2
  have l1 := r1.lt
  have l2 := r2.lt
  have n1 : w.heap.size + 1 ≠ bb := by have := hr.lt; omega
  have n2 : w.heap.size + 1 ≠ wb k := by have := hw.lt; omega
  clear r1 r2 h hr hz hw
  go_wp2
  go_quiet (fail)
  go_wp2
  go_region_held3 (fun w' => w'.cell? ⟨bb, k * 3, none⟩ = Option.some (.slice (Option.some ⟨wb k, 0, none⟩) b.words.length b.words.length) ∧ w'.cell? ⟨w.heap.size, 2, none⟩ = Option.some (.int .i64 (j : Int)) ∧
      w'.cell? ⟨wb k, j * 3, none⟩ = Option.some (.bool x.p) ∧ w'.cell? ⟨wb k, j * 3 + 1, none⟩ = Option.some (.int .i64 x.a) ∧ w'.cell? ⟨wb k, j * 3 + 2, none⟩ = Option.some (.int .i64 x.n)) (go_keep) (fail)
  go_wp2
  exact bodyPost_ret (v := .tuple #[.agg #[.bool x.p, .int .i64 x.a, .int .i64 x.n], .int .i64 0]) (by simp [results, Try.results58, go_sem, l1, l2, d0, d1, d2]) rfl ⟨rfl, (by repeat (first | exact Fr.refl _ _ | assumption | refine Fr.drewN ?_ _ | refine Fr.drew ?_ | refine Fr.drewl ?_ | refine Fr.drewNl ?_ _ | refine Fr.alloc ?_ _ | (refine Fr.setCell ?_ (Or.inr (by simp)) _) | refine Fr.trans ?_ (by assumption)))⟩

/-- What 'Load' says of whatever address. -/
theorem load_c (h : MemL D w mb ao cap bb arr wb zb M) (p : Bool) (a n : Int) :
    Calls Try.prog 58 #[.pointer (Option.some ⟨mb, 0, none⟩), .agg #[.bool p, .int .i64 a, .int .i64 n]] w fun e w' =>
      e = .returned (.tuple #[.agg #[.bool (M.load ⟨p, a, n⟩).1.p, .int .i64 (M.load ⟨p, a, n⟩).1.a, .int .i64 (M.load ⟨p, a, n⟩).1.n], .int .i64 (M.load ⟨p, a, n⟩).2]) ∧ Fr Non w w' := by
  unfold Mem.load
  by_cases he : M.errp ⟨p, a, n⟩ 1 = 0
  · rw [if_neg (by simpa using he)]
    cases hs : (M.blk a).set.getD n.toNat false with
    | false => rw [if_pos rfl]; exact load_unset h p a n he hs
    | true => rw [if_neg (by simp)]; exact load_set h p a n he hs _ rfl
  · rw [if_pos he]
    exact load_bad h p a n he
end

end Go.Proofs.Ytlbomnbpahmphaa
