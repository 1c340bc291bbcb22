/- Walks: the memory's 'Free'. Condition: the memory lies in blocks as 'MemL' says. -/
import Derived.Test.YtlbomnbpahmphaaMstore
namespace Go.Proofs.Ytlbomnbpahmphaa
open Go.RowKit

def Mem.free (M : Mem) (p : Wd) : Mem × Int :=
  if M.errb p ≠ 0 then (M, M.errb p) else if p.n ≠ 0 then (M, 13) else (M.put (p.a - 1).toNat Blk.gone, 0)

section
variable {D : Nat → Prop} {w : World} {mb cap bb : Nat} {ao : Option Addr} {arr : List Value} {wb zb : Nat → Nat} {M : Mem}

/-- A block is freed: its three cells, and the two counts. -/
theorem MemL.rem (h : MemL D w mb ao cap bb arr wb zb M) {k : Nat} {b : Blk} (hb : M.blocks[k]? = Option.some b) {w' : World} (f : Fr (fun x => x = mb ∨ x = bb) w w')
    (rh : Row w' mb 120 [.int .i64 M.room, .int .i64 ((used (M.put k Blk.gone).blocks : Nat) : Int), .int .i64 ((live (M.put k Blk.gone).blocks : Nat) : Int), .slice ao M.blocks.length cap])
    (rb : Row w' bb 125 (((arr.set (k * 3) (.slice none 0 0)).set (k * 3 + 1) (.slice none 0 0)).set (k * 3 + 2) (.bool true))) :
    MemL D w' mb ao cap bb (((arr.set (k * 3) (.slice none 0 0)).set (k * 3 + 1) (.slice none 0 0)).set (k * 3 + 2) (.bool true)) wb zb (M.put k Blk.gone) := by
  have hk : k < M.blocks.length := (List.getElem?_eq_some_iff.1 hb).1
  have hn : (M.put k Blk.gone).blocks.length = M.blocks.length := by simp [Mem.put]
  obtain ⟨h1, h2, h3, h4, h5, h6⟩ : ao = Option.some ⟨bb, 0, none⟩ ∧ Row w bb 125 arr ∧ arr.length = cap * 3 ∧ M.blocks.length ≤ cap ∧ cap ≤ maxLen ∧ D bb := by
    rcases h.row with ⟨_, _, h3⟩ | h
    · rw [h3] at hk; simp at hk
    · exact h
  have nw : ∀ {x : Nat} {T : TypeId} {cs : List Value}, Row w x T cs → T ≠ 120 → T ≠ 125 → ¬ (x = mb ∨ x = bb) := fun r h1 h3 => by
    rintro (rfl | rfl)
    · exact r.ne h.head h1 rfl
    · exact r.ne h2 h3 rfl
  refine { head := ?_, own := h.own, row := ?_, blk := ?_, one := ?_, ok := ?_, lt := fun i hi => ⟨Nat.lt_of_lt_of_le (h.lt i (hn ▸ hi)).1 f.size, Nat.lt_of_lt_of_le (h.lt i (hn ▸ hi)).2 f.size⟩ }
  · rw [hn]; exact rh
  · rw [hn]; exact Or.inr ⟨h1, rb, by simpa using h3, h4, h5, h6⟩
  · intro i c hc
    simp only [Mem.put] at hc
    by_cases hik : k = i
    · subst hik
      rw [List.getElem?_set_self hk] at hc
      cases hc
      unfold Blk.at
      rw [if_pos (show Blk.gone.freed = true from rfl)]
      have hl : k * 3 + 2 < arr.length := by omega
      refine ⟨?_, ?_, ?_⟩
      · rw [List.getElem?_set_ne (by omega), List.getElem?_set_ne (by omega), List.getElem?_set_self (by omega)]
      · rw [List.getElem?_set_ne (by omega), List.getElem?_set_self (by simp; omega)]
      · rw [List.getElem?_set_self (by simp; omega)]
    · rw [List.getElem?_set_ne hik] at hc
      have hci := h.blk i c hc
      have hs : ∀ j, j < 3 → (((arr.set (k * 3) (.slice none 0 0)).set (k * 3 + 1) (.slice none 0 0)).set (k * 3 + 2) (.bool true))[i * 3 + j]? = arr[i * 3 + j]? := fun j hj => by
        rw [List.getElem?_set_ne (by omega), List.getElem?_set_ne (by omega), List.getElem?_set_ne (by omega)]
      have s0 := hs 0 (by omega)
      have s1 := hs 1 (by omega)
      have s2 := hs 2 (by omega)
      simp only [Nat.add_zero] at s0
      unfold Blk.at at *
      rw [s0, s1, s2]
      split at hci
      · rename_i hcf; rw [if_pos hcf]; exact hci
      · rename_i hcf
        rw [if_neg hcf]
        obtain ⟨e1, e2, e3, e4, e5, e6, e7⟩ := hci
        exact ⟨e1, e2, e3, f.row e4 (nw e4 (by decide) (by decide)), f.row e5 (nw e5 (by decide) (by decide)), e6, e7⟩
  · rw [hn]; exact h.one
  · have hu := used_set hb Blk.gone
    refine ⟨h.ok.room, ?_, fun c hc => ?_⟩
    · have := h.ok.used; simp only [Mem.put, Blk.gone, List.length_nil] at *; omega
    · rcases List.mem_or_eq_of_mem_set hc with hc | rfl
      · exact h.ok.blk c hc
      · exact ⟨rfl, fun _ => rfl⟩

set_option maxHeartbeats 400000 in
theorem free_bad (h : MemL D w mb ao cap bb arr wb zb M) (p : Bool) (a n : Int) (he : M.errb ⟨p, a, n⟩ ≠ 0) :
    Calls Try.prog 77 #[.pointer (Option.some ⟨mb, 0, none⟩), .agg #[.bool p, .int .i64 a, .int .i64 n]] w fun e w' =>
      e = .returned (.int .i64 (M.errb ⟨p, a, n⟩)) ∧ Fr Non w w' := by
  have hd : (M.errb ⟨p, a, n⟩ != 0) = true := by simpa using he
  have HC := Lib.hid fun w1 (h1 : MemL D w1 mb ao cap bb arr wb zb M) => block_bad h1 p a n he
  generalize M.errb ⟨p, a, n⟩ = er at *
  go_enter Try.func77, Try.ntmps77
  go_wp2_with fail
  refine (HC.out _ (h.fr (by exact (by repeat (first | exact Fr.refl _ _ | assumption | refine Fr.drewN ?_ _ | refine Fr.drew ?_ | refine Fr.drewl ?_ | refine Fr.drewNl ?_ _ | refine Fr.alloc ?_ _))) (fun _ _ => id))).mono ?_
  rintro e1 w1 ⟨rfl, hf⟩
  go_wp2
  go_ret
  exact ⟨rfl, (by repeat (first | exact Fr.refl _ _ | assumption | refine Fr.drewN ?_ _ | refine Fr.drew ?_ | refine Fr.drewl ?_ | refine Fr.drewNl ?_ _ | refine Fr.alloc ?_ _ | refine Fr.trans ?_ (by assumption)))⟩

set_option maxHeartbeats 400000 in
theorem free_off (h : MemL D w mb ao cap bb arr wb zb M) (p : Bool) (a n : Int) (he : M.errb ⟨p, a, n⟩ = 0) (hn : n ≠ 0) :
    Calls Try.prog 77 #[.pointer (Option.some ⟨mb, 0, none⟩), .agg #[.bool p, .int .i64 a, .int .i64 n]] w fun e w' =>
      e = .returned (.int .i64 13) ∧ Fr Non w w' := by
  have hd : (n != 0) = true := by simpa using hn
  have HC := Lib.hid fun w1 (h1 : MemL D w1 mb ao cap bb arr wb zb M) => block_good h1 p a n he
  generalize (a - 1).toNat * 3 = o at *
  go_enter Try.func77, Try.ntmps77
  go_wp2_with fail
  refine (HC.out _ (h.fr (by exact (by repeat (first | exact Fr.refl _ _ | assumption | refine Fr.drewN ?_ _ | refine Fr.drew ?_ | refine Fr.drewl ?_ | refine Fr.drewNl ?_ _ | refine Fr.alloc ?_ _))) (fun _ _ => id))).mono ?_
  rintro e1 w1 ⟨rfl, hf⟩
  have b2 := hf.new_cell (by simp [Non]) (o := 2) rfl
  go_wp2
  go_ret
  exact ⟨rfl, (by repeat (first | exact Fr.refl _ _ | assumption | refine Fr.drewN ?_ _ | refine Fr.drew ?_ | refine Fr.drewl ?_ | refine Fr.drewNl ?_ _ | refine Fr.alloc ?_ _ | refine Fr.trans ?_ (by assumption)))⟩

set_option maxRecDepth 100000 in
set_option maxHeartbeats 400000 in
theorem free_good (h : MemL D w mb ao cap bb arr wb zb M) (p : Bool) (a : Int) (he : M.errb ⟨p, a, 0⟩ = 0) :
    Calls Try.prog 77 #[.pointer (Option.some ⟨mb, 0, none⟩), .agg #[.bool p, .int .i64 a, .int .i64 0]] w fun e w' =>
      e = .returned (.int .i64 0) ∧ (∃ arr', MemL D w' mb ao cap bb arr' wb zb (M.put (a - 1).toNat Blk.gone)) ∧ Fr D w w' := by
  have HC := Lib.hid fun w1 (h1 : MemL D w1 mb ao cap bb arr wb zb M) => block_good h1 p a 0 he
  obtain ⟨k, rfl, rfl, hk, hbk, hr, hok, g1, g2, g3, hw, hz, dw, dz, dbb, hfr, hlen⟩ := h.good he
  rw [show ((k : Int) + 1 - 1).toNat = k by omega] at HC ⊢
  generalize hb' : M.blk ((k : Int) + 1) = b at *
  have f1 := hr.cell g1
  have f2 := hr.cell g2
  have f3 := hr.cell g3
  have c1 := h.c1
  have c2 := h.c2
  have e1 : mb ≠ bb := h.head.ne hr (by decide)
  have e1' := e1.symm
  have hu : (used M.blocks : Int) - (b.words.length : Int) = ((used (M.put k Blk.gone).blocks : Nat) : Int) := by
    have := used_set hbk Blk.gone; simp only [Mem.put, Blk.gone, List.length_nil] at *; omega
  have hl : (live M.blocks : Int) - 1 = ((live (M.put k Blk.gone).blocks : Nat) : Int) := by
    have := live_set hbk Blk.gone; simp only [Mem.put, Blk.gone, hfr, if_true, Bool.false_eq_true, if_false] at *; omega
  have hub : (used M.blocks : Int) ≤ 1048576 := by have := h.ok.used; have := h.ok.room; omega
  have hlb : live M.blocks ≤ maxLen := by
    have := live_le M.blocks
    rcases h.row with ⟨_, _, h3⟩ | ⟨_, _, _, h6, h7, _⟩
    · rw [h3] at hk; simp at hk
    · omega
  unfold maxLen at hlb
  have w1 : IntKind.i64.wrap ((used M.blocks : Int) - (b.words.length : Int)) = ((used (M.put k Blk.gone).blocks : Nat) : Int) := by rw [hu]; exact IntWalk.i64_in _ (by omega)
  have w2 : IntKind.i64.wrap ((live M.blocks : Int) - 1) = ((live (M.put k Blk.gone).blocks : Nat) : Int) := by rw [hl]; exact IntWalk.i64_in _ (by omega)
  clear hb' hu hl hub hlb g1 g2 g3
  have HH := Lib.hid (And.intro h (And.intro hbk (And.intro hfr (And.intro hr (And.intro hk dbb)))))
  clear hbk hfr hok dw dz he dbb hz hw
  generalize hu1 : used M.blocks = u1 at *
  generalize hl1 : live M.blocks = l1 at *
  generalize hu2 : ((used (M.put k Blk.gone).blocks : Nat) : Int) = u2 at *
  generalize hl2 : ((live (M.put k Blk.gone).blocks : Nat) : Int) = l2 at *
  have HE := Lib.hid (And.intro hu1 (And.intro hl1 (And.intro hu2 hl2)))
  clear hu1 hl1 hu2 hl2
  go_enter Try.func77, Try.ntmps77
  go_wp2_with fail
  refine (HC.out _ (h.fr (by exact (by repeat (first | exact Fr.refl _ _ | assumption | refine Fr.drewN ?_ _ | refine Fr.drew ?_ | refine Fr.drewl ?_ | refine Fr.drewNl ?_ _ | refine Fr.alloc ?_ _))) (fun _ _ => id))).mono ?_
  rintro e1 w1 ⟨rfl, hf⟩
  have hg : Fr Non w w1 := Fr.trans (by repeat (first | exact Fr.refl _ _ | assumption | refine Fr.drewN ?_ _ | refine Fr.drew ?_ | refine Fr.drewl ?_ | refine Fr.drewNl ?_ _ | refine Fr.alloc ?_ _)) hf
  replace f1 := hg.cell f1 id
  replace f2 := hg.cell f2 id
  replace f3 := hg.cell f3 id
  replace c1 := hg.cell c1 id
  replace c2 := hg.cell c2 id
  have y0 := (hg.row h.head id).frozen
  have y1 := (hg.row hr id).frozen
  have b2 := hf.new_cell (by simp [Non]) (o := 2) rfl
  clear h hr
  go_wp2
  go_still_tail 12, (by kernel_rfl)
  go_wp2
  go_ret
  obtain ⟨h, hbk, hfr, hr, hk, dbb⟩ := HH.out
  obtain ⟨rfl, rfl, rfl, rfl⟩ := HE.out
  have rh := ((((hg.row h.head id).set_same 1 (.int .i64 ((used (M.put k Blk.gone).blocks : Nat) : Int))).set_same 2 (.int .i64 ((live (M.put k Blk.gone).blocks : Nat) : Int))).set_ne (a := ⟨bb, k * 3, none⟩) e1 (.slice none 0 0)).set_ne (a := ⟨bb, k * 3 + 1, none⟩) e1 (.slice none 0 0) |>.set_ne (a := ⟨bb, k * 3 + 2, none⟩) e1 (.bool true)
  have rb := ((((hg.row hr id).set_ne (a := ⟨mb, 1, none⟩) e1' (.int .i64 ((used (M.put k Blk.gone).blocks : Nat) : Int))).set_ne (a := ⟨mb, 2, none⟩) e1' (.int .i64 ((live (M.put k Blk.gone).blocks : Nat) : Int))).set_same (k * 3) (.slice none 0 0)).set_same (k * 3 + 1) (.slice none 0 0) |>.set_same (k * 3 + 2) (.bool true)
  have hfx := (((((hg.mono (D' := fun x => x = mb ∨ x = bb) fun _ _ h => h.elim).setCell (a := ⟨mb, 1, none⟩) (Or.inl (Or.inl rfl)) (.int .i64 ((used (M.put k Blk.gone).blocks : Nat) : Int))).setCell (a := ⟨mb, 2, none⟩) (Or.inl (Or.inl rfl)) (.int .i64 ((live (M.put k Blk.gone).blocks : Nat) : Int))).setCell (a := ⟨bb, k * 3, none⟩) (Or.inl (Or.inr rfl)) (.slice none 0 0)).setCell (a := ⟨bb, k * 3 + 1, none⟩) (Or.inl (Or.inr rfl)) (.slice none 0 0)).setCell (a := ⟨bb, k * 3 + 2, none⟩) (Or.inl (Or.inr rfl)) (.bool true)
  refine ⟨rfl, ⟨_, h.rem hbk hfx.drew rh.drew rb.drew⟩, ?_⟩
  exact (hfx.mono fun x _ hx => by rcases hx with rfl | rfl; exact h.own; exact dbb).drew

/-- What 'Free' does at whatever address. -/
theorem free_c (h : MemL D w mb ao cap bb arr wb zb M) (p : Bool) (a n : Int) :
    Calls Try.prog 77 #[.pointer (Option.some ⟨mb, 0, none⟩), .agg #[.bool p, .int .i64 a, .int .i64 n]] w fun e w' =>
      e = .returned (.int .i64 (M.free ⟨p, a, n⟩).2) ∧ (∃ arr', MemL D w' mb ao cap bb arr' wb zb (M.free ⟨p, a, n⟩).1) ∧ Fr D w w' := by
  unfold Mem.free
  by_cases he : M.errb ⟨p, a, n⟩ = 0
  · rw [if_neg (by simpa using he)]
    by_cases hn : n = 0
    · subst hn
      rw [if_neg (by simp)]
      exact free_good h p a he
    · rw [if_pos hn]
      exact (free_off h p a n he hn).mono fun e w' ⟨h1, h2⟩ => ⟨h1, ⟨_, h.fr h2 (fun _ _ => id)⟩, h2.mono fun _ _ h => h.elim⟩
  · rw [if_pos he]
    exact (free_bad h p a n he).mono fun e w' ⟨h1, h2⟩ => ⟨h1, ⟨_, h.fr h2 (fun _ _ => id)⟩, h2.mono fun _ _ h => h.elim⟩
end

end Go.Proofs.Ytlbomnbpahmphaa
