/- Walks: the memory's 'Store'. Condition: the memory lies in blocks as 'MemL' says. -/
import Derived.Test.YtlbomnbpahmphaaMload
namespace Go.Proofs.Ytlbomnbpahmphaa
open Go.RowKit

def Blk.put (b : Blk) (j : Nat) (x : Wd) : Blk := ⟨b.words.set j x, b.set.set j true, b.freed⟩
def Mem.put (M : Mem) (k : Nat) (b : Blk) : Mem := { M with blocks := M.blocks.set k b }

def Mem.store (M : Mem) (p x : Wd) : Mem × Int :=
  if M.errp p 1 ≠ 0 then (M, M.errp p 1) else (M.put (p.a - 1).toNat ((M.blk p.a).put p.n.toNat x), 0)

section
variable {D : Nat → Prop} {w : World} {mb cap bb : Nat} {ao : Option Addr} {arr : List Value} {wb zb : Nat → Nat} {M : Mem}

/-- Other words, or marks, in a block that is not freed. -/
theorem MemL.upd (h : MemL D w mb ao cap bb arr wb zb M) {k : Nat} {b : Blk} (hb : M.blocks[k]? = Option.some b) (hf : b.freed = false) {w' : World} (f : Fr (fun x => x = wb k ∨ x = zb k) w w')
    {b' : Blk} (hf' : b'.freed = false) (hw : b'.words.length = b.words.length) (hz : b'.set.length = b'.words.length)
    (rw' : Row w' (wb k) 38 (flat b'.words)) (rz' : Row w' (zb k) 4 (b'.set.map Value.bool)) : MemL D w' mb ao cap bb arr wb zb (M.put k b') := by
  have hk : k < M.blocks.length := (List.getElem?_eq_some_iff.1 hb).1
  have hat := h.blk k b hb
  unfold Blk.at at hat
  rw [if_neg (by simp [hf])] at hat
  obtain ⟨g1, g2, g3, g4, g5, g6, g7⟩ := hat
  have hu : used (M.put k b').blocks = used M.blocks := by have := used_set hb b'; simp only [Mem.put]; omega
  have hl : live (M.put k b').blocks = live M.blocks := by have := live_set hb b'; simp only [Mem.put, hf, hf', Bool.false_eq_true, if_false] at *; omega
  have hn : (M.put k b').blocks.length = M.blocks.length := by simp [Mem.put]
  have nw : ∀ {x : Nat} {T : TypeId} {cs : List Value}, Row w x T cs → T ≠ 38 → T ≠ 4 → ¬ (x = wb k ∨ x = zb k) := fun r h1 h2 => by
    rintro (rfl | rfl)
    · exact r.ne g4 h1 rfl
    · exact r.ne g5 h2 rfl
  refine { head := ?_, own := h.own, row := ?_, blk := ?_, one := ?_, ok := ?_, lt := fun i hi => ⟨Nat.lt_of_lt_of_le (h.lt i (hn ▸ hi)).1 f.size, Nat.lt_of_lt_of_le (h.lt i (hn ▸ hi)).2 f.size⟩ }
  · rw [hu, hl, hn]; exact f.row h.head (nw h.head (by decide) (by decide))
  · rw [hn]
    rcases h.row with ⟨_, _, h3⟩ | ⟨h1, h2, h3, h4, h5, h6⟩
    · rw [h3] at hk; simp at hk
    · exact Or.inr ⟨h1, f.row h2 (nw h2 (by decide) (by decide)), h3, h4, h5, h6⟩
  · intro i c hc
    simp only [Mem.put] at hc
    by_cases hik : k = i
    · subst hik
      rw [List.getElem?_set_self hk] at hc
      cases hc
      unfold Blk.at
      rw [if_neg (by simp [hf']), hw]
      exact ⟨g1, g2, g3, rw', rz', g6, g7⟩
    · rw [List.getElem?_set_ne hik] at hc
      have hi : i < M.blocks.length := (List.getElem?_eq_some_iff.1 hc).1
      have hci := h.blk i c hc
      unfold Blk.at at *
      split at hci
      · rename_i hcf; rw [if_pos hcf]; exact hci
      · rename_i hcf
        rw [if_neg hcf]
        obtain ⟨e1, e2, e3, e4, e5, e6, e7⟩ := hci
        obtain ⟨o1, o2⟩ := h.one i k hi hk (Ne.symm hik)
        refine ⟨e1, e2, e3, f.row e4 ?_, f.row e5 ?_, e6, e7⟩
        · rintro (e | e)
          · exact o1 e
          · exact e4.ne (e ▸ g5) (by decide) rfl
        · rintro (e | e)
          · exact e5.ne (e ▸ g4) (by decide) rfl
          · exact o2 e
  · rw [hn]; exact h.one
  · refine ⟨h.ok.room, by rw [hu]; exact h.ok.used, fun c hc => ?_⟩
    rcases List.mem_or_eq_of_mem_set hc with hc | rfl
    · exact h.ok.blk c hc
    · exact ⟨hz, by simp [hf']⟩

set_option maxHeartbeats 400000 in
theorem store_bad (h : MemL D w mb ao cap bb arr wb zb M) (p : Bool) (a n : Int) (q : Bool) (c m : Int) (he : M.errp ⟨p, a, n⟩ 1 ≠ 0) :
    Calls Try.prog 32 #[.pointer (Option.some ⟨mb, 0, none⟩), .agg #[.bool p, .int .i64 a, .int .i64 n], .agg #[.bool q, .int .i64 c, .int .i64 m]] w fun e w' =>
      e = .returned (.int .i64 (M.errp ⟨p, a, n⟩ 1)) ∧ Fr Non w w' := by
  have hd : (M.errp ⟨p, a, n⟩ 1 == 0) = false := by simpa using he
  have HC := Lib.hid fun w1 (h1 : MemL D w1 mb ao cap bb arr wb zb M) => piece_bad h1 p a n 1 (by omega) he
  generalize M.errp ⟨p, a, n⟩ 1 = er at *
  go_enter Try.func32, Try.ntmps32
  go_wp2_with fail
  refine (HC.out _ (h.fr (by exact (by repeat (first | exact Fr.refl _ _ | assumption | refine Fr.drewN ?_ _ | refine Fr.drew ?_ | refine Fr.drewl ?_ | refine Fr.drewNl ?_ _ | refine Fr.alloc ?_ _))) (fun _ _ => id))).mono ?_
  rintro e1 w1 ⟨rfl, hf⟩
  go_wp2
  go_ret
  exact ⟨rfl, (by repeat (first | exact Fr.refl _ _ | assumption | refine Fr.drewN ?_ _ | refine Fr.drew ?_ | refine Fr.drewl ?_ | refine Fr.drewNl ?_ _ | refine Fr.alloc ?_ _ | refine Fr.trans ?_ (by assumption)))⟩

set_option maxHeartbeats 400000 in
theorem store_good (h : MemL D w mb ao cap bb arr wb zb M) (p : Bool) (a n : Int) (q : Bool) (c m : Int) (he : M.errp ⟨p, a, n⟩ 1 = 0) :
    Calls Try.prog 32 #[.pointer (Option.some ⟨mb, 0, none⟩), .agg #[.bool p, .int .i64 a, .int .i64 n], .agg #[.bool q, .int .i64 c, .int .i64 m]] w fun e w' =>
      e = .returned (.int .i64 0) ∧ MemL D w' mb ao cap bb arr wb zb (M.put (a - 1).toNat ((M.blk a).put n.toNat ⟨q, c, m⟩)) ∧ Fr D w w' := by
  have HC := Lib.hid fun w1 (h1 : MemL D w1 mb ao cap bb arr wb zb M) => piece_good h1 p a n 1 (by omega) he
  obtain ⟨he, hn0, _, hn1⟩ := Mem.errp_zero he
  obtain ⟨k, rfl, rfl, hk, hbk, hr, hok, g1, g2, _, hw, hz, dw, dz, _, hfr, hlen⟩ := h.good he
  rw [show ((k : Int) + 1 - 1).toNat = k by omega] at HC ⊢
  simp only at hn0 hn1
  generalize M.blk ((k : Int) + 1) = b at *
  obtain ⟨j, rfl⟩ := Int.eq_ofNat_of_zero_le hn0
  rw [Int.toNat_natCast]
  have hj : j < b.set.length := by have := hok.1; omega
  have hj2 : j < b.words.length := by omega
  have f1 := hr.cell g1
  have f2 := hr.cell g2
  obtain ⟨x0, x1, x2⟩ := flat_get (List.getElem?_eq_getElem hj2)
  replace x0 := hw.cell x0
  replace x1 := hw.cell x1
  replace x2 := hw.cell x2
  have z0 := hz.cell (o := j) (by rw [List.getElem?_map, List.getElem?_eq_getElem hj]; rfl)
  generalize b.words[j] = y at *
  generalize b.set[j] = t at *
  have i0 : (0 : Int) ≤ (j : Int) := by omega
  have i1 : (j : Int) < (b.words.length : Int) := by omega
  have e1 : bb ≠ wb k := hr.ne hw (by decide)
  have e2 : bb ≠ zb k := hr.ne hz (by decide)
  have e3 : wb k ≠ zb k := hw.ne hz (by decide)
  have n1 : wb k ≠ w.heap.size := Nat.ne_of_lt hw.lt
  have n2 : wb k ≠ w.heap.size + 1 := by have := hw.lt; omega
  have n3 : zb k ≠ w.heap.size := Nat.ne_of_lt hz.lt
  have n4 : zb k ≠ w.heap.size + 1 := by have := hz.lt; omega
  have e1' := e1.symm
  have e2' := e2.symm
  have e3' := e3.symm
  clear hn0 hn1 he g2 g1
  have HH := Lib.hid (And.intro h (And.intro hbk (And.intro hfr (And.intro hok (And.intro hw (And.intro hz (And.intro dw (And.intro dz (And.intro hj hj2)))))))))
  clear hbk hfr hok dw dz hj hj2
  go_enter Try.func32, Try.ntmps32
  go_wp2_with fail
  refine (HC.out _ (h.fr (by exact (by repeat (first | exact Fr.refl _ _ | assumption | refine Fr.drewN ?_ _ | refine Fr.drew ?_ | refine Fr.drewl ?_ | refine Fr.drewNl ?_ _ | refine Fr.alloc ?_ _))) (fun _ _ => id))).mono ?_
  rintro e1 w1 ⟨rfl, hf⟩
  have hg : Fr Non w w1 := Fr.trans (by repeat (first | exact Fr.refl _ _ | assumption | refine Fr.drewN ?_ _ | refine Fr.drew ?_ | refine Fr.drewl ?_ | refine Fr.drewNl ?_ _ | refine Fr.alloc ?_ _)) hf
  replace f1 := hg.cell f1 id
  replace f2 := hg.cell f2 id
  replace x0 := hg.cell x0 id
  replace x1 := hg.cell x1 id
  replace x2 := hg.cell x2 id
  replace z0 := hg.cell z0 id
  have y0 := (hg.row hw id).frozen
  have y1 := (hg.row hz id).frozen
  obtain ⟨r1, r2⟩ := hf.new_row2 id id
  obtain ⟨b0, b1, b2, bz⟩ := row3 r1
  obtain ⟨d0, d1, d2, dz⟩ := row3 r2
  clear r1 r2 h hr hz hw b0 b1 bz dz
  go_wp2
  go_region_held3 (fun w' => w'.cell? ⟨bb, k * 3, none⟩ = Option.some (.slice (Option.some ⟨wb k, 0, none⟩) b.words.length b.words.length) ∧ w'.cell? ⟨bb, k * 3 + 1, none⟩ = Option.some (.slice (Option.some ⟨zb k, 0, none⟩) b.words.length b.words.length) ∧
      w'.cell? ⟨w.heap.size, 2, none⟩ = Option.some (.int .i64 (j : Int)) ∧
      w'.cell? ⟨w.heap.size + 1, 0, none⟩ = Option.some (.bool q) ∧ w'.cell? ⟨w.heap.size + 1, 1, none⟩ = Option.some (.int .i64 c) ∧ w'.cell? ⟨w.heap.size + 1, 2, none⟩ = Option.some (.int .i64 m)) (go_keep) (fail)
  go_wp2
  go_ret
  obtain ⟨h, hbk, hfr, hok, hw, hz, dw, dz, hj, hj2⟩ := HH.out
  have rw1 := ((((hg.row hw id).set_same (j * 3) (.bool q)).set_same (j * 3 + 1) (.int .i64 c)).set_same (j * 3 + 2) (.int .i64 m)).set_ne (a := ⟨zb k, j, none⟩) e3 (.bool true)
  have rz1 := ((((hg.row hz id).set_ne (a := ⟨wb k, j * 3, none⟩) e3' (.bool q)).set_ne (a := ⟨wb k, j * 3 + 1, none⟩) e3' (.int .i64 c)).set_ne (a := ⟨wb k, j * 3 + 2, none⟩) e3' (.int .i64 m)).set_same j (.bool true)
  rw [flat_set b.words j ⟨q, c, m⟩] at rw1
  rw [show (b.set.map Value.bool).set j (.bool true) = (b.set.set j true).map Value.bool by rw [List.map_set]] at rz1
  have hfx : Fr (fun x => x = wb k ∨ x = zb k) w ((((w1.setCell ⟨wb k, j * 3, none⟩ (.bool q)).setCell ⟨wb k, j * 3 + 1, none⟩ (.int .i64 c)).setCell ⟨wb k, j * 3 + 2, none⟩ (.int .i64 m)).setCell ⟨zb k, j, none⟩ (.bool true)) :=
    ((((hg.mono fun _ _ h => h.elim).setCell (Or.inl (Or.inl rfl)) _).setCell (Or.inl (Or.inl rfl)) _).setCell (Or.inl (Or.inl rfl)) _).setCell (Or.inl (Or.inr rfl)) _
  refine ⟨rfl, ?_, ?_⟩
  · exact h.upd hbk hfr (hfx.drewN _) (b' := b.put j ⟨q, c, m⟩) hfr (by simp [Blk.put]) (by simp [Blk.put, hok.1]) rw1 rz1
  · exact (hfx.mono fun x _ h => by rcases h with rfl | rfl; exact dw; exact dz).drewN _

/-- What 'Store' does at whatever address. -/
theorem store_c (h : MemL D w mb ao cap bb arr wb zb M) (p : Bool) (a n : Int) (q : Bool) (c m : Int) :
    Calls Try.prog 32 #[.pointer (Option.some ⟨mb, 0, none⟩), .agg #[.bool p, .int .i64 a, .int .i64 n], .agg #[.bool q, .int .i64 c, .int .i64 m]] w fun e w' =>
      e = .returned (.int .i64 (M.store ⟨p, a, n⟩ ⟨q, c, m⟩).2) ∧ MemL D w' mb ao cap bb arr wb zb (M.store ⟨p, a, n⟩ ⟨q, c, m⟩).1 ∧ Fr D w w' := by
  unfold Mem.store
  by_cases he : M.errp ⟨p, a, n⟩ 1 = 0
  · rw [if_neg (by simpa using he)]
    exact store_good h p a n q c m he
  · rw [if_pos he]
    exact (store_bad h p a n q c m he).mono fun e w' ⟨h1, h2⟩ => ⟨h1, h.fr h2 (fun _ _ => id), h2.mono fun _ _ h => h.elim⟩
end

end Go.Proofs.Ytlbomnbpahmphaa
