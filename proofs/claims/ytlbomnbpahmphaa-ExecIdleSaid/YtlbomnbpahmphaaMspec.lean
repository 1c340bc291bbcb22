/- What the memory of the program computes, as plain Lean over lists; and how such a memory lies in blocks of cells. No condition. -/
import Derived.Test.YtlbomnbpahmphaaCore
namespace Go.Proofs.Ytlbomnbpahmphaa
open Go.RowKit

structure Wd where
  p : Bool
  a : Int
  n : Int

def Wd.zero : Wd := ⟨false, 0, 0⟩
def Wd.cs (x : Wd) : List Value := [.bool x.p, .int .i64 x.a, .int .i64 x.n]

/-- The words as cells, one behind the other. -/
def flat (l : List Wd) : List Value := l.flatMap Wd.cs

theorem flat_len (l : List Wd) : (flat l).length = l.length * 3 := by
  induction l with
  | nil => rfl
  | cons x l ih => simp only [flat, List.flatMap_cons, List.length_append, List.length_cons] at *; rw [ih]; simp [Wd.cs]; omega
theorem flat_cons (x : Wd) (l : List Wd) : flat (x :: l) = .bool x.p :: .int .i64 x.a :: .int .i64 x.n :: flat l := rfl
theorem flat_get {l : List Wd} {j : Nat} {x : Wd} (h : l[j]? = some x) :
    (flat l)[j * 3]? = some (.bool x.p) ∧ (flat l)[j * 3 + 1]? = some (.int .i64 x.a) ∧ (flat l)[j * 3 + 2]? = some (.int .i64 x.n) := by
  induction l generalizing j with
  | nil => simp at h
  | cons y l ih =>
    cases j with
    | zero => simp at h; subst h; simp [flat_cons]
    | succ j =>
      have := ih (by simpa using h)
      rw [flat_cons, show (j + 1) * 3 = j * 3 + 3 by omega]
      exact this
theorem flat_set (l : List Wd) (j : Nat) (x : Wd) :
    (((flat l).set (j * 3) (.bool x.p)).set (j * 3 + 1) (.int .i64 x.a)).set (j * 3 + 2) (.int .i64 x.n) = flat (l.set j x) := by
  induction l generalizing j with
  | nil => simp [flat]
  | cons y l ih =>
    cases j with
    | zero => simp [flat_cons]
    | succ j =>
      rw [List.set_cons_succ, flat_cons, flat_cons, ← ih j, show (j + 1) * 3 = j * 3 + 3 by omega]
      rfl

structure Blk where
  words : List Wd
  set : List Bool
  freed : Bool

def Blk.gone : Blk := ⟨[], [], true⟩

structure Mem where
  room : Int
  blocks : List Blk

def used (l : List Blk) : Nat := (l.map fun b => b.words.length).sum
def live (l : List Blk) : Nat := (l.filter fun b => !b.freed).length

theorem used_mem {l : List Blk} {b : Blk} (h : b ∈ l) : b.words.length ≤ used l := by
  induction l with
  | nil => cases h
  | cons x l ih =>
    simp only [used, List.map_cons, List.sum_cons] at *
    rcases List.mem_cons.1 h with rfl | h
    · omega
    · have := ih h; omega
theorem used_append (l l' : List Blk) : used (l ++ l') = used l + used l' := by simp [used]
theorem live_append (l l' : List Blk) : live (l ++ l') = live l + live l' := by simp [live]
theorem used_set {l : List Blk} {i : Nat} {b : Blk} (h : l[i]? = some b) (b' : Blk) : used (l.set i b') + b.words.length = used l + b'.words.length := by
  induction l generalizing i with
  | nil => simp at h
  | cons x l ih =>
    cases i with
    | zero => simp at h; subst h; simp [used]; omega
    | succ i => have := ih (i := i) (by simpa using h); simp [used] at *; omega
theorem live_set {l : List Blk} {i : Nat} {b : Blk} (h : l[i]? = some b) (b' : Blk) : live (l.set i b') + (if b.freed = true then 0 else 1) = live l + (if b'.freed = true then 0 else 1) := by
  induction l generalizing i with
  | nil => simp at h
  | cons x l ih =>
    cases i with
    | zero =>
      simp at h; subst h
      cases hx : x.freed <;> cases hb : b'.freed <;> simp [live, List.filter_cons, hx, hb]
    | succ i =>
      have := ih (i := i) (by simpa using h)
      simp only [live, List.set_cons_succ, List.filter_cons] at *
      split
      · simp only [List.length_cons]; omega
      · omega
theorem live_le (l : List Blk) : live l ≤ l.length := List.length_filter_le _ _

/-- A block that can be: as many marks as words; none of either, if it is freed. -/
def Blk.ok (b : Blk) : Prop := b.set.length = b.words.length ∧ (b.freed = true → b.words = [])

structure Mem.ok (M : Mem) : Prop where
  room : M.room ≤ 1048576
  used : (used M.blocks : Int) ≤ M.room
  blk : ∀ (b : Blk), b ∈ M.blocks → b.ok

def Mem.blk (M : Mem) (a : Int) : Blk := M.blocks.getD (a - 1).toNat Blk.gone

/-- What is wrong with an address; 0: nothing. -/
def Mem.errb (M : Mem) (p : Wd) : Int :=
  if p.p = false then 11 else if p.a < 1 ∨ (M.blocks.length : Int) < p.a then 13 else if (M.blk p.a).freed = true then 12 else 0
def Mem.errp (M : Mem) (p : Wd) (n : Int) : Int :=
  if M.errb p = 0 then (if p.n < 0 ∨ ((M.blk p.a).words.length : Int) < n ∨ ((M.blk p.a).words.length : Int) - n < p.n then 13 else 0) else M.errb p

/-- A block's three cells in the row of blocks. -/
def Blk.at (w : World) (D : Nat → Prop) (arr : List Value) (wb zb : Nat → Nat) (i : Nat) (b : Blk) : Prop :=
  if b.freed = true then arr[i * 3]? = some (.slice none 0 0) ∧ arr[i * 3 + 1]? = some (.slice none 0 0) ∧ arr[i * 3 + 2]? = some (.bool true)
  else arr[i * 3]? = some (.slice (some ⟨wb i, 0, none⟩) b.words.length b.words.length) ∧ arr[i * 3 + 1]? = some (.slice (some ⟨zb i, 0, none⟩) b.words.length b.words.length) ∧ arr[i * 3 + 2]? = some (.bool false) ∧
    Row w (wb i) 38 (flat b.words) ∧ Row w (zb i) 4 (b.set.map Value.bool) ∧ D (wb i) ∧ D (zb i)

structure MemL (D : Nat → Prop) (w : World) (mb : Nat) (ao : Option Addr) (cap bb : Nat) (arr : List Value) (wb zb : Nat → Nat) (M : Mem) : Prop where
  head : Row w mb 120 [.int .i64 M.room, .int .i64 (used M.blocks), .int .i64 (live M.blocks), .slice ao M.blocks.length cap]
  own : D mb
  row : (ao = none ∧ cap = 0 ∧ M.blocks = []) ∨ (ao = some ⟨bb, 0, none⟩ ∧ Row w bb 125 arr ∧ arr.length = cap * 3 ∧ M.blocks.length ≤ cap ∧ cap ≤ maxLen ∧ D bb)
  blk : ∀ (i : Nat) (b : Blk), M.blocks[i]? = some b → b.at w D arr wb zb i
  one : ∀ (i j : Nat), i < M.blocks.length → j < M.blocks.length → i ≠ j → wb i ≠ wb j ∧ zb i ≠ zb j
  lt : ∀ (i : Nat), i < M.blocks.length → wb i < w.heap.size ∧ zb i < w.heap.size
  ok : M.ok

theorem Blk.at.fr {D E : Nat → Prop} {w w' : World} {arr : List Value} {wb zb : Nat → Nat} {i : Nat} {b : Blk} (h : b.at w D arr wb zb i) (f : Fr E w w') (hd : ∀ x, D x → ¬ E x) : b.at w' D arr wb zb i := by
  unfold Blk.at at *
  split at h
  · rename_i hf; rw [if_pos hf]; exact h
  · rename_i hf; rw [if_neg hf]; exact ⟨h.1, h.2.1, h.2.2.1, f.row h.2.2.2.1 (hd _ h.2.2.2.2.2.1), f.row h.2.2.2.2.1 (hd _ h.2.2.2.2.2.2), h.2.2.2.2.2⟩

/-- The memory is as it was, if none of its blocks may have changed. -/
theorem MemL.fr {D E : Nat → Prop} {w w' : World} {mb cap bb : Nat} {ao : Option Addr} {arr : List Value} {wb zb : Nat → Nat} {M : Mem}
    (h : MemL D w mb ao cap bb arr wb zb M) (f : Fr E w w') (hd : ∀ x, D x → ¬ E x) : MemL D w' mb ao cap bb arr wb zb M :=
  { h with
    head := f.row h.head (hd _ h.own)
    row := h.row.imp id fun ⟨h1, h2, h3, h4, h5, h6⟩ => ⟨h1, f.row h2 (hd _ h6), h3, h4, h5, h6⟩
    blk := fun i b hb => (h.blk i b hb).fr f hd
    lt := fun i hi => ⟨Nat.lt_of_lt_of_le (h.lt i hi).1 f.size, Nat.lt_of_lt_of_le (h.lt i hi).2 f.size⟩ }

end Go.Proofs.Ytlbomnbpahmphaa
