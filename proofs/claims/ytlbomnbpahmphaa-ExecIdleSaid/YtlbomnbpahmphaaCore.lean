/- Generic facts on whole blocks of cells: what a block holds, what a store, an allocation and a frame leave of it. No condition beyond those of each lemma. -/
import Derived.Test.YtlbomnbpahmphaaProg
import Derived.WalkKit
import Derived.WalkSpells
import Derived.WalkLawsBesides
import Derived.Deep.QuietTactic
import Derived.BigQuiet
import Derived.Deep.RegionHeld3
import Derived.Lib.Hide
import Derived.StillTailTactics
namespace Go.Proofs.Ytlbomnbpahmphaa
open Go.RowKit

/-- Block 'b' holds just these cells, of element type 'T', none of them frozen. -/
def Row (w : World) (b : Nat) (T : TypeId) (cs : List Value) : Prop := w.heap[b]? = some (.cells cs.toArray T (0, 0))

theorem Row.lt {w : World} {b : Nat} {T : TypeId} {cs : List Value} (h : Row w b T cs) : b < w.heap.size := lt_of_block h
theorem Row.cell {w : World} {b : Nat} {T : TypeId} {cs : List Value} (h : Row w b T cs) {o : Nat} {v : Value} (hv : cs[o]? = some v) : w.cell? ⟨b, o, none⟩ = some v := by
  unfold Row at h
  simp [World.cell?, h, hv]
theorem Row.frozen {w : World} {b : Nat} {T : TypeId} {cs : List Value} (h : Row w b T cs) (o : Nat) : w.frozen? ⟨b, o, none⟩ = false := by
  unfold Row at h
  simp [World.frozen?, h]
theorem Row.ne {w : World} {b b' : Nat} {T T' : TypeId} {cs cs' : List Value} (h : Row w b T cs) (h' : Row w b' T' cs') (hT : T ≠ T') : b ≠ b' := by
  rintro rfl
  unfold Row at h h'
  rw [h] at h'
  simp at h'
  exact hT h'.2
theorem Row.cong {w w' : World} {b : Nat} {T : TypeId} {cs : List Value} (h : Row w b T cs) (e : w'.heap[b]? = w.heap[b]?) : Row w' b T cs := e.trans h
theorem Row.drewN {w : World} {b : Nat} {T : TypeId} {cs : List Value} (h : Row w b T cs) (n : Nat) : Row (w.drewN n) b T cs := h
theorem Row.drew {w : World} {b : Nat} {T : TypeId} {cs : List Value} (h : Row w b T cs) : Row w.drew b T cs := h
theorem Row.alloc {w : World} {b : Nat} {T : TypeId} {cs : List Value} (h : Row w b T cs) (o : Obj) : Row (w.alloc o) b T cs :=
  h.cong (Below.heap_alloc w o b h.lt)
theorem Row.new (w : World) (c : Array Value) (T : TypeId) : Row (w.alloc (.cells c T)) w.heap.size T c.toList := by
  unfold Row; exact heap_alloc_new w _
theorem Row.set_same {w : World} {b : Nat} {T : TypeId} {cs : List Value} (h : Row w b T cs) (o : Nat) (v : Value) : Row (w.setCell ⟨b, o, none⟩ v) b T (cs.set o v) := by
  unfold Row at *
  simp [World.setCell, Array.getElem?_modify, h]
theorem Row.set_ne {w : World} {b : Nat} {T : TypeId} {cs : List Value} (h : Row w b T cs) {a : Addr} (hne : b ≠ a.block) (v : Value) : Row (w.setCell a v) b T cs :=
  h.cong (Below.heap_setCell w a v b hne)

/-- From 'w' to 'w'' no block is lost, and of the blocks of 'w' only those of 'D' may have changed. -/
structure Fr (D : Nat → Prop) (w w' : World) : Prop where
  os : w'.os = w.os
  tape : w'.tape = w.tape
  output : w'.output = w.output
  size : w.heap.size ≤ w'.heap.size
  keep : ∀ b, b < w.heap.size → ¬ D b → w'.heap[b]? = w.heap[b]?

def Non : Nat → Prop := fun _ => False

theorem Fr.refl (D : Nat → Prop) (w : World) : Fr D w w := ⟨rfl, rfl, rfl, Nat.le_refl _, fun _ _ _ => rfl⟩
/-- Behind a first step that changes D, a second that changes E, where E's blocks lay in D or were not there before. -/
theorem Fr.then {D E : Nat → Prop} {a b c : World} (h : Fr D a b) (k : Fr E b c) (he : ∀ x, x < a.heap.size → E x → D x) : Fr D a c :=
  ⟨k.os.trans h.os, k.tape.trans h.tape, k.output.trans h.output, Nat.le_trans h.size k.size, fun x hx hd => (k.keep x (Nat.lt_of_lt_of_le hx h.size) fun hE => hd (he x hx hE)).trans (h.keep x hx hd)⟩
theorem Fr.trans {D : Nat → Prop} {a b c : World} (h : Fr D a b) (k : Fr D b c) : Fr D a c := h.then k fun _ _ h => h
theorem Fr.mono {D D' : Nat → Prop} {w w' : World} (h : Fr D w w') (hd : ∀ b, b < w.heap.size → D b → D' b) : Fr D' w w' :=
  ⟨h.os, h.tape, h.output, h.size, fun b hb hn => h.keep b hb fun hD => hn (hd b hb hD)⟩
theorem Fr.drewN {D : Nat → Prop} {w w' : World} (h : Fr D w w') (n : Nat) : Fr D w (w'.drewN n) := ⟨h.os, h.tape, h.output, h.size, h.keep⟩
theorem Fr.drew {D : Nat → Prop} {w w' : World} (h : Fr D w w') : Fr D w w'.drew := ⟨h.os, h.tape, h.output, h.size, h.keep⟩
theorem Fr.drewl {D : Nat → Prop} {w w' : World} (h : Fr D w w') : Fr D w.drew w' := ⟨h.os, h.tape, h.output, h.size, h.keep⟩
theorem Fr.drewNl {D : Nat → Prop} {w w' : World} (h : Fr D w w') (n : Nat) : Fr D (w.drewN n) w' := ⟨h.os, h.tape, h.output, h.size, h.keep⟩
theorem Fr.alloc {D : Nat → Prop} {w w' : World} (h : Fr D w w') (o : Obj) : Fr D w (w'.alloc o) :=
  ⟨h.os, h.tape, h.output, by have := h.size; simp; omega, fun b hb hd => (Below.heap_alloc w' o b (Nat.lt_of_lt_of_le hb h.size)).trans (h.keep b hb hd)⟩
theorem Fr.setCell {D : Nat → Prop} {w w' : World} (h : Fr D w w') {a : Addr} (ha : D a.block ∨ w.heap.size ≤ a.block) (v : Value) : Fr D w (w'.setCell a v) :=
  ⟨h.os, h.tape, h.output, by have := h.size; simp; omega, fun b hb hd => (Below.heap_setCell w' a v b (by rintro rfl; rcases ha with h | h; exact hd h; omega)).trans (h.keep b hb hd)⟩
theorem Fr.row {D : Nat → Prop} {w w' : World} (h : Fr D w w') {b : Nat} {T : TypeId} {cs : List Value} (r : Row w b T cs) (hd : ¬ D b) : Row w' b T cs := r.cong (h.keep b r.lt hd)
theorem Fr.cell {D : Nat → Prop} {w w' : World} (h : Fr D w w') {b o : Nat} {v : Value} (hc : w.cell? ⟨b, o, none⟩ = some v) (hd : ¬ D b) : w'.cell? ⟨b, o, none⟩ = some v := by
  have hb : b < w.heap.size := World.block_lt_of_cell? w _ hc
  rw [← hc]; simp only [World.cell?, h.keep b hb hd]
theorem Fr.frozen {D : Nat → Prop} {w w' : World} (h : Fr D w w') {b o : Nat} (hb : b < w.heap.size) (hf : w.frozen? ⟨b, o, none⟩ = false) (hd : ¬ D b) : w'.frozen? ⟨b, o, none⟩ = false := by
  rw [← hf]; simp only [World.frozen?, h.keep b hb hd]
theorem Fr.new_cell {D : Nat → Prop} {w w' : World} {c : Array Value} {T : TypeId} (h : Fr D (w.alloc (.cells c T)) w') (hd : ¬ D w.heap.size) {o : Nat} {v : Value} (hv : c[o]? = some v) : w'.cell? ⟨w.heap.size, o, none⟩ = some v :=
  h.cell (by simp [hv]) hd
theorem Fr.new_frozen {D : Nat → Prop} {w w' : World} {c : Array Value} {T : TypeId} (h : Fr D (w.alloc (.cells c T)) w') (hd : ¬ D w.heap.size) (o : Nat) : w'.frozen? ⟨w.heap.size, o, none⟩ = false :=
  h.frozen (by simp) (by simp) hd
theorem Fr.new_row {D : Nat → Prop} {w w' : World} {c : Array Value} {T : TypeId} (h : Fr D (w.alloc (.cells c T)) w') (hd : ¬ D w.heap.size) : Row w' w.heap.size T c.toList :=
  h.row (Row.new w c T) hd
theorem row1 {w : World} {b : Nat} {T : TypeId} {x0 : Value} (h : Row w b T [x0]) : w.cell? ⟨b, 0, none⟩ = some x0 ∧ ∀ o, w.frozen? ⟨b, o, none⟩ = false :=
  ⟨h.cell rfl, h.frozen⟩
theorem row2 {w : World} {b : Nat} {T : TypeId} {x0 x1 : Value} (h : Row w b T [x0, x1]) : w.cell? ⟨b, 0, none⟩ = some x0 ∧ w.cell? ⟨b, 1, none⟩ = some x1 ∧ ∀ o, w.frozen? ⟨b, o, none⟩ = false :=
  ⟨h.cell rfl, h.cell rfl, h.frozen⟩
theorem row3 {w : World} {b : Nat} {T : TypeId} {x0 x1 x2 : Value} (h : Row w b T [x0, x1, x2]) : w.cell? ⟨b, 0, none⟩ = some x0 ∧ w.cell? ⟨b, 1, none⟩ = some x1 ∧ w.cell? ⟨b, 2, none⟩ = some x2 ∧ ∀ o, w.frozen? ⟨b, o, none⟩ = false :=
  ⟨h.cell rfl, h.cell rfl, h.cell rfl, h.frozen⟩
theorem row4 {w : World} {b : Nat} {T : TypeId} {x0 x1 x2 x3 : Value} (h : Row w b T [x0, x1, x2, x3]) : w.cell? ⟨b, 0, none⟩ = some x0 ∧ w.cell? ⟨b, 1, none⟩ = some x1 ∧ w.cell? ⟨b, 2, none⟩ = some x2 ∧ w.cell? ⟨b, 3, none⟩ = some x3 ∧ ∀ o, w.frozen? ⟨b, o, none⟩ = false :=
  ⟨h.cell rfl, h.cell rfl, h.cell rfl, h.cell rfl, h.frozen⟩
theorem row5 {w : World} {b : Nat} {T : TypeId} {x0 x1 x2 x3 x4 : Value} (h : Row w b T [x0, x1, x2, x3, x4]) : w.cell? ⟨b, 0, none⟩ = some x0 ∧ w.cell? ⟨b, 1, none⟩ = some x1 ∧ w.cell? ⟨b, 2, none⟩ = some x2 ∧ w.cell? ⟨b, 3, none⟩ = some x3 ∧ w.cell? ⟨b, 4, none⟩ = some x4 ∧ ∀ o, w.frozen? ⟨b, o, none⟩ = false :=
  ⟨h.cell rfl, h.cell rfl, h.cell rfl, h.cell rfl, h.cell rfl, h.frozen⟩
theorem Fr.new_row2 {D : Nat → Prop} {w w' : World} {c c' : Array Value} {T T' : TypeId} (h : Fr D ((w.alloc (.cells c T)).alloc (.cells c' T')) w') (hd : ¬ D w.heap.size) (hd' : ¬ D (w.heap.size + 1)) :
    Row w' w.heap.size T c.toList ∧ Row w' (w.heap.size + 1) T' c'.toList :=
  ⟨h.row ((Row.new w c T).alloc _) hd, by have := h.row (Row.new (w.alloc (.cells c T)) c' T') (by simpa using hd'); simpa using this⟩
theorem Fr.below {w w' : World} (h : Below w.heap.size w w') : Fr Non w w' := ⟨h.os, h.tape, h.output, h.size, fun b hb _ => h.block b hb⟩
theorem Fr.grown {D : Nat → Prop} {a w w' : World} {row : Option Nat} (h : Fr D a w) (hg : w.grownBy w' row) (hr : ∀ k, row = some k → D k ∨ a.heap.size ≤ k) : Fr D a w' :=
  ⟨hg.os.trans h.os, hg.tape.trans h.tape, hg.output.trans h.output, Nat.le_trans h.size hg.size, fun b hb hd => (hg.block b (Nat.lt_of_lt_of_le hb h.size) (by intro e; rcases hr b e.symm with h | h; exact hd h; omega)).trans (h.keep b hb hd)⟩

end Go.Proofs.Ytlbomnbpahmphaa
