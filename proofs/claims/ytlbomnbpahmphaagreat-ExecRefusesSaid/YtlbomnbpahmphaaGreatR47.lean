/- Rows of acts that are put together. Conditions: those of each lemma. -/
import Derived.Test.YtlbomnbpahmphaaGreatR46
import Derived.Test.YtlbomnbpahmphaaGreatR24
namespace Go.Proofs.YtlbomnbpahmphaaGreat
open Go.RowKit

theorem Tryz.infoAct2 : (Tryz.prog.info? 69).map (fun i => (i.zero, i.size, i.bytes)) = some (some (.agg #[.int .i64 0, .int .i64 0, .int .i64 0, .slice none 0 0]), 4, 48) := by kernel_rfl

/-- An act, with where its arguments lie. -/
structure Ay where
 x : Ax
 la : Option Addr
 lc : Nat
def Ay.cs (y : Ay) : List Value := [.int .i64 y.x.k, .int .i64 y.x.a, .int .i64 y.x.n, .slice y.la y.x.args.length y.lc]
def ays (l : List Ay) : List Value := l.flatMap Ay.cs
theorem ays_cons (y : Ay) (l : List Ay) : ays (y :: l) = .int .i64 y.x.k :: .int .i64 y.x.a :: .int .i64 y.x.n :: .slice y.la y.x.args.length y.lc :: ays l := rfl
theorem ays_append (l m : List Ay) : ays (l ++ m) = ays l ++ ays m := by simp [ays]
theorem ays_len : ∀ l : List Ay, (ays l).length = l.length * 4
 | [] => rfl
 | y :: l => by
  rw [ays_cons]
  simp only [List.length_cons, ays_len l]
  omega
theorem ays_one : ∀ l : List Ay, ∀ u ∈ ays l, u.oneCell' = true
 | [], u, hu => by cases hu
 | y :: l, u, hu => by
  rw [ays_cons] at hu
  simp only [List.mem_cons] at hu
  rcases hu with rfl | rfl | rfl | rfl | hu
  · rfl
  · rfl
  · rfl
  · rfl
  · exact ays_one l u hu
theorem ays_get : ∀ {l : List Ay} {i : Nat} {y : Ay}, l[i]? = some y → (ays l)[i * 4]? = some (.int .i64 y.x.k) ∧ (ays l)[i * 4 + 1]? = some (.int .i64 y.x.a) ∧ (ays l)[i * 4 + 2]? = some (.int .i64 y.x.n) ∧ (ays l)[i * 4 + 3]? = some (.slice y.la y.x.args.length y.lc)
 | [], i, y, h => by simp at h
 | z :: l, 0, y, h => by
  simp at h
  subst h
  simp [ays_cons]
 | z :: l, i + 1, y, h => by
  have := ays_get (l := l) (i := i) (y := y) (by simpa using h)
  rw [ays_cons, show (i + 1) * 4 = i * 4 + 4 by omega]
  exact this

section
variable {base : Nat} {w w' : World} {ao : Option Addr}
theorem ay_of : ∀ (l : List Ax) (b o : Nat), (∀ (i : Nat) (x : Ax), l[i]? = some x → ∃ la lc, CB base w b (o + i * 4) (.int .i64 x.k) ∧ CB base w b (o + i * 4 + 1) (.int .i64 x.a) ∧ CB base w b (o + i * 4 + 2) (.int .i64 x.n) ∧ CB base w b (o + i * 4 + 3) (.slice la x.args.length lc) ∧ IntsAt base w la x.args) →
 ∃ ys : List Ay, ys.map Ay.x = l ∧ (∀ (j : Nat) (u : Value), (ays ys)[j]? = some u → CB base w b (o + j) u) ∧ ∀ y ∈ ys, IntsAt base w y.la y.x.args
 | [], _, _, _ => ⟨[], rfl, (fun j u hu => by simp [ays] at hu), (fun y hy => by cases hy)⟩
 | x :: l, b, o, h => by
  obtain ⟨la, lc, h0, h1, h2, h3, h4⟩ := h 0 x rfl
  obtain ⟨ys, e, hc, hi⟩ := ay_of l b (o + 4) fun i y hy => by
   obtain ⟨la, lc, g0, g1, g2, g3, g4⟩ := h (i + 1) y (by simpa using hy)
   rw [show o + (i + 1) * 4 = o + 4 + i * 4 by omega] at g0 g1 g2 g3
   exact ⟨la, lc, g0, g1, g2, g3, g4⟩
  refine ⟨⟨x, la, lc⟩ :: ys, by simp [e], fun j u hu => ?_, fun y hy => ?_⟩
  · rw [ays_cons] at hu
    match j, hu with
    | 0, hu => cases hu; simpa using h0
    | 1, hu => cases hu; simpa using h1
    | 2, hu => cases hu; simpa using h2
    | 3, hu => cases hu; simpa using h3
    | j + 4, hu =>
     have := hc j u (by simpa using hu)
     rw [show o + 4 + j = o + (j + 4) by omega] at this
     exact this
  · rcases List.mem_cons.1 hy with rfl | hy
    · exact h4
    · exact hi y hy
/-- The acts lie at their cells. -/
def AyLie (base : Nat) (w : World) (ao : Option Addr) (ys : List Ay) : Prop := 0 < ys.length → ∃ b o, ao = some ⟨b, o, none⟩ ∧ ∀ (j : Nat) (u : Value), (ays ys)[j]? = some u → CB base w b (o + j) u
theorem ay_at {l : List Ax} (h : AxAt base w ao l) : ∃ ys : List Ay, ys.map Ay.x = l ∧ AyLie base w ao ys ∧ ∀ y ∈ ys, IntsAt base w y.la y.x.args := by
 cases l with
 | nil => exact ⟨[], rfl, (fun h => by simp at h), (fun y hy => by cases hy)⟩
 | cons x l =>
  obtain ⟨b, o, la, lc, e, _⟩ := h 0 x rfl
  obtain ⟨ys, h1, h2, h3⟩ := ay_of (base := base) (w := w) (x :: l) b o fun i y hy => by
   obtain ⟨b', o', la, lc, e', g0, g1, g2, g3, g4⟩ := h i y hy
   rw [e] at e'
   cases e'
   exact ⟨la, lc, g0, g1, g2, g3, g4⟩
  exact ⟨ys, h1, fun _ => ⟨b, o, e, h2⟩, h3⟩
theorem ax_of {ys : List Ay} {c : Nat} (h : Own w (.slice ao ys.length c) 69 4 ys.length (ays ys)) (hb : ∀ g, (Value.slice ao ys.length c).ownBlock = some g → g < base) (hi : ∀ y ∈ ys, IntsAt base w y.la y.x.args) : AxAt base w ao (ys.map Ay.x) := fun i x hx => by
 rw [List.getElem?_map] at hx
 cases hy : ys[i]? with
 | none => rw [hy] at hx; cases hx
 | some y =>
  rw [hy] at hx
  cases hx
  obtain ⟨_, _, e, _, _, hg, _⟩ := h.form
  cases e
  obtain ⟨g, rfl⟩ := hg (by have := (List.getElem?_eq_some_iff.1 hy).1; omega)
  have hl := hb g rfl
  obtain ⟨g0, g1, g2, g3⟩ := ays_get hy
  refine ⟨g, 0, y.la, y.lc, rfl, ⟨hl, ?_⟩, ⟨hl, ?_⟩, ⟨hl, ?_⟩, ⟨hl, ?_⟩, hi y (List.mem_of_getElem? hy)⟩
  · rw [Nat.zero_add]; exact h.cell rfl g0
  · rw [Nat.zero_add]; exact h.cell rfl g1
  · rw [Nat.zero_add]; exact h.cell rfl g2
  · rw [Nat.zero_add]; exact h.cell rfl g3

/-- A row of acts of its own. -/
structure Rw (base : Nat) (w : World) (v : Value) (ys : List Ay) : Prop where
 own : Own w v 69 4 ys.length (ays ys)
 low : ∀ g, v.ownBlock = some g → base ≤ g
theorem Rw.fr {E : Nat → Prop} {v : Value} {ys : List Ay} (h : Rw base w v ys) (f : Fr E w w') (hE : ∀ g, v.ownBlock = some g → ¬ E g) : Rw base w' v ys := ⟨h.own.fr f hE, h.low⟩
theorem Rw.nil (base : Nat) (w : World) : Rw base w (.slice none 0 0) [] := ⟨Own.nil _ _ _, (fun g hg => by cases hg)⟩

/-- Acts are put behind others. -/
theorem rw_app {v : Value} {ys zs : List Ay} (h : Rw base w v ys) (hw : base ≤ w.heap.size) (so : Option Addr) (m c : Nat) (hm : zs.length = m) (hs : 0 < m → ∃ b o, so = some ⟨b, o, none⟩ ∧ ∀ (j : Nat) (u : Value), (ays zs)[j]? = some u → w.cell? ⟨b, o + j, none⟩ = some u) (hb : ys.length + m ≤ 1000) :
 ∃ x c' w', (Builtin.append_ #[65, 65] 65 #[v, .slice so m c]).run Tryz.prog w = .ok (.slice x (ys.length + m) c') w' ∧ Rw base w' (.slice x (ys.length + m) c') (ys ++ zs) ∧ Fr (fun x => v.ownBlock = some x) w w' ∧ (∀ g, (Value.slice x (ys.length + m) c').ownBlock = some g → v.ownBlock = some g ∨ w.heap.size ≤ g) := by
 obtain ⟨i0, hii, hz0, hz1, hz2⟩ := info_parts Tryz.infoAct2
 by_cases h0 : 0 < m
 · obtain ⟨b, o, rfl, hc⟩ := hs h0
   obtain ⟨g, cap, w', hr, ho, hf, hg, _⟩ := run_app (P := Tryz.prog) h.own 65 65 i0 _ 48 Tryz.underlying65 hii hz0 hz1 hz2 rfl (by omega) b o m c (ays zs) (by rw [ays_len, hm]) hc (ays_one zs) h0 (by omega) (by unfold maxLen; omega)
   refine ⟨_, cap, w', hr, ⟨?_, fun g' hg' => ?_⟩, hf, fun g' hg' => ?_⟩
   · rw [List.length_append, hm, ays_append]
     exact ho
   · cases hg'
     rcases hg with k | k
     · exact h.low _ k
     · rw [k]; exact hw
   · cases hg'
     rcases hg with k | k
     · exact Or.inl k
     · right; rw [k]; exact Nat.le_refl _
 · obtain rfl : m = 0 := by omega
   obtain rfl : zs = [] := List.eq_nil_of_length_eq_zero hm
   obtain ⟨xo, xc, rfl, hx, _, _, _⟩ := h.own.form
   refine ⟨xo, xc, w, ?_, ?_, Fr.refl _ _, fun g hg => Or.inl hg⟩
   · exact run_app0 w 65 65 69 i0 Tryz.underlying65 hii xo so ys.length xc c hx
   · rw [List.append_nil]
     exact h
end

end Go.Proofs.YtlbomnbpahmphaaGreat
