/- Walk: 'ExecOnce': the whole law answers true. Conditions: the program, the bools, the acts, lie as they are read. Printed by geneonce.py. -/
import Derived.Test.YtlbomnbpahmphaaMb02
import Derived.Test.YtlbomnbpahmphaaMa48
import Derived.Test.YtlbomnbpahmphaaMa49
namespace Go.Proofs.Ytlbomnbpahmphaa
open Go.RowKit

theorem Own.put {w : World} {T : TypeId} {n c g : Nat} {cs : List Value} (h : Own w (.slice (some ⟨g, 0, none⟩) n c) T 1 n cs) (i : Nat) (v : Value) : Own (w.setCell ⟨g, i, none⟩ v) (.slice (some ⟨g, 0, none⟩) n c) T 1 n (cs.set i v) := by
  obtain ⟨_, h2⟩ := h
  rcases h2 with ⟨e, _⟩ | ⟨g', cap, cur, e, _, h3, h4, h5, h6, h7⟩
  · cases e
  · cases e
    have hr : Row w g T cur.toList := h3
    have := Own.mk (hr.set_same i v) (k := 1) (len := n) (cap := c) (by simpa using h6) h4 h5
    rw [List.take_set, h7] at this
    exact this
theorem getD_bool {l : List Bool} {i : Nat} {x : Bool} (h : l[i]? = some x) (d : Bool) : l.getD i d = x := by rw [List.getD_eq_getElem?_getD, h]; rfl

/-- What the law keeps lies in three rows of their own. -/
structure OnceI (w0 wr : World) (c : Ck) (v1 v2 v3 : Value) : Prop where
  o1 : Own wr v1 4 1 c.over.length (c.over.map Value.bool)
  o2 : Own wr v2 4 1 c.over.length (c.done.map Value.bool)
  o3 : Own wr v3 3 1 c.over.length (c.wit.map (Value.int .i64))
  d : c.done.length = c.over.length
  t : c.wit.length = c.over.length
  a : ∀ x, v1.ownBlock = some x → v2.ownBlock ≠ some x
  l1 : ∀ x, v1.ownBlock = some x → w0.heap.size ≤ x
  l2 : ∀ x, v2.ownBlock = some x → w0.heap.size ≤ x
  l3 : ∀ x, v3.ownBlock = some x → w0.heap.size ≤ x
  fr : Fr (fun x => w0.heap.size ≤ x) w0 wr
theorem OnceI.frN {w0 wr w' : World} {c : Ck} {v1 v2 v3 : Value} (h : OnceI w0 wr c v1 v2 v3) (f : Fr Non wr w') : OnceI w0 w' c v1 v2 v3 :=
  ⟨h.o1.fr f (fun _ _ => id), h.o2.fr f (fun _ _ => id), h.o3.fr f (fun _ _ => id), h.d, h.t, h.a, h.l1, h.l2, h.l3, h.fr.then f fun _ _ h => h.elim⟩
theorem Own.other {w : World} {v u : Value} {T T' : TypeId} {n k m j : Nat} {cs ds : List Value} (h : Own w v T k n cs) (g : Own w u T' j m ds) (hT : T ≠ T') : ∀ x, v.ownBlock = some x → u.ownBlock ≠ some x := fun x hx e => by
  obtain ⟨arr, hr⟩ := g.row e
  exact h.ne hr hT hx

section
variable {w0 wr : World} {c : Ck} {v1 v2 v3 : Value} {most : Int} {ek et ea en : Int} {c' : Ck}
/-- A cell of the first row is set; of the second; of the third. -/
theorem OnceI.set1 {n k g i : Nat} {x : Bool} (h : OnceI w0 wr c (.slice (some ⟨g, 0, none⟩) n k) v2 v3) (hn : n = c.over.length) : OnceI w0 (wr.setCell ⟨g, i, none⟩ (.bool x)) ⟨c.over.set i x, c.done, c.wit⟩ (.slice (some ⟨g, 0, none⟩) n k) v2 v3 := by
  have hf := Fr.set1 wr g i (.bool x)
  have ho := h.o1
  rw [← hn] at ho
  have h1 := ho.put i (.bool x)
  rw [← List.map_set] at h1
  refine ⟨?_, ?_, ?_, ?_, ?_, h.a, h.l1, h.l2, h.l3, h.fr.then hf (fun y _ e => by subst e; exact h.l1 _ rfl)⟩
  · simp only [List.length_set]; rw [← hn]; exact h1
  · simp only [List.length_set]; exact h.o2.fr hf (fun y hy e => by subst e; exact h.a _ rfl hy)
  · simp only [List.length_set]; exact h.o3.fr hf (fun y hy e => by subst e; exact ho.other h.o3 (by decide) _ rfl hy)
  · simp only [List.length_set]; exact h.d
  · simp only [List.length_set]; exact h.t
theorem OnceI.set2 {n k g i : Nat} {x : Bool} (h : OnceI w0 wr c v1 (.slice (some ⟨g, 0, none⟩) n k) v3) (hn : n = c.over.length) : OnceI w0 (wr.setCell ⟨g, i, none⟩ (.bool x)) ⟨c.over, c.done.set i x, c.wit⟩ v1 (.slice (some ⟨g, 0, none⟩) n k) v3 := by
  have hf := Fr.set1 wr g i (.bool x)
  have ho := h.o2
  rw [← hn] at ho
  have h1 := ho.put i (.bool x)
  rw [← List.map_set] at h1
  refine ⟨?_, ?_, ?_, ?_, ?_, h.a, h.l1, h.l2, h.l3, h.fr.then hf (fun y _ e => by subst e; exact h.l2 _ rfl)⟩
  · exact h.o1.fr hf (fun y hy e => by subst e; exact h.a _ hy rfl)
  · simp only; rw [← hn]; exact h1
  · exact h.o3.fr hf (fun y hy e => by subst e; exact ho.other h.o3 (by decide) _ rfl hy)
  · simp only [List.length_set]; exact h.d
  · exact h.t
theorem OnceI.set3 {n k g i : Nat} {x : Int} (h : OnceI w0 wr c v1 v2 (.slice (some ⟨g, 0, none⟩) n k)) (hn : n = c.over.length) : OnceI w0 (wr.setCell ⟨g, i, none⟩ (.int .i64 x)) ⟨c.over, c.done, c.wit.set i x⟩ v1 v2 (.slice (some ⟨g, 0, none⟩) n k) := by
  have hf := Fr.set1 wr g i (.int .i64 x)
  have ho := h.o3
  rw [← hn] at ho
  have h1 := ho.put i (.int .i64 x)
  rw [← List.map_set] at h1
  refine ⟨?_, ?_, ?_, ?_, ?_, h.a, h.l1, h.l2, h.l3, h.fr.then hf (fun y _ e => by subst e; exact h.l3 _ rfl)⟩
  · exact h.o1.fr hf (fun y hy e => by subst e; exact ho.other h.o1 (by decide) _ rfl hy)
  · exact h.o2.fr hf (fun y hy e => by subst e; exact ho.other h.o2 (by decide) _ rfl hy)
  · simp only; rw [← hn]; exact h1
  · exact h.d
  · simp only [List.length_set]; exact h.t

theorem OnceI.set7 {g1 g2 g3 k1 k2 k3 i : Nat} {x : Int} (h : OnceI w0 wr c (.slice (some ⟨g1, 0, none⟩) c.over.length k1) (.slice (some ⟨g2, 0, none⟩) c.over.length k2) (.slice (some ⟨g3, 0, none⟩) c.over.length k3)) :
    OnceI w0 (((wr.setCell ⟨g1, i, none⟩ (.bool true)).setCell ⟨g2, i, none⟩ (.bool true)).setCell ⟨g3, i, none⟩ (.int .i64 x)) ⟨c.over.set i true, c.done.set i true, c.wit.set i x⟩ (.slice (some ⟨g1, 0, none⟩) c.over.length k1) (.slice (some ⟨g2, 0, none⟩) c.over.length k2) (.slice (some ⟨g3, 0, none⟩) c.over.length k3) :=
  ((h.set1 (i := i) (x := true) rfl).set2 (i := i) (x := true) (by simp)).set3 (i := i) (x := x) (by simp)
theorem OnceI.keep2 {wa w5 : World} (h : OnceI w0 wr c v1 v2 v3) (f0 : Fr Non wr wa) (hf5 : Fr (fun x => v1.ownBlock = some x) wa w5) : Own w5 v2 4 1 c.over.length (c.done.map Value.bool) :=
  (h.o2.fr f0 (fun _ _ => id)).fr hf5 fun x hx e => h.a x e hx
theorem OnceI.keep3 {wa w5 wb w6 : World} (h : OnceI w0 wr c v1 v2 v3) (f0 : Fr Non wr wa) (hf5 : Fr (fun x => v1.ownBlock = some x) wa w5) (f1 : Fr Non w5 wb) (hf6 : Fr (fun x => v2.ownBlock = some x) wb w6) : Own w6 v3 3 1 c.over.length (c.wit.map (Value.int .i64)) :=
  (((h.o3.fr f0 (fun _ _ => id)).fr hf5 fun x hx e => h.o1.other h.o3 (by decide) x e hx).fr f1 (fun _ _ => id)).fr hf6 fun x hx e => h.o2.other h.o3 (by decide) x e hx
/-- Each of the three rows has one more. -/
theorem OnceI.spawn {wa w5 wb w6 wc w7 : World} {g5 g6 g7 k5 k6 k7 : Nat} (h : OnceI w0 wr c v1 v2 v3) (f0 : Fr Non wr wa)
    (ho5 : Own w5 (.slice (some ⟨g5, 0, none⟩) (c.over.length + 1) k5) 4 1 (c.over.length + 1) (c.over.map Value.bool ++ [.bool false])) (hf5 : Fr (fun x => v1.ownBlock = some x) wa w5) (hg5 : v1.ownBlock = some g5 ∨ g5 = wa.heap.size) (f1 : Fr Non w5 wb)
    (ho6 : Own w6 (.slice (some ⟨g6, 0, none⟩) (c.over.length + 1) k6) 4 1 (c.over.length + 1) (c.done.map Value.bool ++ [.bool false])) (hf6 : Fr (fun x => v2.ownBlock = some x) wb w6) (hg6 : v2.ownBlock = some g6 ∨ g6 = wb.heap.size) (f2 : Fr Non w6 wc)
    (ho7 : Own w7 (.slice (some ⟨g7, 0, none⟩) (c.over.length + 1) k7) 3 1 (c.over.length + 1) (c.wit.map (Value.int .i64) ++ [.int .i64 0])) (hf7 : Fr (fun x => v3.ownBlock = some x) wc w7) (hg7 : v3.ownBlock = some g7 ∨ g7 = wc.heap.size) :
    OnceI w0 w7 ⟨c.over ++ [false], c.done ++ [false], c.wit ++ [0]⟩ (.slice (some ⟨g5, 0, none⟩) (c.over.length + 1) k5) (.slice (some ⟨g6, 0, none⟩) (c.over.length + 1) k6) (.slice (some ⟨g7, 0, none⟩) (c.over.length + 1) k7) := by
  have s0 := f0.size
  have s5 := hf5.size
  have s1 := f1.size
  have s6 := hf6.size
  have s2 := f2.size
  have sr := h.fr.size
  have l5 : g5 < w5.heap.size := ho5.lt rfl
  have a5 : v2.ownBlock ≠ some g5 := fun e => by
    rcases hg5 with k | k
    · exact h.a _ k e
    · have := h.o2.lt e; omega
  have a6 : g5 ≠ g6 := fun e => by
    rcases hg6 with k | k
    · exact a5 (e ▸ k)
    · omega
  have m3 := h.keep3 f0 hf5 f1 hf6
  have m5 := ((ho5.fr f1 (fun _ _ => id)).fr hf6 fun x hx e => (by cases hx; exact a5 e)).fr f2 (fun _ _ => id)
  have m6 := ho6.fr f2 (fun _ _ => id)
  refine ⟨?_, ?_, ?_, by simp [h.d], by simp [h.t], fun x hx e => (by cases hx; cases e; exact a6 rfl), fun x hx => ?_, fun x hx => ?_, fun x hx => ?_, ?_⟩
  · simpa using m5.fr hf7 fun x hx e => m5.other (m3.fr f2 (fun _ _ => id)) (by decide) x hx e
  · simpa using m6.fr hf7 fun x hx e => m6.other (m3.fr f2 (fun _ _ => id)) (by decide) x hx e
  · simpa using ho7
  · cases hx
    rcases hg5 with k | k
    · exact h.l1 _ k
    · simp only; omega
  · cases hx
    rcases hg6 with k | k
    · exact h.l2 _ k
    · simp only; omega
  · cases hx
    rcases hg7 with k | k
    · exact h.l3 _ k
    · simp only; omega
  · exact (((((h.fr.then f0 fun _ _ h => h.elim).then hf5 fun x _ e => h.l1 x e).then f1 fun _ _ h => h.elim).then hf6 fun x _ e => h.l2 x e).then f2 fun _ _ h => h.elim).then hf7 fun x _ e => h.l3 x e

theorem ck_0 (h : ckE most c ⟨ek, et, ea, en⟩ = some c') (hk : ek = 0) : et = c.over.length ∧ ¬ most ≤ c.over.length ∧ c' = ⟨c.over ++ [false], c.done ++ [false], c.wit ++ [0]⟩ := by
  unfold ckE at h
  simp only at h
  rw [if_pos hk] at h
  split at h
  · cases h
  · rename_i h2
    cases h
    exact ⟨by omega, by omega, rfl⟩
theorem ck_y (h : ckE most c ⟨ek, et, ea, en⟩ = some c') (hk : ek = 4 ∨ ek = 6 ∨ ek = 8 ∨ ek = 9) : ∃ j : Nat, et = j ∧ c.over[j]? = some false ∧ c' = ⟨c.over.set j ((ek == 8) || (ek == 9)), c.done, c.wit⟩ := by
  unfold ckE at h
  simp only at h
  rw [if_neg (by omega), if_pos hk] at h
  split at h
  · cases h
  · rename_i h2
    cases h
    have hj : et.toNat < c.over.length := by omega
    refine ⟨et.toNat, by omega, ?_, rfl⟩
    rw [List.getElem?_eq_getElem hj]
    have h3 : ¬ c.over.getD et.toNat false = true := fun h => h2 (Or.inr (Or.inr h))
    rw [List.getD_eq_getElem?_getD, List.getElem?_eq_getElem hj] at h3
    simpa using h3
theorem ck_7 (h : ckE most c ⟨ek, et, ea, en⟩ = some c') (hd : c.done.length = c.over.length) (ht : c.wit.length = c.over.length) (hk : ek = 7) : ∃ (j : Nat) (o d : Bool) (t : Int), et = j ∧ c.over[j]? = some o ∧ c.done[j]? = some d ∧ c.wit[j]? = some t ∧ (o = true → d = true ∧ t = en) ∧ c' = ⟨c.over.set j true, c.done.set j true, c.wit.set j en⟩ := by
  unfold ckE at h
  simp only at h
  rw [if_neg (by omega), if_neg (by omega), if_pos hk] at h
  split at h
  · cases h
  · rename_i h2
    cases h
    have hj : et.toNat < c.over.length := by omega
    refine ⟨et.toNat, c.over[et.toNat], c.done[et.toNat]'(by omega), c.wit[et.toNat]'(by omega), by omega, List.getElem?_eq_getElem hj, List.getElem?_eq_getElem (by omega), List.getElem?_eq_getElem (by omega), fun ho => ?_, rfl⟩
    have h3 : ¬ (c.over.getD et.toNat false = true ∧ (c.done.getD et.toNat false = false ∨ c.wit.getD et.toNat 0 ≠ en)) := fun h => h2 (Or.inr (Or.inr h))
    rw [List.getD_eq_getElem?_getD, List.getElem?_eq_getElem hj, List.getD_eq_getElem?_getD, List.getElem?_eq_getElem (by omega), List.getD_eq_getElem?_getD, List.getElem?_eq_getElem (by omega)] at h3
    simp only [Option.getD_some] at h3
    refine ⟨?_, ?_⟩
    · cases hx : c.done[et.toNat]'(by omega) with
      | true => rfl
      | false => exact absurd ⟨ho, Or.inl hx⟩ h3
    · exact Classical.byContradiction fun hx => h3 ⟨ho, Or.inr hx⟩
theorem ck_x (h : ckE most c ⟨ek, et, ea, en⟩ = some c') (hk : ¬ ek = 0 ∧ ¬ ek = 4 ∧ ¬ ek = 6 ∧ ¬ ek = 8 ∧ ¬ ek = 9 ∧ ¬ ek = 7) : c' = c := by
  unfold ckE at h
  simp only at h
  rw [if_neg hk.1, if_neg (by omega), if_neg hk.2.2.2.2.2] at h
  cases h
  rfl
end

set_option maxRecDepth 100000 in
set_option maxHeartbeats 6000000 in
theorem once_c (w : World) (P : Pr) (v : Value) (hP : PrAt w.heap.size P w v) (opn : List Bool) (oo : Option Addr) (oc : Nat) (hopn : BoolsAt w.heap.size w oo opn) (ao : Option Addr) (ac : Nat) (l : List Ax) (hl : AxAt w.heap.size w ao l) (fuel words tasks : Int) :
    Calls Try.prog 6 #[v, .slice oo opn.length oc, .slice ao l.length ac, .int .i64 fuel, .int .i64 words, .int .i64 tasks] w fun e w' => e = .returned (.bool true) ∧ Fr Non w w' := by
  obtain ⟨fo, fc, co, cc, rfl, hfu, hco⟩ := hP.val
  have HH := Lib.hid (And.intro hP (And.intro hl hopn))
  clear hP hl hfu hco hopn
  have h0l : (0 : Int) ≤ (l.length : Int) := by omega
  go_enter Try.func6, Try.ntmps6
  go_wp2_with fail
  refine (works21_c _).mono ?_
  rintro e1 w1 ⟨rfl, hf1⟩
  have r7 : Row w1 w.heap.size 25 [.slice fo P.funs.length fc, .slice co P.cos.length cc] := hf1.new_row id
  have hf1' : Fr Non w w1 := Fr.trans (by exact (by repeat (first | exact .refl _ _ | assumption | apply Fr.drewN | apply Fr.drew | apply Fr.drewl | apply Fr.drewNl | apply Fr.alloc))) hf1
  have HF1 := Lib.hid hf1'
  obtain ⟨q0, q1, qz⟩ := row2 r7
  have R1 := Lib.hid r7
  clear hf1 hf1' r7
  have hOv := Lib.hid (over21_c (HH.out.1.fr HF1.out (high_non _)) ao l.length ac fuel words)
  go_wp2_with fail
  refine hOv.out.mono ?_
  rintro e2 w2 ⟨⟨b, rfl, hb40⟩, hf2⟩
  have HF2 := Lib.hid (HF1.out.trans hf2)
  have R2 := Lib.hid (hf2.row R1.out id)
  obtain ⟨p0, p1, pz⟩ := row2 R2.out
  clear hf2 q0 q1 qz hOv
  cases b with
  | true =>
    go_wp2_with fail
    go_ret
    exact ⟨rfl, HF2.out⟩
  | false =>
    obtain ⟨hl40, hf3000, _⟩ := hb40 rfl
    clear hb40
    have hs2 := HF2.out.size
    have hRa := Lib.hid fun wz (f : Fr Non w2 wz) => run_e wz P _ ((HH.out.1.fr (HF2.out.trans f) (high_non _)).up (by have := f.size; omega)) opn oo oc ((HH.out.2.2.fr (HF2.out.trans f) (high_non _)).up (by have := f.size; omega)) ao ac l ((HH.out.2.1.fr (HF2.out.trans f) (high_non _)).up (by have := f.size; omega)) (by omega) fuel words tasks hf3000
    have hO := once_x (P := P) (opn := opn) (fuel := fuel) (words := words) (tasks := tasks) l
    have hla := runX_len (P := P) (opn := opn) (words := words) (tasks := tasks) hf3000 l (by omega) HH.out.1.lab
    generalize runX P opn l fuel words tasks = T at *
    have HO := Lib.hid hO
    clear hO
    go_wp2_with fail
    refine (hRa.out _ (by exact (by repeat (first | exact .refl _ _ | assumption | apply Fr.drewN | apply Fr.drew | apply Fr.drewl | apply Fr.drewNl | apply Fr.alloc)))).mono ?_
    rintro e3 w3 ⟨ta, rfl, hoa, hga, hf3⟩
    have hf3' : Fr Non w2 w3 := Fr.trans (by exact (by repeat (first | exact .refl _ _ | assumption | apply Fr.drewN | apply Fr.drew | apply Fr.drewl | apply Fr.drewNl | apply Fr.alloc))) hf3
    obtain ⟨a1, c1, rfl, hc1, hm1, hz6, hz7⟩ := hoa.form
    clear hz6 hz7
    have hva := Lib.hid hoa.evs.2
    have H3 := Lib.hid (HF2.out.trans hf3')
    clear hoa hga hf3 hf3' p0 p1 pz hRa
    go_wp2_with fail
    have h3s := Lib.hid (Nat.le_refl w3.heap.size)
    go_loopw [16, 17, 18, 19, 20] (fun v16 v17 v18 v19 v20 wr => ∃ (i : Nat) (c : Ck), i ≤ T.length ∧ v20 = .int .i64 i ∧ v16 = .int .i64 c.over.length ∧ OnceI w3 wr c v17 v18 v19 ∧ c.over.length ≤ i ∧ ∃ cf, ckL (max tasks 0) c (T.drop i) = some cf) (fun _ _ _ _ v20 _ => T.length - (intOf v20).toNat)
    case atStart => exact ⟨0, ⟨[], [], []⟩, Nat.zero_le _, rfl, rfl, ⟨Own.nil _ _ _, Own.nil _ _ _, Own.nil _ _ _, rfl, rfl, (fun x hx => by cases hx), (fun x hx => by cases hx), (fun x hx => by cases hx), (fun x hx => by cases hx), by exact (by repeat (first | exact .refl _ _ | assumption | apply Fr.drewN | apply Fr.drew | apply Fr.drewl | apply Fr.drewNl | apply Fr.alloc))⟩, Nat.zero_le _, HO.out⟩
    case round =>
      obtain ⟨i, c, hi, rfl, rfl, hI, hci, cf, hck⟩ := hrel
      by_cases hlt : i < T.length
      · obtain ⟨x, hx⟩ : ∃ x, T[i]? = some x := ⟨T[i], List.getElem?_eq_getElem hlt⟩
        have hdrop : T.drop i = x :: T.drop (i + 1) := by
          rw [List.drop_eq_getElem_cons hlt]
          rw [List.getElem?_eq_getElem hlt] at hx
          cases hx
          rfl
        rw [hdrop, ckL] at hck
        obtain ⟨tg, to, rfl, htc⟩ := hva.out (by omega)
        obtain ⟨g0, g1, g2, g3⟩ := evs_get' hx
        have tl := World.block_lt_of_cell? _ _ (htc _ _ g0)
        simp only at tl
        have hfn := hI.fr
        have hnt : ¬ w3.heap.size ≤ tg := by omega
        have e0 := hfn.cell (htc _ _ g0) hnt
        have e1 := hfn.cell (htc _ _ g1) hnt
        have e2 := hfn.cell (htc _ _ g2) hnt
        have e3 := hfn.cell (htc _ _ g3) hnt
        rw [← Nat.add_assoc] at e1 e2 e3
        clear g0 g1 g2 g3 htc hnt hfn
        cases hce : ckE (max tasks 0) c x with
        | none => rw [hce] at hck; cases hck
        | some c2 =>
        rw [hce] at hck
        simp only at hck
        have HK := Lib.hid hck
        have hs3 := hI.fr.size
        obtain ⟨xk, xt, xa, xn⟩ := x
        simp only at e0 e1 e2 e3
        have hi0 : (0 : Int) ≤ (i : Int) := by omega
        have hi1 : (i : Int) < (T.length : Int) := by omega
        clear hck hdrop hx
        have hdl := hI.d
        have htl := hI.t
        clear HF1 R1 R2 hl40 hf3000 hs2 hc1 hm1 HO h0l h3s HF2 hva
        rcases (by omega : xk = 0 ∨ xk = 7 ∨ (xk = 4 ∨ xk = 6 ∨ xk = 8 ∨ xk = 9) ∨ (¬ xk = 0 ∧ ¬ xk = 4 ∧ ¬ xk = 6 ∧ ¬ xk = 8 ∧ ¬ xk = 9 ∧ ¬ xk = 7)) with hk | hk | hk | hk
        · obtain ⟨ht, hmo, rfl⟩ := ck_0 hce hk
          subst ht hk
          have dm : decide (max tasks 0 ≤ (c.over.length : Int)) = false := decide_eq_false hmo
          have dn : ((c.over.length : Int) != (c.over.length : Int)) = false := by simp
          obtain ⟨j0, hj, hj0, hj1, hj2⟩ := info_parts Try.infoBool
          obtain ⟨i0, hii, hz0, hz1, hz2⟩ := info_parts Try.infoInt
          have f0 : Fr Non wr ((wr.alloc (.cells #[.int .i64 0, .int .i64 (c.over.length : Int), .int .i64 xa, .int .i64 xn] 63)).alloc (.cells #[.bool false] 4)) := by exact (by repeat (first | exact .refl _ _ | assumption | apply Fr.drewN | apply Fr.drew | apply Fr.drewl | apply Fr.drewNl | apply Fr.alloc))
          obtain ⟨g5, k5, w5, run5, ho5, hf5, hg5, hlt5⟩ := run_app (P := Try.prog) (hI.o1.fr f0 (fun _ _ => id)) 55 55 j0 _ 1 Try.underlying55 hj hj0 hj1 hj2 rfl (by omega) (wr.heap.size + 1) 0 1 1 [Value.bool false] rfl (by exact (Row.new' (by simp)).news) (fun u hu => by simp at hu; subst hu; rfl) (by omega) (by omega) (by unfold maxLen; omega)
          have f1 : Fr Non w5 (w5.alloc (.cells #[.bool false] 4)) := by exact (by repeat (first | exact .refl _ _ | assumption | apply Fr.drewN | apply Fr.drew | apply Fr.drewl | apply Fr.drewNl | apply Fr.alloc))
          obtain ⟨g6, k6, w6, run6, ho6, hf6, hg6, hlt6⟩ := run_app (P := Try.prog) ((hI.keep2 f0 hf5).fr f1 (fun _ _ => id)) 55 55 j0 _ 1 Try.underlying55 hj hj0 hj1 hj2 rfl (by omega) w5.heap.size 0 1 1 [Value.bool false] rfl (by exact (Row.new' rfl).news) (fun u hu => by simp at hu; subst hu; rfl) (by omega) (by omega) (by unfold maxLen; omega)
          have f2 : Fr Non w6 (w6.alloc (.cells #[.int .i64 0] 3)) := by exact (by repeat (first | exact .refl _ _ | assumption | apply Fr.drewN | apply Fr.drew | apply Fr.drewl | apply Fr.drewNl | apply Fr.alloc))
          obtain ⟨g7, k7, w7, run7, ho7, hf7, hg7, hlt7⟩ := run_app (P := Try.prog) ((hI.keep3 f0 hf5 f1 hf6).fr f2 (fun _ _ => id)) 34 34 i0 _ 8 Try.underlying34 hii hz0 hz1 hz2 rfl (by omega) w6.heap.size 0 1 1 [Value.int .i64 0] rfl (by exact (Row.new' rfl).news) (fun u hu => by simp at hu; subst hu; rfl) (by omega) (by omega) (by unfold maxLen; omega)
          have hN := Lib.hid (hI.spawn f0 ho5 hf5 hg5 f1 ho6 hf6 hg6 f2 ho7 hf7 hg7)
          have hcl := Lib.hid hci
          clear hI ho5 hf5 hg5 ho6 hf6 hg6 ho7 hf7 hg7 f0 f1 f2 hce hmo hlt5 hlt6 hlt7 hdl htl hii hz0 hz1 hz2 hj hj0 hj1 hj2
          go_wp2_with (at_builtin; first | refine wpList_app rfl (.tmp 65) (.tmp 66) _ rfl rfl rfl _ rfl run5 ?_ | refine wpList_app rfl (.tmp 68) (.tmp 69) _ rfl rfl rfl _ rfl run6 ?_ | refine wpList_app rfl (.tmp 71) (.tmp 72) _ rfl rfl rfl _ rfl run7 ?_)
          exact ⟨⟨i + 1, ⟨c.over ++ [false], c.done ++ [false], c.wit ++ [0]⟩, by omega, by simp, by simp, hN.out.frN (by exact (by repeat (first | exact .refl _ _ | assumption | apply Fr.drewN | apply Fr.drew | apply Fr.drewl | apply Fr.drewNl | apply Fr.alloc))), by simp; omega, cf, HK.out⟩, by simp [intOf]; omega⟩
        · obtain ⟨j, o, d, t, ht, h1, h2, h3, hcond, rfl⟩ := ck_7 hce hdl htl hk
          subst ht hk
          have hjl := (List.getElem?_eq_some_iff.1 h1).1
          obtain ⟨a1, k1, rfl, hq1, hr1, hg1, hh1⟩ := hI.o1.form
          obtain ⟨g1, rfl⟩ := hg1 (by omega)
          have l1 : g1 < wr.heap.size := hI.o1.lt rfl
          obtain ⟨rr1, hrr1⟩ := hI.o1.row rfl
          have fz1 : ∀ o, wr.frozen? ⟨g1, o, none⟩ = false := hrr1.frozen
          clear hq1 hr1 hg1 hh1 hrr1
          obtain ⟨a2, k2, rfl, hq2, hr2, hg2, hh2⟩ := hI.o2.form
          obtain ⟨g2, rfl⟩ := hg2 (by omega)
          have l2 : g2 < wr.heap.size := hI.o2.lt rfl
          obtain ⟨rr2, hrr2⟩ := hI.o2.row rfl
          have fz2 : ∀ o, wr.frozen? ⟨g2, o, none⟩ = false := hrr2.frozen
          clear hq2 hr2 hg2 hh2 hrr2
          obtain ⟨a3, k3, rfl, hq3, hr3, hg3, hh3⟩ := hI.o3.form
          obtain ⟨g3, rfl⟩ := hg3 (by omega)
          have l3 : g3 < wr.heap.size := hI.o3.lt rfl
          obtain ⟨rr3, hrr3⟩ := hI.o3.row rfl
          have fz3 : ∀ o, wr.frozen? ⟨g3, o, none⟩ = false := hrr3.frozen
          clear hq3 hr3 hg3 hh3 hrr3
          have n21 : ¬ g2 = g1 := fun e => hI.a g1 rfl (e ▸ rfl)
          have n31 : ¬ g3 = g1 := fun e => hI.o1.other hI.o3 (by decide) g1 rfl (e ▸ rfl)
          have n32 : ¬ g3 = g2 := fun e => hI.o2.other hI.o3 (by decide) g2 rfl (e ▸ rfl)
          have c1 := hI.o1.cell rfl (show (c.over.map Value.bool)[j]? = some (.bool o) by simp [h1])
          have c2 := hI.o2.cell rfl (show (c.done.map Value.bool)[j]? = some (.bool d) by simp [h2])
          have c3 := hI.o3.cell rfl (show (c.wit.map (Value.int .i64))[j]? = some (.int .i64 t) by simp [h3])
          have hj0 : (0 : Int) ≤ (j : Int) := by omega
          have hj1 : (j : Int) < (c.over.length : Int) := by omega
          have dt0 : decide ((j : Int) < 0) = false := decide_eq_false (by omega)
          have dt1 : decide ((c.over.length : Int) ≤ (j : Int)) = false := decide_eq_false (by omega)
          have dt2 : decide (c.over.length ≤ j) = false := decide_eq_false (by omega)
          have HN := Lib.hid fun wz (f : Fr Non wr wz) => (hI.frN f).set7 (i := j) (x := xn)
          clear hce h1 h2 h3 hdl htl
          cases o with
          | false =>
            clear hcond
            clear hI
            go_wp2_with fail
            go_quiet (fail)
            go_wp2_with fail
            exact ⟨⟨i + 1, _, by omega, by simp, by simp, HN.out _ (by exact (by repeat (first | exact .refl _ _ | assumption | apply Fr.drewN | apply Fr.drew | apply Fr.drewl | apply Fr.drewNl | apply Fr.alloc))), by simp; omega, cf, HK.out⟩, by simp [intOf]; omega⟩
          | true =>
            obtain ⟨rfl, rfl⟩ := hcond rfl
            have dne : (t != t) = false := by simp
            clear hI
            go_wp2_with fail
            go_quiet (fail)
            go_wp2_with fail
            exact ⟨⟨i + 1, _, by omega, by simp, by simp, HN.out _ (by exact (by repeat (first | exact .refl _ _ | assumption | apply Fr.drewN | apply Fr.drew | apply Fr.drewl | apply Fr.drewNl | apply Fr.alloc))), by simp; omega, cf, HK.out⟩, by simp [intOf]; omega⟩
        · obtain ⟨j, ht, hoj, rfl⟩ := ck_y hce hk
          subst ht
          have hjl := (List.getElem?_eq_some_iff.1 hoj).1
          obtain ⟨a1, k1, rfl, hq1, hr1, hg1, hh1⟩ := hI.o1.form
          obtain ⟨g1, rfl⟩ := hg1 (by omega)
          have l1 : g1 < wr.heap.size := hI.o1.lt rfl
          obtain ⟨rr1, hrr1⟩ := hI.o1.row rfl
          have fz1 : ∀ o, wr.frozen? ⟨g1, o, none⟩ = false := hrr1.frozen
          clear hq1 hr1 hg1 hh1 hrr1
          have co := hI.o1.cell rfl (show (c.over.map Value.bool)[j]? = some (.bool false) by simp [hoj])
          have hj0 : (0 : Int) ≤ (j : Int) := by omega
          have hj1 : (j : Int) < (c.over.length : Int) := by omega
          have dt0 : decide ((j : Int) < 0) = false := decide_eq_false (by omega)
          have dt1 : decide ((c.over.length : Int) ≤ (j : Int)) = false := decide_eq_false (by omega)
          have dt2 : decide (c.over.length ≤ j) = false := decide_eq_false (by omega)
          clear hce hoj hdl htl
          rcases hk with rfl | rfl | rfl | rfl
          · have HN := Lib.hid (hI.set1 (i := j) (x := false) rfl)
            clear hI
            go_wp2_with fail
            exact ⟨⟨i + 1, _, by omega, by simp, by simp, HN.out.frN (by exact (by repeat (first | exact .refl _ _ | assumption | apply Fr.drewN | apply Fr.drew | apply Fr.drewl | apply Fr.drewNl | apply Fr.alloc))), by simp; omega, cf, HK.out⟩, by simp [intOf]; omega⟩
          · have HN := Lib.hid (hI.set1 (i := j) (x := false) rfl)
            clear hI
            go_wp2_with fail
            exact ⟨⟨i + 1, _, by omega, by simp, by simp, HN.out.frN (by exact (by repeat (first | exact .refl _ _ | assumption | apply Fr.drewN | apply Fr.drew | apply Fr.drewl | apply Fr.drewNl | apply Fr.alloc))), by simp; omega, cf, HK.out⟩, by simp [intOf]; omega⟩
          · have HN := Lib.hid (hI.set1 (i := j) (x := true) rfl)
            clear hI
            go_wp2_with fail
            exact ⟨⟨i + 1, _, by omega, by simp, by simp, HN.out.frN (by exact (by repeat (first | exact .refl _ _ | assumption | apply Fr.drewN | apply Fr.drew | apply Fr.drewl | apply Fr.drewNl | apply Fr.alloc))), by simp; omega, cf, HK.out⟩, by simp [intOf]; omega⟩
          · have HN := Lib.hid (hI.set1 (i := j) (x := true) rfl)
            clear hI
            go_wp2_with fail
            exact ⟨⟨i + 1, _, by omega, by simp, by simp, HN.out.frN (by exact (by repeat (first | exact .refl _ _ | assumption | apply Fr.drewN | apply Fr.drew | apply Fr.drewl | apply Fr.drewNl | apply Fr.alloc))), by simp; omega, cf, HK.out⟩, by simp [intOf]; omega⟩
        · obtain rfl := ck_x hce hk
          obtain ⟨n0, n4, n6, n8, n9, n7⟩ := hk
          have d0 : (xk == 0) = false := beq_false_of_ne n0
          have d4 : (xk == 4) = false := beq_false_of_ne n4
          have d6 : (xk == 6) = false := beq_false_of_ne n6
          have d8 : (xk == 8) = false := beq_false_of_ne n8
          have d9 : (xk == 9) = false := beq_false_of_ne n9
          have d7 : (xk == 7) = false := beq_false_of_ne n7
          have hN := Lib.hid hI
          clear hI hce n0 n4 n6 n8 n9 n7 hdl htl
          go_wp2_with fail
          exact ⟨⟨i + 1, c2, by omega, by simp, rfl, hN.out.frN (by exact (by repeat (first | exact .refl _ _ | assumption | apply Fr.drewN | apply Fr.drew | apply Fr.drewl | apply Fr.drewNl | apply Fr.alloc))), by omega, cf, HK.out⟩, by simp [intOf]; omega⟩
      · obtain rfl : i = T.length := by omega
        have HI := Lib.hid hI
        clear hI hck
        go_wp2_with fail
        go_ret
        exact ⟨rfl, H3.out.trans ((HI.out.fr.mono (fun x hx e => by omega)).trans (by exact (by repeat (first | exact .refl _ _ | assumption | apply Fr.drewN | apply Fr.drew | apply Fr.drewl | apply Fr.drewNl | apply Fr.alloc))))⟩

end Go.Proofs.Ytlbomnbpahmphaa
