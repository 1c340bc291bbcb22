/- The six appends of the law of waking. Conditions: the acts lie as they are read. -/
import Derived.Test.YtlbomnbpahmphaaMc02
import Derived.Test.YtlbomnbpahmphaaMc03
import Derived.Test.YtlbomnbpahmphaaMa49
namespace Go.Proofs.Ytlbomnbpahmphaa
open Go.RowKit

def wakeY (task : Int) : Ay := ⟨⟨3, task, 0, []⟩, none, 0⟩

/-- The two rows of acts that the law puts together: each of its six 'append's, and what they leave. -/
theorem wake_runs {base : Nat} {w : World} (hw : base ≤ w.heap.size) (ys zs : List Ay) (ao bo : Option Addr) (ac bc k r : Nat) (hk : ys.length = k) (hr : zs.length = r) (hb : k + r ≤ 100) (task : Int)
    (hy : AyLie base w ao ys) (hz : AyLie base w bo zs) :
    ∃ (x1 : Option Addr) (c1 : Nat) (wA : World) (x2 : Option Addr) (c2 : Nat) (wB : World) (x3 : Option Addr) (c3 : Nat) (wC : World) (x4 : Option Addr) (c4 : Nat) (wD : World) (x5 : Option Addr) (c5 : Nat) (wE : World) (x6 : Option Addr) (c6 : Nat) (wF : World),
      (Builtin.append_ #[56, 56] 56 #[.slice none 0 0, .slice ao k ac]).run Try.prog w = .ok (.slice x1 k c1) wA ∧
      (Builtin.append_ #[56, 56] 56 #[.slice x1 k c1, .slice (some ⟨wA.heap.size, 0, none⟩) 1 1]).run Try.prog (wA.alloc (.cells #[.int .i64 3, .int .i64 task, .int .i64 0, .slice none 0 0] 67)) = .ok (.slice x2 (k + 1) c2) wB ∧
      (Builtin.append_ #[56, 56] 56 #[.slice none 0 0, .slice x2 (k + 1) c2]).run Try.prog wB = .ok (.slice x3 (k + 1) c3) wC ∧
      (Builtin.append_ #[56, 56] 56 #[.slice x3 (k + 1) c3, .slice (some ⟨wC.heap.size, 0, none⟩) 1 1]).run Try.prog (wC.alloc (.cells #[.int .i64 3, .int .i64 task, .int .i64 0, .slice none 0 0] 67)) = .ok (.slice x4 (k + 2) c4) wD ∧
      (Builtin.append_ #[56, 56] 56 #[.slice x2 (k + 1) c2, .slice bo r bc]).run Try.prog wD = .ok (.slice x5 (k + 1 + r) c5) wE ∧
      (Builtin.append_ #[56, 56] 56 #[.slice x4 (k + 2) c4, .slice bo r bc]).run Try.prog wE = .ok (.slice x6 (k + 2 + r) c6) wF ∧
      Rw base wF (.slice x5 (k + 1 + r) c5) (ys ++ [wakeY task] ++ zs) ∧ Rw base wF (.slice x6 (k + 2 + r) c6) (ys ++ [wakeY task, wakeY task] ++ zs) ∧ Fr (fun x => base ≤ x) w wF := by
  have one : ∀ W : World, 0 < 1 → ∃ b o, some (⟨W.heap.size, 0, none⟩ : Addr) = some ⟨b, o, none⟩ ∧ ∀ (j : Nat) (u : Value), (ays [wakeY task])[j]? = some u → (W.alloc (.cells #[.int .i64 3, .int .i64 task, .int .i64 0, .slice none 0 0] 67)).cell? ⟨b, o + j, none⟩ = some u :=
    fun W _ => ⟨_, 0, rfl, (Row.new' rfl).news⟩
  have oneF : ∀ W : World, Fr Non W (W.alloc (.cells #[.int .i64 3, .int .i64 task, .int .i64 0, .slice none 0 0] 67)) := fun W => (Fr.refl _ _).alloc _
  have lieF : ∀ {W W' : World} {o : Option Addr} {l : List Ay}, AyLie base W o l → Fr (fun x => base ≤ x) W W' → AyLie base W' o l := fun h f h0 => by
    obtain ⟨b, o, e, hc⟩ := h h0
    exact ⟨b, o, e, fun j u hu => (hc j u hu).fr f fun x h => h⟩
  have lieC : ∀ {W : World} {o : Option Addr} {l : List Ay} {n : Nat}, AyLie base W o l → l.length = n → 0 < n → ∃ b o', o = some ⟨b, o', none⟩ ∧ ∀ (j : Nat) (u : Value), (ays l)[j]? = some u → W.cell? ⟨b, o' + j, none⟩ = some u := fun h e h0 => by
    obtain ⟨b, o, e, hc⟩ := h (by omega)
    exact ⟨b, o, e, fun j u hu => (hc j u hu).2⟩
  have ownC : ∀ {W : World} {x : Option Addr} {n c : Nat} {l : List Ay}, Rw base W (.slice x n c) l → l.length = n → 0 < n → ∃ b o, x = some ⟨b, o, none⟩ ∧ ∀ (j : Nat) (u : Value), (ays l)[j]? = some u → W.cell? ⟨b, o + j, none⟩ = some u := fun h e h0 => by
    have ho := h.own
    rw [e] at ho
    obtain ⟨_, _, e, _, _, hg, _⟩ := ho.form
    cases e
    obtain ⟨g, rfl⟩ := hg h0
    exact ⟨g, 0, rfl, fun j u hu => by rw [Nat.zero_add]; exact ho.cell rfl hu⟩
  obtain ⟨x1, c1, wA, r1, o1, f1, g1⟩ := rw_app (Rw.nil base w) hw ao k ac hk (lieC hy hk) (by simp; omega)
  simp only [List.length_nil, Nat.zero_add, List.nil_append] at r1 o1 g1
  have sA := f1.size
  have F1 : Fr (fun x => base ≤ x) w wA := f1.mono fun x _ e => by cases e
  obtain ⟨x2, c2, wB, r2, o2, f2, g2⟩ := rw_app (o1.fr (oneF wA) fun _ _ h => h) (by simp; omega) _ 1 1 (zs := [wakeY task]) rfl (one wA) (by omega)
  rw [hk] at r2 o2 g2
  have sB := f2.size
  simp only [World.size_alloc] at sB
  have F2 : Fr (fun x => base ≤ x) w wB := (F1.then (oneF wA) fun _ _ h => h.elim).then f2 fun x _ e => o1.low x e
  have l2 : (ys ++ [wakeY task]).length = k + 1 := by simp [hk]
  obtain ⟨x3, c3, wC, r3, o3, f3, g3⟩ := rw_app (Rw.nil base wB) (by omega) x2 (k + 1) c2 l2 (ownC o2 l2) (by simp; omega)
  simp only [List.length_nil, Nat.zero_add, List.nil_append] at r3 o3 g3
  have sC := f3.size
  have F3 : Fr (fun x => base ≤ x) w wC := F2.then f3 fun x _ e => by cases e
  have o2C := o2.fr f3 fun g _ e => by cases e
  have a3 : ∀ g, (Value.slice x3 (k + 1) c3).ownBlock = some g → wB.heap.size ≤ g := fun g hg => by
    rcases g3 g hg with e | e
    · cases e
    · exact e
  obtain ⟨x4, c4, wD, r4, o4, f4, g4⟩ := rw_app (o3.fr (oneF wC) fun _ _ h => h) (by simp; omega) _ 1 1 (zs := [wakeY task]) rfl (one wC) (by simp; omega)
  rw [l2] at r4 o4 g4
  rw [show k + 1 + 1 = k + 2 by omega] at r4 o4 g4
  have e4 : ys ++ [wakeY task] ++ [wakeY task] = ys ++ [wakeY task, wakeY task] := by simp
  rw [e4] at o4
  have l4 : (ys ++ [wakeY task, wakeY task]).length = k + 2 := by simp [hk]
  have sD := f4.size
  simp only [World.size_alloc] at sD
  have F4 : Fr (fun x => base ≤ x) w wD := (F3.then (oneF wC) fun _ _ h => h.elim).then f4 fun x _ e => o3.low x e
  have lt2 : ∀ g, (Value.slice x2 (k + 1) c2).ownBlock = some g → g < wB.heap.size := fun g hg => o2.own.lt hg
  have o2D := (o2C.fr (oneF wC) fun _ _ h => h).fr f4 fun g hg e => by have := lt2 g hg; have := a3 g e; omega
  have a4 : ∀ g, (Value.slice x4 (k + 2) c4).ownBlock = some g → wB.heap.size ≤ g := fun g hg => by
    rcases g4 g hg with e | e
    · exact a3 g e
    · simp only [World.size_alloc] at e; omega
  obtain ⟨x5, c5, wE, r5, o5, f5, g5⟩ := rw_app o2D (by omega) bo r bc hr (lieC (lieF hz F4) hr) (by simp; omega)
  rw [l2] at r5 o5 g5
  have sE := f5.size
  have F5 : Fr (fun x => base ≤ x) w wE := F4.then f5 fun x _ e => o2.low x e
  have o4E := o4.fr f5 fun g hg e => by have := lt2 g e; have := a4 g hg; omega
  obtain ⟨x6, c6, wF, r6, o6, f6, g6⟩ := rw_app o4E (by omega) bo r bc hr (lieC (lieF hz F5) hr) (by simp; omega)
  rw [l4] at r6 o6 g6
  have F6 : Fr (fun x => base ≤ x) w wF := F5.then f6 fun x _ e => o4.low x e
  have o5F := o5.fr f6 fun g hg e => by
    have h4 := a4 g e
    rcases g5 g hg with k | k
    · have := lt2 g k; omega
    · have := o4.own.lt e; omega
  exact ⟨x1, c1, wA, x2, c2, wB, x3, c3, wC, x4, c4, wD, x5, c5, wE, x6, c6, wF, r1, r2, r3, r4, r5, r6, o5F, o6, F6⟩

end Go.Proofs.Ytlbomnbpahmphaa

/- Walk: 'ExecWakes': the whole law answers true. Conditions: the program, the bools, the acts, lie as they are read. -/
namespace Go.Proofs.Ytlbomnbpahmphaa
open Go.RowKit

theorem Evs.beg {w : World} {a : Option Addr} {l m : List Ev} (h : Evs w a (l ++ m)) : Evs w a l := fun h0 => by
  obtain ⟨b, o, e, hc⟩ := h (by simp; omega)
  refine ⟨b, o, e, fun j u hu => hc j u ?_⟩
  rw [evs_append, List.getElem?_append_left (List.getElem?_eq_some_iff.1 hu).1]
  exact hu
theorem Evs.from' {w : World} {a : Option Addr} {l : List Ev} {n c : Nat} (h : Evs w a l) (hc : l.length ≤ c) : Evs w (if c = n then a else a.map (·.add (n * 4))) (l.drop n) := fun h0 => by
  rw [List.length_drop] at h0
  obtain ⟨b, o, rfl, hh⟩ := h (by omega)
  rw [if_neg (by omega)]
  refine ⟨b, o + n * 4, ?_, fun j u hu => ?_⟩
  · show some (Addr.add _ _) = _
    unfold Addr.add
    by_cases hk0 : n * 4 = 0
    · rw [if_pos hk0, hk0]; rfl
    · rw [if_neg hk0]
  · have hl : (evs (l.take n)).length = n * 4 := by rw [evs_len, List.length_take]; congr 1; omega
    have := hh (n * 4 + j) u (by rw [← List.take_append_drop n l, evs_append, List.getElem?_append_right (by omega), hl, Nat.add_sub_cancel_left]; exact hu)
    rw [← Nat.add_assoc] at this
    exact this

set_option maxRecDepth 100000 in
set_option maxHeartbeats 4000000 in
theorem wakes_c (w : World) (P : Pr) (v : Value) (hP : PrAt w.heap.size P w v) (opn : List Bool) (oo : Option Addr) (oc : Nat) (hopn : BoolsAt w.heap.size w oo opn) (ao : Option Addr) (ac : Nat) (l : List Ax) (hl : AxAt w.heap.size w ao l) (hac : l.length ≤ ac) (fuel words tasks at_ task : Int) :
    Calls Try.prog 7 #[v, .slice oo opn.length oc, .slice ao l.length ac, .int .i64 fuel, .int .i64 words, .int .i64 tasks, .int .i64 at_, .int .i64 task] w fun e w' => e = .returned (.bool true) ∧ Fr Non w w' := by
  obtain ⟨fo, fc, co, cc, rfl, hfu, hco⟩ := hP.val
  have HH := Lib.hid (And.intro hP (And.intro hl hopn))
  clear hP hl hfu hco hopn
  have h0l : (0 : Int) ≤ (l.length : Int) := by omega
  go_enter Try.func7, Try.ntmps7
  go_wp2_with fail
  refine (works21_c _).mono ?_
  rintro e1 w1 ⟨rfl, hf1⟩
  have r7 : Row w1 w.heap.size 25 [.slice fo P.funs.length fc, .slice co P.cos.length cc] := hf1.new_row id
  have hf1' : Fr Non w w1 := Fr.trans (by exact (by repeat (first | exact .refl _ _ | assumption | apply Fr.drewN | apply Fr.drew | apply Fr.drewl | apply Fr.drewNl | apply Fr.alloc))) hf1
  have HF1 := Lib.hid hf1'
  obtain ⟨q0, q1, qz⟩ := row2 r7
  have R1 := Lib.hid r7
  clear hf1 hf1' r7
  have hOv := Lib.hid (over21_c (HH.out.1.fr HF1.out (high_non _)) ao l.length ac fuel words)
  go_wp2_with fail
  refine hOv.out.mono ?_
  rintro e2 w2 ⟨⟨b, rfl, hb40⟩, hf2⟩
  have HF2 := Lib.hid (HF1.out.trans hf2)
  have R2 := Lib.hid (hf2.row R1.out id)
  obtain ⟨p0, p1, pz⟩ := row2 R2.out
  clear hf2 q0 q1 qz hOv
  cases b with
  | true =>
    go_wp2_with fail
    go_ret
    exact ⟨rfl, HF2.out⟩
  | false =>
    obtain ⟨hl40, hf3000, _⟩ := hb40 rfl
    clear hb40
    by_cases g1 : at_ < 0
    · have d1 : decide (at_ < 0) = true := decide_eq_true g1
      go_wp2_with fail
      go_ret
      exact ⟨rfl, HF2.out⟩
    have d1 : decide (at_ < 0) = false := decide_eq_false g1
    by_cases g2 : (l.length : Int) < at_
    · have d2 : decide ((l.length : Int) < at_) = true := decide_eq_true g2
      go_wp2_with fail
      go_ret
      exact ⟨rfl, HF2.out⟩
    have d2 : decide ((l.length : Int) < at_) = false := decide_eq_false g2
    obtain ⟨k, rfl⟩ : ∃ k : Nat, at_ = (k : Int) := ⟨at_.toNat, by omega⟩
    have hk : k ≤ l.length := by omega
    have hkc : k ≤ ac := by omega
    have hs2 := HF2.out.size
    have hlt := R2.out.lt
    obtain ⟨Y, hYx, hYl, hYi⟩ := ay_at ((HH.out.2.1.fr HF2.out (high_non _)).up hs2)
    have hYn : Y.length = l.length := by rw [← hYx, List.length_map]
    obtain ⟨sd, hsd⟩ : ∃ sd : Option Addr, sd = if ac = k then ao else ao.map (·.add (k * 4)) := ⟨_, rfl⟩
    have hY1 : AyLie w2.heap.size w2 ao (Y.take k) := fun h0 => by
      rw [List.length_take] at h0
      obtain ⟨b, o, e, hc⟩ := hYl (by omega)
      refine ⟨b, o, e, fun j u hu => hc j u ?_⟩
      rw [← List.take_append_drop k Y, ays_append, List.getElem?_append_left (List.getElem?_eq_some_iff.1 hu).1]
      exact hu
    have hY2 : AyLie w2.heap.size w2 sd (Y.drop k) := fun h0 => by
      rw [List.length_drop] at h0
      obtain ⟨b, o, rfl, hc⟩ := hYl (by omega)
      rw [if_neg (by omega)] at hsd
      refine ⟨b, o + k * 4, ?_, fun j u hu => ?_⟩
      · rw [hsd]
        show some (Addr.add _ _) = _
        unfold Addr.add
        by_cases hk0 : k * 4 = 0
        · rw [if_pos hk0, hk0]; rfl
        · rw [if_neg hk0]
      · have hl : (ays (Y.take k)).length = k * 4 := by rw [ays_len, List.length_take]; congr 1; omega
        have := hc (k * 4 + j) u (by rw [← List.take_append_drop k Y, ays_append, List.getElem?_append_right (by omega), hl, Nat.add_sub_cancel_left]; exact hu)
        rw [← Nat.add_assoc] at this
        exact this
    obtain ⟨r0, hr0⟩ : ∃ r0, l.length - k = r0 := ⟨_, rfl⟩
    have l1 : (Y.take k).length = k := by rw [List.length_take]; omega
    have l2 : (Y.drop k).length = r0 := by rw [List.length_drop]; omega
    obtain ⟨x1, c1, wA, x2, c2, wB, x3, c3, wC, x4, c4, wD, x5, c5, wE, x6, c6, wF, r1, r2, r3, r4, r5, r6, ho5, ho6, hF⟩ := wake_runs (Nat.le_refl w2.heap.size) (Y.take k) (Y.drop k) ao sd ac (ac - k) k (r0) l1 l2 (by omega) task hY1 hY2
    have n5 : (Y.take k ++ [wakeY task] ++ Y.drop k).length = k + 1 + (r0) := by simp only [List.length_append, l1, l2, List.length_cons, List.length_nil]
    have n6 : (Y.take k ++ [wakeY task, wakeY task] ++ Y.drop k).length = k + 2 + (r0) := by simp only [List.length_append, l1, l2, List.length_cons, List.length_nil]
    have m5 : (Y.take k ++ [wakeY task] ++ Y.drop k).map Ay.x = l.take k ++ [⟨3, task, 0, []⟩] ++ l.drop k := by simp only [List.map_append, List.map_take, List.map_drop, hYx]; rfl
    have m6 : (Y.take k ++ [wakeY task, wakeY task] ++ Y.drop k).map Ay.x = l.take k ++ [⟨3, task, 0, []⟩, ⟨3, task, 0, []⟩] ++ l.drop k := by simp only [List.map_append, List.map_take, List.map_drop, hYx]; rfl
    have iw : ∀ y ∈ [wakeY task, wakeY task], IntsAt w2.heap.size w2 y.la y.x.args := fun y hy i n hn => by
      simp only [List.mem_cons, List.not_mem_nil, or_false, or_self] at hy
      subst hy
      simp [wakeY] at hn
    have i5 : ∀ y ∈ Y.take k ++ [wakeY task] ++ Y.drop k, IntsAt w2.heap.size wF y.la y.x.args := fun y hy => by
      refine IntsAt.fr hF (fun x h => h) ?_
      rcases List.mem_append.1 hy with hy | hy
      · rcases List.mem_append.1 hy with hy | hy
        · exact hYi y (List.mem_of_mem_take hy)
        · exact iw y (List.mem_cons_of_mem _ hy)
      · exact hYi y (List.mem_of_mem_drop hy)
    have i6 : ∀ y ∈ Y.take k ++ [wakeY task, wakeY task] ++ Y.drop k, IntsAt w2.heap.size wF y.la y.x.args := fun y hy => by
      refine IntsAt.fr hF (fun x h => h) ?_
      rcases List.mem_append.1 hy with hy | hy
      · rcases List.mem_append.1 hy with hy | hy
        · exact hYi y (List.mem_of_mem_take hy)
        · exact iw y hy
      · exact hYi y (List.mem_of_mem_drop hy)
    have sF := hF.size
    have A5 : AxAt wF.heap.size wF x5 (l.take k ++ [⟨3, task, 0, []⟩] ++ l.drop k) := by
      have ho := ho5.own
      rw [← n5] at ho
      rw [← m5]
      exact ax_of ho (fun g hg => ho.lt hg) fun y hy => (i5 y hy).up sF
    have A6 : AxAt wF.heap.size wF x6 (l.take k ++ [⟨3, task, 0, []⟩, ⟨3, task, 0, []⟩] ++ l.drop k) := by
      have ho := ho6.own
      rw [← n6] at ho
      rw [← m6]
      exact ax_of ho (fun g hg => ho.lt hg) fun y hy => (i6 y hy).up sF
    have k5 : (l.take k ++ [(⟨3, task, 0, []⟩ : Ax)] ++ l.drop k).length = k + 1 + (r0) := by rw [← m5, List.length_map, n5]
    have k6 : (l.take k ++ [(⟨3, task, 0, []⟩ : Ax), ⟨3, task, 0, []⟩] ++ l.drop k).length = k + 2 + (r0) := by rw [← m6, List.length_map, n6]
    have hPF := HH.out.1.fr (HF2.out.then hF fun x hx e => by have := hs2; omega : Fr Non w wF) (high_non _)
    have hoF := HH.out.2.2.fr (HF2.out.then hF fun x hx e => by have := hs2; omega : Fr Non w wF) (high_non _)
    have hlF := HH.out.2.1.fr (HF2.out.then hF fun x hx e => by have := hs2; omega : Fr Non w wF) (high_non _)
    have hRa := fun wz (f : Fr Non wF wz) => run_e wz P _ ((hPF.fr f (high_non _)).up (by have := f.size; omega)) opn oo oc ((hoF.fr f (high_non _)).up (by have := f.size; omega)) x5 c5 _ ((A5.fr f (high_non _)).up f.size) (by rw [k5]; omega) fuel words tasks hf3000
    have hRb := fun wz (f : Fr Non wF wz) => run_e wz P _ ((hPF.fr f (high_non _)).up (by have := f.size; omega)) opn oo oc ((hoF.fr f (high_non _)).up (by have := f.size; omega)) x6 c6 _ ((A6.fr f (high_non _)).up f.size) (by rw [k6]; omega) fuel words tasks hf3000
    have hRc := fun wz (f : Fr Non wF wz) => run_e wz P _ ((hPF.fr f (high_non _)).up (by have := f.size; omega)) opn oo oc ((hoF.fr f (high_non _)).up (by have := f.size; omega)) ao ac (l.take k) (((hlF.take k).fr f (high_non _)).up (by have := f.size; omega)) (by rw [List.length_take]; omega) fuel words tasks hf3000
    rw [k5] at hRa
    rw [k6] at hRb
    rw [show (l.take k).length = k by rw [List.length_take]; omega] at hRc
    have hT := wakes_x (P := P) (opn := opn) (fuel := fuel) (words := words) (tasks := tasks) (l.take k) (l.drop k) task
    have hl1 := runX_len (P := P) (opn := opn) (words := words) (tasks := tasks) hf3000 (l.take k ++ [⟨3, task, 0, []⟩] ++ l.drop k) (by rw [k5]; omega) HH.out.1.lab
    have hl2 := runX_len (P := P) (opn := opn) (words := words) (tasks := tasks) hf3000 (l.take k ++ [⟨3, task, 0, []⟩, ⟨3, task, 0, []⟩] ++ l.drop k) (by rw [k6]; omega) HH.out.1.lab
    generalize runX P opn (l.take k ++ [⟨3, task, 0, []⟩] ++ l.drop k) fuel words tasks = T1 at *
    generalize runX P opn (l.take k ++ [⟨3, task, 0, []⟩, ⟨3, task, 0, []⟩] ++ l.drop k) fuel words tasks = T2 at *
    generalize runX P opn (l.take k) fuel words tasks = T0 at *
    have HR := Lib.hid (And.intro hRa (And.intro hRb (And.intro hRc hT)))
    clear hT
    have HF := Lib.hid (And.intro hF (hF.row R2.out (by omega)))
    obtain ⟨t0, t1, tz⟩ := row2 HF.out.2
    have tl := HF.out.2.lt
    clear ho5 ho6 hF hYi hYx hY1 hY2 hYl hYn l1 l2 n5 n6 m5 m6 iw i5 i6 A5 A6 k5 k6 hPF hoF hlF hRa hRb hRc p0 p1 pz
    have hk0 : (0 : Int) ≤ (k : Int) := by omega
    have hki : (k : Int) ≤ (ac : Int) := by omega
    have hkl : (k : Int) ≤ (l.length : Int) := by omega
    rw [hsd] at r5 r6
    clear hsd
    -- REST
    by_cases hck : ac = k
    · subst hck
      obtain rfl : r0 = 0 := by omega
      rw [if_pos rfl, Nat.sub_self] at r5 r6
      go_wp2_with (at_builtin; first | refine wpList_app rfl (.tmp 48) (.tmp 51) _ rfl rfl rfl _ rfl r1 ?_ | refine wpList_app rfl (.tmp 53) (.tmp 56) _ rfl rfl rfl _ rfl r2 ?_ | refine wpList_app rfl (.tmp 58) (.tmp 59) _ rfl rfl rfl _ rfl r3 ?_ | refine wpList_app rfl (.tmp 61) (.tmp 64) _ rfl rfl rfl _ rfl r4 ?_ | refine wpList_app rfl (.tmp 66) (.tmp 69) _ rfl rfl rfl _ rfl r5 ?_ | refine wpList_app rfl (.tmp 71) (.tmp 74) _ rfl rfl rfl _ rfl r6 ?_)
      clear r1 r2 r3 r4 r5 r6
      refine (HR.out.1 _ (by exact (by repeat (first | exact .refl _ _ | assumption | apply Fr.drewN | apply Fr.drew | apply Fr.drewl | apply Fr.drewNl | apply Fr.alloc)))).mono ?_
      rintro e3 w3 ⟨ta, rfl, hoa, hga, hf3⟩
      have hf3' : Fr Non wF w3 := Fr.trans (by exact (by repeat (first | exact .refl _ _ | assumption | apply Fr.drewN | apply Fr.drew | apply Fr.drewl | apply Fr.drewNl | apply Fr.alloc))) hf3
      obtain ⟨a1, d1, rfl, hc1, hm1, hz6, hz7⟩ := hoa.form
      obtain ⟨u0, u1, uz⟩ := row2 (hf3'.row HF.out.2 id)
      have HA := Lib.hid (And.intro hoa hf3')
      clear hoa hga hf3 hf3' hz6 hz7 t0 t1 tz
      go_wp2_with fail
      refine (HR.out.2.1 _ (HA.out.2.trans (by exact (by repeat (first | exact .refl _ _ | assumption | apply Fr.drewN | apply Fr.drew | apply Fr.drewl | apply Fr.drewNl | apply Fr.alloc))))).mono ?_
      rintro e4 w4 ⟨tb, rfl, hob, hgb, hf4⟩
      have hf4' : Fr Non w3 w4 := Fr.trans (by exact (by repeat (first | exact .refl _ _ | assumption | apply Fr.drewN | apply Fr.drew | apply Fr.drewl | apply Fr.drewNl | apply Fr.alloc))) hf4
      obtain ⟨a2, d2, rfl, hc2, hm2, hz6, hz7⟩ := hob.form
      have hva := (HA.out.1.fr hf4' (fun _ _ => id)).evs.2
      have hvb := hob.evs.2
      have HB := Lib.hid (HA.out.2.trans hf4')
      have R4 := Lib.hid ((HA.out.2.trans hf4').row HF.out.2 id)
      clear hob hgb hf4 hf4' hz6 hz7 u0 u1 uz
      have hT := HR.out.2.2.2
      rcases hT with rfl | ⟨r, rfl, rfl⟩
      · have hS := Lib.hid fun wz (f : Fr Non w4 wz) => same21_c wz a1 a2 d1 d2 T2 (hva.fr f (fun _ _ => id)) (hvb.fr f (fun _ _ => id)) (by omega)
        clear hva hvb
        generalize T2.length = N1 at *
        have hee : ((N1 : Int) == (N1 : Int)) = true := by simp
        go_wp2_with fail
        refine (hS.out _ (by exact (by repeat (first | exact .refl _ _ | assumption | apply Fr.drewN | apply Fr.drew | apply Fr.drewl | apply Fr.drewNl | apply Fr.alloc)))).mono ?_
        rintro e5 w5 ⟨rfl, hf5⟩
        have hf5' : Fr Non w4 w5 := Fr.trans (by exact (by repeat (first | exact .refl _ _ | assumption | apply Fr.drewN | apply Fr.drew | apply Fr.drewl | apply Fr.drewNl | apply Fr.alloc))) hf5
        have H5 := Lib.hid hf5'
        clear hf5 hf5' hS
        go_wp2_with fail
        go_ret
        exact ⟨rfl, HF2.out.trans ((HF.out.1.mono fun x hx e => by omega).trans (HB.out.trans (H5.out.trans (by exact (by repeat (first | exact .refl _ _ | assumption | apply Fr.drewN | apply Fr.drew | apply Fr.drewl | apply Fr.drewNl | apply Fr.alloc))))))⟩
      · have hva1 : Evs w4 a1 (T0 ++ [⟨1, task, 0, 0⟩]) := hva.beg
        have hvb1 : Evs w4 a2 (T0 ++ [⟨1, task, 0, 0⟩]) := by
          rw [show T0 ++ [(⟨1, task, 0, 0⟩ : Ev), ⟨1, task, 0, 0⟩] ++ r = (T0 ++ [⟨1, task, 0, 0⟩]) ++ ([⟨1, task, 0, 0⟩] ++ r) by simp] at hvb
          exact hvb.beg
        have hva2 := hva.from' (n := T0.length + 1) hc1
        have hvb2 := hvb.from' (n := T0.length + 2) hc2
        rw [show (T0 ++ [(⟨1, task, 0, 0⟩ : Ev)] ++ r).drop (T0.length + 1) = r by rw [List.drop_append_of_le_length (by simp), List.drop_of_length_le (by simp), List.nil_append]] at hva2
        rw [show (T0 ++ [(⟨1, task, 0, 0⟩ : Ev), ⟨1, task, 0, 0⟩] ++ r).drop (T0.length + 2) = r by rw [List.drop_append_of_le_length (by simp), List.drop_of_length_le (by simp), List.nil_append]] at hvb2
        have hb0 : (T0 ++ [(⟨1, task, 0, 0⟩ : Ev), ⟨1, task, 0, 0⟩] ++ r)[T0.length]? = some ⟨1, task, 0, 0⟩ := by simp
        have hb1 : (T0 ++ [(⟨1, task, 0, 0⟩ : Ev), ⟨1, task, 0, 0⟩] ++ r)[T0.length + 1]? = some ⟨1, task, 0, 0⟩ := by simp
        obtain ⟨tg, to, rfl, htc⟩ := hvb (by simp; omega)
        obtain ⟨z0, z1, z2, z3⟩ := evs_get' hb0
        obtain ⟨y0, y1, y2, y3⟩ := evs_get' hb1
        have e0 := htc _ _ z0
        have e1 := htc _ _ z1
        have e2 := htc _ _ z2
        have e3 := htc _ _ z3
        have f0 := htc _ _ y0
        have f1 := htc _ _ y1
        have f2 := htc _ _ y2
        have f3 := htc _ _ y3
        rw [← Nat.add_assoc] at e1 e2 e3 f1 f2 f3
        simp only at e0 e1 e2 e3 f0 f1 f2 f3
        have tgl := World.block_lt_of_cell? _ _ e0
        simp only at tgl
        have hn1 : (T0 ++ [(⟨1, task, 0, 0⟩ : Ev)] ++ r).length = T0.length + 1 + r.length := by simp; omega
        have hn2 : (T0 ++ [(⟨1, task, 0, 0⟩ : Ev), ⟨1, task, 0, 0⟩] ++ r).length = T0.length + 2 + r.length := by simp; omega
        have hn0 : (T0 ++ [(⟨1, task, 0, 0⟩ : Ev)]).length = T0.length + 1 := by simp
        have ha2 : (if d2 = T0.length + 2 then some (⟨tg, to, none⟩ : Addr) else Option.map (fun x : Addr => x.add ((T0.length + 2) * 4)) (some ⟨tg, to, none⟩)) = if d2 = T0.length + 2 then some ⟨tg, to, none⟩ else some ⟨tg, to + (T0.length + 2) * 4, none⟩ := by
          split
          · rfl
          · show some (Addr.add _ _) = _
            unfold Addr.add
            rw [if_neg (by omega)]
        rw [ha2] at hvb2
        clear ha2
        have hS1 := fun wz (f : Fr Non w4 wz) => same21_c wz a1 (some ⟨tg, to, none⟩) d1 d2 (T0 ++ [⟨1, task, 0, 0⟩]) (hva1.fr f (fun _ _ => id)) (hvb1.fr f (fun _ _ => id)) (by omega)
        have hS2 := fun wz (f : Fr Non w4 wz) => same21_c wz _ _ (d1 - (T0.length + 1)) (d2 - (T0.length + 2)) r (hva2.fr f (fun _ _ => id)) (hvb2.fr f (fun _ _ => id)) (by omega)
        rw [hn0] at hS1
        have HS := Lib.hid (And.intro hS1 hS2)
        clear hva hvb hva1 hvb1 hva2 hvb2 hb0 hb1 htc z0 z1 z2 z3 y0 y1 y2 y3 hn0 hS1 hS2
        generalize hN1 : (T0 ++ [(⟨1, task, 0, 0⟩ : Ev)] ++ r).length = N1 at *
        generalize hN2 : (T0 ++ [(⟨1, task, 0, 0⟩ : Ev), ⟨1, task, 0, 0⟩] ++ r).length = N2 at *
        clear hN1 hN2
        generalize r.length = rn at *
        generalize hKK : T0.length = kk at *
        have dn : ((N1 : Int) == (N2 : Int)) = false := beq_false_of_ne (by omega)
        have hRc := Lib.hid (And.intro hn1 (And.intro hn2 (And.intro hc1 hc2)))
        clear hn1 hn2
        obtain ⟨u0, u1, uz⟩ := row2 R4.out
        have rl := R4.out.lt
        have n0 : N2 = N1 + 1 := by have := hRc.out; omega
        have n1 : kk + 1 ≤ N1 := by have := hRc.out; omega
        have n3 : kk + 1 ≤ d1 := by have := hRc.out; omega
        have n4 : kk + 2 ≤ d2 := by have := hRc.out; omega
        have i0 : (0 : Int) ≤ (kk : Int) + 1 := by omega
        have i0' : (0 : Int) ≤ (kk : Int) + 2 := by omega
        have i0'' : (0 : Int) ≤ (kk : Int) := by omega
        have i1 : (kk : Int) + 1 ≤ (d1 : Int) := by omega
        have i2 : (kk : Int) + 1 ≤ (d2 : Int) := by omega
        have i2' : kk + 1 ≤ d2 := by omega
        have i3 : (kk : Int) + 1 ≤ (N1 : Int) := by omega
        have i4 : (kk : Int) + 2 ≤ (N2 : Int) := by omega
        have i4' : kk + 2 ≤ N2 := by omega
        have i5 : (kk : Int) < (N2 : Int) := by omega
        have i5' : kk < N2 := by omega
        have i6 : (kk : Int) + 1 < (N2 : Int) := by omega
        have i6' : kk + 1 < N2 := by omega
        have dnn : ((N2 : Int) != (N1 : Int) + 1) = false := by rw [n0]; simp
        have dk : decide ((N1 : Int) < (kk : Int) + 1) = false := decide_eq_false (by omega)
        have dk' : decide (N1 < kk + 1) = false := decide_eq_false (by omega)
        have tt : (task == task) = true := by simp
        clear n0
        go_wp2_with fail
        have cW := @Mix.cls_drew w4 [w.heap.size]
        refine Mix.wp_region_mix [0] [(1, 0), (0, 1), (0, 2), (0, 3), (0, 4), (0, 5), (0, 6), (0, 7), (2, 8), (0, 9)] (fun U => ∃ g, U = Mix.upon w4 [w.heap.size] g) (by kernel_rfl) (by kernel_rfl) cW ?_
        clear cW
        repeat (first | ((first | refine Mix.S_pure rfl rfl ?_ | refine Mix.S_load rfl rfl ?_); intro K hK; simp only [nA, nB, nC]; go_big_quiet_op; go_big_quiet_on) | refine Mix.S_skip0 rfl rfl ?_ | refine Mix.S_skip1 rfl rfl ?_)
        refine Mix.S_eff (o := _) rfl rfl ?_
        intro K hK
        simp only [nA, nB, nC]
        go_simp
        refine (HR.out.2.2.1 _ (HB.out.trans (by exact (Fr.refl _ _).drew))).mono ?_
        rintro e5 w5 ⟨tc, rfl, hoc, hgc, hf5⟩
        have hf5' : Fr Non w4 w5 := Fr.trans (by exact (Fr.refl _ _).drew) hf5
        refine hK _ _ ⟨Mix.cls_fr (D := Non) hf5 (by simp [Non]; omega), ?_⟩
        clear hK K
        obtain ⟨a3, d3, rfl, hc3, hm3, hz6, hz7⟩ := hoc.form
        have H5 := Lib.hid hf5'
        have e0 := hf5'.cell e0 id
        have e1 := hf5'.cell e1 id
        have e2 := hf5'.cell e2 id
        have e3 := hf5'.cell e3 id
        have f0 := hf5'.cell f0 id
        have f1 := hf5'.cell f1 id
        have f2 := hf5'.cell f2 id
        have f3 := hf5'.cell f3 id
        clear hoc hgc hf5 hf5' hz6 hz7 u0 u1 uz
        repeat (first | ((first | refine Mix.S_pure rfl rfl ?_ | refine Mix.S_load rfl rfl ?_); intro K hK; simp only [nA, nB, nC]; go_big_quiet_op; go_big_quiet_on) | refine Mix.S_skip0 rfl rfl ?_ | refine Mix.S_skip1 rfl rfl ?_)
        refine Mix.S_done ?_
        go_wp2_with fail
        have cW := @Mix.cls_drew w5 []
        refine Mix.wp_region_mix [] [(0, 0), (0, 1), (0, 2), (0, 3), (0, 4), (0, 5), (0, 6), (0, 7), (2, 8), (0, 9)] (fun U => ∃ g, U = Mix.upon w5 [] g) (by kernel_rfl) (by kernel_rfl) cW ?_
        clear cW
        repeat (first | ((first | refine Mix.S_pure rfl rfl ?_ | refine Mix.S_load rfl rfl ?_); intro K hK; simp only [nA, nB, nC]; go_big_quiet_op; go_big_quiet_on) | refine Mix.S_skip0 rfl rfl ?_ | refine Mix.S_skip1 rfl rfl ?_)
        refine Mix.S_eff (o := _) rfl rfl ?_
        intro K hK
        simp only [nA, nB, nC]
        go_simp
        refine (HS.out.1 _ (H5.out.trans (by exact (Fr.refl _ _).drew))).mono ?_
        rintro e6 w6 ⟨rfl, hf6⟩
        have hf6' : Fr Non w5 w6 := Fr.trans (by exact (Fr.refl _ _).drew) hf6
        refine hK _ _ ⟨Mix.cls_fr (D := Non) hf6 (by simp), ?_⟩
        clear hK K
        have H6 := Lib.hid (H5.out.trans hf6')
        have e0 := hf6'.cell e0 id
        have e1 := hf6'.cell e1 id
        have e2 := hf6'.cell e2 id
        have e3 := hf6'.cell e3 id
        have f0 := hf6'.cell f0 id
        have f1 := hf6'.cell f1 id
        have f2 := hf6'.cell f2 id
        have f3 := hf6'.cell f3 id
        clear hf6 hf6'
        repeat (first | ((first | refine Mix.S_pure rfl rfl ?_ | refine Mix.S_load rfl rfl ?_); intro K hK; simp only [nA, nB, nC]; go_big_quiet_op; go_big_quiet_on) | refine Mix.S_skip0 rfl rfl ?_ | refine Mix.S_skip1 rfl rfl ?_)
        refine Mix.S_done ?_
        go_wp2_with fail
        have cW := @Mix.cls_drew w6 []
        refine Mix.wp_region_mix [] [(0, 0), (0, 1), (0, 2), (0, 3), (0, 4), (0, 5), (0, 6), (0, 7), (2, 8), (0, 9)] (fun U => ∃ g, U = Mix.upon w6 [] g) (by kernel_rfl) (by kernel_rfl) cW ?_
        clear cW
        repeat (first | ((first | refine Mix.S_pure rfl rfl ?_ | refine Mix.S_load rfl rfl ?_); intro K hK; simp only [nA, nB, nC]; go_big_quiet_op; go_big_quiet_on) | refine Mix.S_skip0 rfl rfl ?_ | refine Mix.S_skip1 rfl rfl ?_)
        refine Mix.S_eff (o := _) rfl rfl ?_
        intro K hK
        simp only [nA, nB, nC]
        go_simp
        rw [show N1 - (kk + 1) = rn by have := hRc.out; omega, show N2 - (kk + 2) = rn by have := hRc.out; omega]
        refine (HS.out.2 _ (H6.out.trans (by exact (Fr.refl _ _).drew))).mono ?_
        rintro e7 w7 ⟨rfl, hf7⟩
        have hf7' : Fr Non w6 w7 := Fr.trans (by exact (Fr.refl _ _).drew) hf7
        refine hK _ _ ⟨Mix.cls_fr (D := Non) hf7 (by simp), ?_⟩
        clear hK K
        have H7 := Lib.hid (H6.out.trans hf7')
        have e0 := hf7'.cell e0 id
        have e1 := hf7'.cell e1 id
        have e2 := hf7'.cell e2 id
        have e3 := hf7'.cell e3 id
        have f0 := hf7'.cell f0 id
        have f1 := hf7'.cell f1 id
        have f2 := hf7'.cell f2 id
        have f3 := hf7'.cell f3 id
        clear hf7 hf7'
        repeat (first | ((first | refine Mix.S_pure rfl rfl ?_ | refine Mix.S_load rfl rfl ?_); intro K hK; simp only [nA, nB, nC]; go_big_quiet_op; go_big_quiet_on) | refine Mix.S_skip0 rfl rfl ?_ | refine Mix.S_skip1 rfl rfl ?_)
        refine Mix.S_done ?_
        generalize (if d1 = kk + 1 then a1 else Option.map (fun x : Addr => x.add ((kk + 1) * 4)) a1) = sv1
        generalize (if d2 = kk + 2 then some (⟨tg, to, none⟩ : Addr) else some ⟨tg, to + (kk + 2) * 4, none⟩) = sv2
        go_wp2_with fail
        go_quiet (fail)
        go_wp2_with fail
        go_ret
        exact ⟨rfl, HF2.out.trans ((HF.out.1.mono fun x hx e => by omega).trans (HB.out.trans (H7.out.trans (by exact (by repeat (first | exact .refl _ _ | assumption | apply Fr.drewN | apply Fr.drew | apply Fr.drewl | apply Fr.drewNl | apply Fr.alloc))))))⟩
    · rw [if_neg hck] at r5 r6
      go_wp2_with (at_builtin; first | refine wpList_app rfl (.tmp 48) (.tmp 51) _ rfl rfl rfl _ rfl r1 ?_ | refine wpList_app rfl (.tmp 53) (.tmp 56) _ rfl rfl rfl _ rfl r2 ?_ | refine wpList_app rfl (.tmp 58) (.tmp 59) _ rfl rfl rfl _ rfl r3 ?_ | refine wpList_app rfl (.tmp 61) (.tmp 64) _ rfl rfl rfl _ rfl r4 ?_ | refine wpList_app rfl (.tmp 66) (.tmp 69) _ rfl rfl rfl _ rfl r5 ?_ | refine wpList_app rfl (.tmp 71) (.tmp 74) _ rfl rfl rfl _ rfl r6 ?_)
      clear r1 r2 r3 r4 r5 r6
      refine (HR.out.1 _ (by exact (by repeat (first | exact .refl _ _ | assumption | apply Fr.drewN | apply Fr.drew | apply Fr.drewl | apply Fr.drewNl | apply Fr.alloc)))).mono ?_
      rintro e3 w3 ⟨ta, rfl, hoa, hga, hf3⟩
      have hf3' : Fr Non wF w3 := Fr.trans (by exact (by repeat (first | exact .refl _ _ | assumption | apply Fr.drewN | apply Fr.drew | apply Fr.drewl | apply Fr.drewNl | apply Fr.alloc))) hf3
      obtain ⟨a1, d1, rfl, hc1, hm1, hz6, hz7⟩ := hoa.form
      obtain ⟨u0, u1, uz⟩ := row2 (hf3'.row HF.out.2 id)
      have HA := Lib.hid (And.intro hoa hf3')
      clear hoa hga hf3 hf3' hz6 hz7 t0 t1 tz
      go_wp2_with fail
      refine (HR.out.2.1 _ (HA.out.2.trans (by exact (by repeat (first | exact .refl _ _ | assumption | apply Fr.drewN | apply Fr.drew | apply Fr.drewl | apply Fr.drewNl | apply Fr.alloc))))).mono ?_
      rintro e4 w4 ⟨tb, rfl, hob, hgb, hf4⟩
      have hf4' : Fr Non w3 w4 := Fr.trans (by exact (by repeat (first | exact .refl _ _ | assumption | apply Fr.drewN | apply Fr.drew | apply Fr.drewl | apply Fr.drewNl | apply Fr.alloc))) hf4
      obtain ⟨a2, d2, rfl, hc2, hm2, hz6, hz7⟩ := hob.form
      have hva := (HA.out.1.fr hf4' (fun _ _ => id)).evs.2
      have hvb := hob.evs.2
      have HB := Lib.hid (HA.out.2.trans hf4')
      have R4 := Lib.hid ((HA.out.2.trans hf4').row HF.out.2 id)
      clear hob hgb hf4 hf4' hz6 hz7 u0 u1 uz
      have hT := HR.out.2.2.2
      rcases hT with rfl | ⟨r, rfl, rfl⟩
      · have hS := Lib.hid fun wz (f : Fr Non w4 wz) => same21_c wz a1 a2 d1 d2 T2 (hva.fr f (fun _ _ => id)) (hvb.fr f (fun _ _ => id)) (by omega)
        clear hva hvb
        generalize T2.length = N1 at *
        have hee : ((N1 : Int) == (N1 : Int)) = true := by simp
        go_wp2_with fail
        refine (hS.out _ (by exact (by repeat (first | exact .refl _ _ | assumption | apply Fr.drewN | apply Fr.drew | apply Fr.drewl | apply Fr.drewNl | apply Fr.alloc)))).mono ?_
        rintro e5 w5 ⟨rfl, hf5⟩
        have hf5' : Fr Non w4 w5 := Fr.trans (by exact (by repeat (first | exact .refl _ _ | assumption | apply Fr.drewN | apply Fr.drew | apply Fr.drewl | apply Fr.drewNl | apply Fr.alloc))) hf5
        have H5 := Lib.hid hf5'
        clear hf5 hf5' hS
        go_wp2_with fail
        go_ret
        exact ⟨rfl, HF2.out.trans ((HF.out.1.mono fun x hx e => by omega).trans (HB.out.trans (H5.out.trans (by exact (by repeat (first | exact .refl _ _ | assumption | apply Fr.drewN | apply Fr.drew | apply Fr.drewl | apply Fr.drewNl | apply Fr.alloc))))))⟩
      · have hva1 : Evs w4 a1 (T0 ++ [⟨1, task, 0, 0⟩]) := hva.beg
        have hvb1 : Evs w4 a2 (T0 ++ [⟨1, task, 0, 0⟩]) := by
          rw [show T0 ++ [(⟨1, task, 0, 0⟩ : Ev), ⟨1, task, 0, 0⟩] ++ r = (T0 ++ [⟨1, task, 0, 0⟩]) ++ ([⟨1, task, 0, 0⟩] ++ r) by simp] at hvb
          exact hvb.beg
        have hva2 := hva.from' (n := T0.length + 1) hc1
        have hvb2 := hvb.from' (n := T0.length + 2) hc2
        rw [show (T0 ++ [(⟨1, task, 0, 0⟩ : Ev)] ++ r).drop (T0.length + 1) = r by rw [List.drop_append_of_le_length (by simp), List.drop_of_length_le (by simp), List.nil_append]] at hva2
        rw [show (T0 ++ [(⟨1, task, 0, 0⟩ : Ev), ⟨1, task, 0, 0⟩] ++ r).drop (T0.length + 2) = r by rw [List.drop_append_of_le_length (by simp), List.drop_of_length_le (by simp), List.nil_append]] at hvb2
        have hb0 : (T0 ++ [(⟨1, task, 0, 0⟩ : Ev), ⟨1, task, 0, 0⟩] ++ r)[T0.length]? = some ⟨1, task, 0, 0⟩ := by simp
        have hb1 : (T0 ++ [(⟨1, task, 0, 0⟩ : Ev), ⟨1, task, 0, 0⟩] ++ r)[T0.length + 1]? = some ⟨1, task, 0, 0⟩ := by simp
        obtain ⟨tg, to, rfl, htc⟩ := hvb (by simp; omega)
        obtain ⟨z0, z1, z2, z3⟩ := evs_get' hb0
        obtain ⟨y0, y1, y2, y3⟩ := evs_get' hb1
        have e0 := htc _ _ z0
        have e1 := htc _ _ z1
        have e2 := htc _ _ z2
        have e3 := htc _ _ z3
        have f0 := htc _ _ y0
        have f1 := htc _ _ y1
        have f2 := htc _ _ y2
        have f3 := htc _ _ y3
        rw [← Nat.add_assoc] at e1 e2 e3 f1 f2 f3
        simp only at e0 e1 e2 e3 f0 f1 f2 f3
        have tgl := World.block_lt_of_cell? _ _ e0
        simp only at tgl
        have hn1 : (T0 ++ [(⟨1, task, 0, 0⟩ : Ev)] ++ r).length = T0.length + 1 + r.length := by simp; omega
        have hn2 : (T0 ++ [(⟨1, task, 0, 0⟩ : Ev), ⟨1, task, 0, 0⟩] ++ r).length = T0.length + 2 + r.length := by simp; omega
        have hn0 : (T0 ++ [(⟨1, task, 0, 0⟩ : Ev)]).length = T0.length + 1 := by simp
        have ha2 : (if d2 = T0.length + 2 then some (⟨tg, to, none⟩ : Addr) else Option.map (fun x : Addr => x.add ((T0.length + 2) * 4)) (some ⟨tg, to, none⟩)) = if d2 = T0.length + 2 then some ⟨tg, to, none⟩ else some ⟨tg, to + (T0.length + 2) * 4, none⟩ := by
          split
          · rfl
          · show some (Addr.add _ _) = _
            unfold Addr.add
            rw [if_neg (by omega)]
        rw [ha2] at hvb2
        clear ha2
        have hS1 := fun wz (f : Fr Non w4 wz) => same21_c wz a1 (some ⟨tg, to, none⟩) d1 d2 (T0 ++ [⟨1, task, 0, 0⟩]) (hva1.fr f (fun _ _ => id)) (hvb1.fr f (fun _ _ => id)) (by omega)
        have hS2 := fun wz (f : Fr Non w4 wz) => same21_c wz _ _ (d1 - (T0.length + 1)) (d2 - (T0.length + 2)) r (hva2.fr f (fun _ _ => id)) (hvb2.fr f (fun _ _ => id)) (by omega)
        rw [hn0] at hS1
        have HS := Lib.hid (And.intro hS1 hS2)
        clear hva hvb hva1 hvb1 hva2 hvb2 hb0 hb1 htc z0 z1 z2 z3 y0 y1 y2 y3 hn0 hS1 hS2
        generalize hN1 : (T0 ++ [(⟨1, task, 0, 0⟩ : Ev)] ++ r).length = N1 at *
        generalize hN2 : (T0 ++ [(⟨1, task, 0, 0⟩ : Ev), ⟨1, task, 0, 0⟩] ++ r).length = N2 at *
        clear hN1 hN2
        generalize r.length = rn at *
        generalize hKK : T0.length = kk at *
        have dn : ((N1 : Int) == (N2 : Int)) = false := beq_false_of_ne (by omega)
        have hRc := Lib.hid (And.intro hn1 (And.intro hn2 (And.intro hc1 hc2)))
        clear hn1 hn2
        obtain ⟨u0, u1, uz⟩ := row2 R4.out
        have rl := R4.out.lt
        have n0 : N2 = N1 + 1 := by have := hRc.out; omega
        have n1 : kk + 1 ≤ N1 := by have := hRc.out; omega
        have n3 : kk + 1 ≤ d1 := by have := hRc.out; omega
        have n4 : kk + 2 ≤ d2 := by have := hRc.out; omega
        have i0 : (0 : Int) ≤ (kk : Int) + 1 := by omega
        have i0' : (0 : Int) ≤ (kk : Int) + 2 := by omega
        have i0'' : (0 : Int) ≤ (kk : Int) := by omega
        have i1 : (kk : Int) + 1 ≤ (d1 : Int) := by omega
        have i2 : (kk : Int) + 1 ≤ (d2 : Int) := by omega
        have i2' : kk + 1 ≤ d2 := by omega
        have i3 : (kk : Int) + 1 ≤ (N1 : Int) := by omega
        have i4 : (kk : Int) + 2 ≤ (N2 : Int) := by omega
        have i4' : kk + 2 ≤ N2 := by omega
        have i5 : (kk : Int) < (N2 : Int) := by omega
        have i5' : kk < N2 := by omega
        have i6 : (kk : Int) + 1 < (N2 : Int) := by omega
        have i6' : kk + 1 < N2 := by omega
        have dnn : ((N2 : Int) != (N1 : Int) + 1) = false := by rw [n0]; simp
        have dk : decide ((N1 : Int) < (kk : Int) + 1) = false := decide_eq_false (by omega)
        have dk' : decide (N1 < kk + 1) = false := decide_eq_false (by omega)
        have tt : (task == task) = true := by simp
        clear n0
        go_wp2_with fail
        have cW := @Mix.cls_drew w4 [w.heap.size]
        refine Mix.wp_region_mix [0] [(1, 0), (0, 1), (0, 2), (0, 3), (0, 4), (0, 5), (0, 6), (0, 7), (2, 8), (0, 9)] (fun U => ∃ g, U = Mix.upon w4 [w.heap.size] g) (by kernel_rfl) (by kernel_rfl) cW ?_
        clear cW
        repeat (first | ((first | refine Mix.S_pure rfl rfl ?_ | refine Mix.S_load rfl rfl ?_); intro K hK; simp only [nA, nB, nC]; go_big_quiet_op; go_big_quiet_on) | refine Mix.S_skip0 rfl rfl ?_ | refine Mix.S_skip1 rfl rfl ?_)
        refine Mix.S_eff (o := _) rfl rfl ?_
        intro K hK
        simp only [nA, nB, nC]
        go_simp
        refine (HR.out.2.2.1 _ (HB.out.trans (by exact (Fr.refl _ _).drew))).mono ?_
        rintro e5 w5 ⟨tc, rfl, hoc, hgc, hf5⟩
        have hf5' : Fr Non w4 w5 := Fr.trans (by exact (Fr.refl _ _).drew) hf5
        refine hK _ _ ⟨Mix.cls_fr (D := Non) hf5 (by simp [Non]; omega), ?_⟩
        clear hK K
        obtain ⟨a3, d3, rfl, hc3, hm3, hz6, hz7⟩ := hoc.form
        have H5 := Lib.hid hf5'
        have e0 := hf5'.cell e0 id
        have e1 := hf5'.cell e1 id
        have e2 := hf5'.cell e2 id
        have e3 := hf5'.cell e3 id
        have f0 := hf5'.cell f0 id
        have f1 := hf5'.cell f1 id
        have f2 := hf5'.cell f2 id
        have f3 := hf5'.cell f3 id
        clear hoc hgc hf5 hf5' hz6 hz7 u0 u1 uz
        repeat (first | ((first | refine Mix.S_pure rfl rfl ?_ | refine Mix.S_load rfl rfl ?_); intro K hK; simp only [nA, nB, nC]; go_big_quiet_op; go_big_quiet_on) | refine Mix.S_skip0 rfl rfl ?_ | refine Mix.S_skip1 rfl rfl ?_)
        refine Mix.S_done ?_
        go_wp2_with fail
        have cW := @Mix.cls_drew w5 []
        refine Mix.wp_region_mix [] [(0, 0), (0, 1), (0, 2), (0, 3), (0, 4), (0, 5), (0, 6), (0, 7), (2, 8), (0, 9)] (fun U => ∃ g, U = Mix.upon w5 [] g) (by kernel_rfl) (by kernel_rfl) cW ?_
        clear cW
        repeat (first | ((first | refine Mix.S_pure rfl rfl ?_ | refine Mix.S_load rfl rfl ?_); intro K hK; simp only [nA, nB, nC]; go_big_quiet_op; go_big_quiet_on) | refine Mix.S_skip0 rfl rfl ?_ | refine Mix.S_skip1 rfl rfl ?_)
        refine Mix.S_eff (o := _) rfl rfl ?_
        intro K hK
        simp only [nA, nB, nC]
        go_simp
        refine (HS.out.1 _ (H5.out.trans (by exact (Fr.refl _ _).drew))).mono ?_
        rintro e6 w6 ⟨rfl, hf6⟩
        have hf6' : Fr Non w5 w6 := Fr.trans (by exact (Fr.refl _ _).drew) hf6
        refine hK _ _ ⟨Mix.cls_fr (D := Non) hf6 (by simp), ?_⟩
        clear hK K
        have H6 := Lib.hid (H5.out.trans hf6')
        have e0 := hf6'.cell e0 id
        have e1 := hf6'.cell e1 id
        have e2 := hf6'.cell e2 id
        have e3 := hf6'.cell e3 id
        have f0 := hf6'.cell f0 id
        have f1 := hf6'.cell f1 id
        have f2 := hf6'.cell f2 id
        have f3 := hf6'.cell f3 id
        clear hf6 hf6'
        repeat (first | ((first | refine Mix.S_pure rfl rfl ?_ | refine Mix.S_load rfl rfl ?_); intro K hK; simp only [nA, nB, nC]; go_big_quiet_op; go_big_quiet_on) | refine Mix.S_skip0 rfl rfl ?_ | refine Mix.S_skip1 rfl rfl ?_)
        refine Mix.S_done ?_
        go_wp2_with fail
        have cW := @Mix.cls_drew w6 []
        refine Mix.wp_region_mix [] [(0, 0), (0, 1), (0, 2), (0, 3), (0, 4), (0, 5), (0, 6), (0, 7), (2, 8), (0, 9)] (fun U => ∃ g, U = Mix.upon w6 [] g) (by kernel_rfl) (by kernel_rfl) cW ?_
        clear cW
        repeat (first | ((first | refine Mix.S_pure rfl rfl ?_ | refine Mix.S_load rfl rfl ?_); intro K hK; simp only [nA, nB, nC]; go_big_quiet_op; go_big_quiet_on) | refine Mix.S_skip0 rfl rfl ?_ | refine Mix.S_skip1 rfl rfl ?_)
        refine Mix.S_eff (o := _) rfl rfl ?_
        intro K hK
        simp only [nA, nB, nC]
        go_simp
        rw [show N1 - (kk + 1) = rn by have := hRc.out; omega, show N2 - (kk + 2) = rn by have := hRc.out; omega]
        refine (HS.out.2 _ (H6.out.trans (by exact (Fr.refl _ _).drew))).mono ?_
        rintro e7 w7 ⟨rfl, hf7⟩
        have hf7' : Fr Non w6 w7 := Fr.trans (by exact (Fr.refl _ _).drew) hf7
        refine hK _ _ ⟨Mix.cls_fr (D := Non) hf7 (by simp), ?_⟩
        clear hK K
        have H7 := Lib.hid (H6.out.trans hf7')
        have e0 := hf7'.cell e0 id
        have e1 := hf7'.cell e1 id
        have e2 := hf7'.cell e2 id
        have e3 := hf7'.cell e3 id
        have f0 := hf7'.cell f0 id
        have f1 := hf7'.cell f1 id
        have f2 := hf7'.cell f2 id
        have f3 := hf7'.cell f3 id
        clear hf7 hf7'
        repeat (first | ((first | refine Mix.S_pure rfl rfl ?_ | refine Mix.S_load rfl rfl ?_); intro K hK; simp only [nA, nB, nC]; go_big_quiet_op; go_big_quiet_on) | refine Mix.S_skip0 rfl rfl ?_ | refine Mix.S_skip1 rfl rfl ?_)
        refine Mix.S_done ?_
        generalize (if d1 = kk + 1 then a1 else Option.map (fun x : Addr => x.add ((kk + 1) * 4)) a1) = sv1
        generalize (if d2 = kk + 2 then some (⟨tg, to, none⟩ : Addr) else some ⟨tg, to + (kk + 2) * 4, none⟩) = sv2
        go_wp2_with fail
        go_quiet (fail)
        go_wp2_with fail
        go_ret
        exact ⟨rfl, HF2.out.trans ((HF.out.1.mono fun x hx e => by omega).trans (HB.out.trans (H7.out.trans (by exact (by repeat (first | exact .refl _ _ | assumption | apply Fr.drewN | apply Fr.drew | apply Fr.drewl | apply Fr.drewNl | apply Fr.alloc))))))⟩

end Go.Proofs.Ytlbomnbpahmphaa
