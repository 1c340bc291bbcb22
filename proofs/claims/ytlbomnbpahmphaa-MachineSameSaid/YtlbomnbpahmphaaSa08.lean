/- Walks: 'tell', 'push', 'done', 'aborted' on a machine whose layout is hidden. Conditions: few events, few calls. -/
import Derived.Test.YtlbomnbpahmphaaSa07
namespace Go.Proofs.Ytlbomnbpahmphaa
open Go.RowKit

section
variable {base : Nat} {P : Pr} {A : Nat → Prop} {w : World} {m : Nat} {S : St} {L : Lay}

theorem tell_m (h : ML base P A w m S L) (hn : S.told.length ≤ 1000000000) (k t a n : Int) :
    Calls Try.prog 96 #[.pointer (some ⟨m, 0, none⟩), .agg #[.int .i64 k, .int .i64 t, .int .i64 a, .int .i64 n]] w fun e w' => e = .returned (.tuple #[]) ∧
      (∃ tv' A', ML base P A' w' m (S.tell k a n) { L with tv := tv' } ∧ ∀ x, A' x → A x ∨ w.heap.size ≤ x) ∧ Fr (fun x => x = m ∨ L.tv.ownBlock = some x) w w' := by
  refine (mtell_c h.row h.told hn k t a n).mono ?_
  rintro e w' ⟨rfl, tv', h1, h2, h3, h4⟩
  refine ⟨rfl, ⟨tv', _, h.upTold h1 (by simpa [St.tell] using h2) h3 h4, fun x hx => ?_⟩, h4⟩
  rcases hx with hx | hx
  · exact Or.inl hx
  · exact (h3 x hx).imp (h.ot x) id

theorem Cl.cs_len {c : Cl} (h : c.regs.length = 16) (io : Option Addr) (ic : Nat) : (c.cs io ic).length = 56 := by
  simp [Cl.cs, flat_len, h, Wd.cs]

theorem Cl.get_reg {c : Cl} (h : c.regs.length = 16) (io : Option Addr) (ic : Nat) {i : Nat} (hi : i < 16) :
    (c.cs io ic)[2 + i * 3]? = some (.bool (c.reg i).p) ∧ (c.cs io ic)[2 + i * 3 + 1]? = some (.int .i64 (c.reg i).a) ∧ (c.cs io ic)[2 + i * 3 + 2]? = some (.int .i64 (c.reg i).n) := by
  have hr : c.regs[i]? = some (c.reg i) := by
    unfold Cl.reg
    rw [Int.toNat_natCast, List.getD_eq_getElem?_getD, List.getElem?_eq_getElem (by omega)]
    rfl
  obtain ⟨h0, h1, h2⟩ := flat_get hr
  have hf : (flat c.regs).length = 48 := by rw [flat_len, h]
  unfold Cl.cs
  refine ⟨?_, ?_, ?_⟩
  · rw [show 2 + i * 3 = i * 3 + 1 + 1 by omega, List.getElem?_cons_succ, List.getElem?_cons_succ, List.getElem?_append_left (by omega)]
    exact h0
  · rw [show 2 + i * 3 + 1 = i * 3 + 1 + 1 + 1 by omega, List.getElem?_cons_succ, List.getElem?_cons_succ, List.getElem?_append_left (by omega)]
    exact h1
  · rw [show 2 + i * 3 + 2 = i * 3 + 2 + 1 + 1 by omega, List.getElem?_cons_succ, List.getElem?_cons_succ, List.getElem?_append_left (by omega)]
    exact h2
theorem Cl.set_reg {c : Cl} (h : c.regs.length = 16) (io : Option Addr) (ic : Nat) {i : Nat} (hi : i < 16) (x : Wd) :
    (((c.cs io ic).set (2 + i * 3) (.bool x.p)).set (2 + i * 3 + 1) (.int .i64 x.a)).set (2 + i * 3 + 2) (.int .i64 x.n) = (c.put i x).cs io ic := by
  have hf : (flat c.regs).length = 48 := by rw [flat_len, h]
  unfold Cl.cs Cl.put
  rw [show 2 + i * 3 = i * 3 + 1 + 1 by omega, show i * 3 + 1 + 1 + 1 = (i * 3 + 1) + 1 + 1 by omega, show i * 3 + 1 + 1 + 2 = (i * 3 + 2) + 1 + 1 by omega]
  simp only [List.set_cons_succ]
  rw [List.set_append_left _ _ (by omega), List.set_append_left _ _ (by rw [List.length_set]; omega), List.set_append_left _ _ (by rw [List.length_set, List.length_set]; omega), flat_set, Int.toNat_natCast]
theorem Cl.put_len {c : Cl} (i : Int) (x : Wd) : (c.put i x).regs.length = c.regs.length := by simp [Cl.put]
theorem ClAt.put {c : Cl} {b i : Nat} {io : Option Addr} {ic : Nat} (hr : Row w b 97 (c.cs io ic)) (h2 : InsAt base w io c.fn) (h3 : c.regs.length = 16) (hi : i < 16) (hb : base ≤ b) (x : Wd) :
    ClAt base (((w.setCell ⟨b, 2 + i * 3, none⟩ (.bool x.p)).setCell ⟨b, 2 + i * 3 + 1, none⟩ (.int .i64 x.a)).setCell ⟨b, 2 + i * 3 + 2, none⟩ (.int .i64 x.n)) b (c.put i x) := by
  refine ⟨io, ic, ?_, h2.fr (E := fun x => x = b) (((Fr.set1 _ _ _ _).trans (Fr.set1 _ _ _ _)).trans (Fr.set1 _ _ _ _)) (fun x hx => by omega), by rw [Cl.put_len, h3]⟩
  rw [← Cl.set_reg h3 io ic hi x]
  exact ((hr.set_same _ _).set_same _ _).set_same _ _
theorem Fr.set3 (w : World) (b o1 o2 o3 : Nat) (v1 v2 v3 : Value) : Fr (fun x => x = b) w (((w.setCell ⟨b, o1, none⟩ v1).setCell ⟨b, o2, none⟩ v2).setCell ⟨b, o3, none⟩ v3) := ((Fr.set1 _ _ _ _).trans (Fr.set1 _ _ _ _)).trans (Fr.set1 _ _ _ _)

theorem push_m (h : ML base P A w m S L) (hn : S.stack.length ≤ 1000000000) {i : Int} (h0 : 0 ≤ i) (h1 : i < P.funs.length) (c : Cl) (hr : c.regs.length = 16) (io : Option Addr) (il ic : Nat) :
    Calls Try.prog 57 #[.pointer (some ⟨m, 0, none⟩), .int .i64 i, .agg (Value.slice io il ic :: (c.cs io ic).tail).toArray] w fun e w' => e = .returned (.tuple #[]) ∧ Aft base P A w w' m (S.push P i c) := by
  obtain ⟨j, rfl⟩ := Int.eq_ofNat_of_zero_le h0
  have hj : j < P.funs.length := by omega
  obtain ⟨b, o, io', ic', e1, e2, e3⟩ := h.funs j P.funs[j] (List.getElem?_eq_getElem hj)
  have hrow := h.row
  unfold Lay.cells at hrow
  rw [e1] at hrow
  have hl := h.len
  refine (push_c hrow h.stk (by omega) e2.2 hj (Value.slice io il ic :: (c.cs io ic).tail) (by have := Cl.cs_len hr io ic; simp only [List.length_cons, List.length_tail]; omega)).mono ?_
  rintro e w' ⟨rfl, b', sv', k1, k2, k3, k4, k5, k6, k7⟩
  have hf : ClAt base w' b' { c with fn := P.fn j } := by
    refine ⟨io', ic', ?_, ?_, hr⟩
    · have : P.fn j = P.funs[j] := by unfold Pr.fn; rw [Int.toNat_natCast, List.getD_eq_getElem?_getD, List.getElem?_eq_getElem hj]; rfl
      rw [this]
      exact k3
    · have : P.fn j = P.funs[j] := by unfold Pr.fn; rw [Int.toNat_natCast, List.getD_eq_getElem?_getD, List.getElem?_eq_getElem hj]; rfl
      show InsAt base w' io' (P.fn j)
      rw [this]
      refine e3.fr k7 ?_
      intro x hx
      rcases hx with rfl | hx
      · exact h.high _ h.om
      · exact h.high _ (h.os x hx)
  refine ⟨rfl, ?_⟩
  have k1' : Row w' m 82 ({ L with sv := sv' }.cells P S.task S.fuel) := by
    unfold Lay.cells
    rw [show ({ L with sv := sv' } : Lay).fo = some ⟨b, o, none⟩ from e1]
    exact k1
  refine h.aft (h.upPush k1' k2 hf k4 k5 k7) ?_ (k7.mono ?_)
  · rintro x (hx | rfl | hx)
    · exact Or.inl hx
    · exact Or.inr k4
    · exact (k5 x hx).imp (h.os x) id
  · rintro x _ (rfl | hx)
    · exact h.om
    · exact h.os x hx

set_option maxRecDepth 100000 in
set_option maxHeartbeats 400000 in
theorem done_m (h : ML base P A w m S L) (hn : S.stack.length ≤ 1000000000) (c : Cl) (hr : c.regs.length = 16) (hi : c.role = 1 → 0 ≤ c.into ∧ c.into < 16) (io : Option Addr) (il ic : Nat) :
    Calls Try.prog 55 #[.pointer (some ⟨m, 0, none⟩), .agg (Value.slice io il ic :: (c.cs io ic).tail).toArray] w fun e w' => ∃ v, e = .returned v ∧ Res w' w.heap.size v (doneS S c).1 ∧ Aft base P A w w' m (doneS S c).2 := by
  obtain ⟨Q, hQ⟩ : ∃ Q, Q = Value.slice io il ic :: (c.cs io ic).tail := ⟨_, rfl⟩
  have q53 : Q[53]? = some (.int .i64 c.role) := by subst hQ; simp [Cl.cs, flat_len, hr, Wd.cs, List.getElem?_append]
  have q54 : Q[54]? = some (.int .i64 c.into) := by subst hQ; simp [Cl.cs, flat_len, hr, Wd.cs, List.getElem?_append]
  rw [← hQ]
  clear hQ
  have hm := h.mlt
  have hl := h.len
  have HH := Lib.hid h
  cases hs : S.stack with
  | nil =>
    have hb : L.bl = [] := List.eq_nil_of_length_eq_zero (by rw [hl, hs]; rfl)
    have hk := h.stk
    rw [hb] at hk
    obtain ⟨ao, cap, e, _⟩ := hk.form
    have c5 := h.c5
    rw [e] at c5
    simp only [List.length_nil] at c5
    unfold doneS
    rw [if_pos hs]
    clear hk h e hi hn hl hb q53 q54 hs
    rename_i hcap
    clear hcap
    go_enter Try.func55, Try.ntmps55
    go_wp2_with fail
    go_ret
    exact ⟨_, rfl, Or.inr ⟨_, 2, 0, rfl, rfl, Row.new' (by simp), by omega⟩, HH.out.aftN (by exact (by repeat (first | exact Fr.refl _ _ | assumption | refine Fr.drewN ?_ _ | refine Fr.drew ?_ | refine Fr.drewl ?_ | refine Fr.drewNl ?_ _ | refine Fr.alloc ?_ _)))⟩
  | cons d ds =>
    obtain ⟨b, bs, hb, hbl, hcl⟩ := h.atTop' hs
    obtain ⟨g, sc, e, hg, _⟩ := h.atTop hb
    have c5 := h.c5
    rw [e] at c5
    have h0 : ¬ ((bs.length : Int) + 1 = 0) := by omega
    have hd0 : (((bs.length : Int) + 1) == 0) = false := beq_false_of_ne h0
    obtain ⟨R, hR⟩ : ∃ R, R = doneS S c := ⟨_, rfl⟩
    rw [← hR]
    unfold doneS at hR
    rw [if_neg (by rw [hs]; simp)] at hR
    by_cases h1 : c.role = 1
    · obtain ⟨i0, i1⟩ := hi h1
      obtain ⟨i, hi⟩ := Int.eq_ofNat_of_zero_le i0
      rw [if_pos h1, hi] at hR
      rw [h1] at q53
      rw [hi] at q54 i1
      have hT := Lib.hid fun w1 (f : Fr Non w w1) => top_m (HH.out.frN f) hb (by omega)
      have hi16 : (i : Int) < 16 := i1
      have hi0 : (0 : Int) ≤ (i : Int) := by omega
      have HR := Lib.hid hR
      have HC := Lib.hid (And.intro hcl (And.intro hb hs))
      clear h e hn hl hR hbl hg hcl hb h1 hi i0 i1 hs hr
      go_enter Try.func55, Try.ntmps55
      go_wp2_with fail
      have b53 : (w.alloc (.cells Q.toArray 97)).cell? ⟨w.heap.size, 53, none⟩ = some (.int .i64 1) := (Row.new' rfl : Row (w.alloc (.cells Q.toArray 97)) w.heap.size 97 Q).cell q53
      have b54 : (w.alloc (.cells Q.toArray 97)).cell? ⟨w.heap.size, 54, none⟩ = some (.int .i64 i) := (Row.new' rfl : Row (w.alloc (.cells Q.toArray 97)) w.heap.size 97 Q).cell q54
      have hf0 : Fr Non w (w.alloc (.cells Q.toArray 97)) := by exact (by repeat (first | exact Fr.refl _ _ | assumption | refine Fr.drewN ?_ _ | refine Fr.drew ?_ | refine Fr.drewl ?_ | refine Fr.drewNl ?_ _ | refine Fr.alloc ?_ _))
      have hs0 : (w.alloc (.cells Q.toArray 97)).heap.size = w.heap.size + 1 := by simp
      generalize w.alloc (.cells Q.toArray 97) = W at *
      clear c5 q53 q54 b53
      have HW := Lib.hid hf0
      clear hf0
      have cW := @Mix.cls_drew W [w.heap.size]
      refine Mix.wp_region_mix [3] [(0, 0), (0, 2), (1, 3), (2, 1), (0, 5), (0, 6), (2, 4), (0, 7), (2, 8)] (fun V => ∃ g, V = Mix.upon W [w.heap.size] g) (by kernel_rfl) (by kernel_rfl) cW ?_
      clear cW
      repeat (first | (refine Mix.S_pure (o := _) rfl rfl ?_; intro K hK; simp only [List.getElem_toArray, List.getElem_cons_zero, List.getElem_cons_succ]; go_big_quiet_op; go_big_quiet_on) | (refine Mix.S_load (o := _) rfl rfl ?_; intro K hK; simp only [List.getElem_toArray, List.getElem_cons_zero, List.getElem_cons_succ]; go_big_quiet_op; go_big_quiet_on) | refine Mix.S_skip0 (o := _) rfl rfl ?_ | refine Mix.S_skip1 (o := _) rfl rfl ?_)
      refine Mix.S_eff (o := _) rfl rfl ?_
      intro K hK
      simp only [List.getElem_toArray, List.getElem_cons_zero, List.getElem_cons_succ]
      go_simp
      refine (hT.out _ (by exact HW.out.drew)).mono ?_
      rintro e1 w1 ⟨rfl, hf⟩
      refine hK _ _ ⟨Mix.cls_fr (D := Non) hf (by simp [Non]; omega), ?_⟩
      clear hK K
      have hf1 : Fr Non w w1 := Fr.trans (by exact HW.out.drew) hf
      have hs1 := hf.size
      simp only [World.size_drew] at hs1
      clear hf
      repeat (first | (refine Mix.S_pure (o := _) rfl rfl ?_; intro K hK; simp only [List.getElem_toArray, List.getElem_cons_zero, List.getElem_cons_succ]; go_big_quiet_op; go_big_quiet_on) | (refine Mix.S_load (o := _) rfl rfl ?_; intro K hK; simp only [List.getElem_toArray, List.getElem_cons_zero, List.getElem_cons_succ]; go_big_quiet_op; go_big_quiet_on) | refine Mix.S_skip0 (o := _) rfl rfl ?_ | refine Mix.S_skip1 (o := _) rfl rfl ?_)
      refine Mix.S_eff (o := _) rfl rfl ?_
      intro K hK
      simp only [List.getElem_toArray, List.getElem_cons_zero, List.getElem_cons_succ]
      go_simp
      refine (number_c _ 0).mono ?_
      rintro e1 w2 ⟨rfl, hf⟩
      refine hK _ _ ⟨Mix.cls_fr (D := Non) hf (by simp [Non]; omega), ?_⟩
      clear hK K
      have hf2 : Fr Non w w2 := hf1.trans hf
      have hs2 := hf.size
      clear hf hf1
      obtain ⟨io', ic', hrow, hins, hreg⟩ := HC.out.1.fr hf2 (high_non base) id
      have hzz := hrow.frozen
      have hbl := hrow.lt
      have hbw : b < w.heap.size := by obtain ⟨_, _, hrow', _⟩ := HC.out.1; exact hrow'.lt
      obtain ⟨e0, e1, e2⟩ := Cl.get_reg hreg io' ic' (i := i) (by omega)
      have y0 := hrow.cell e0
      have y1 := hrow.cell e1
      have y2 := hrow.cell e2
      have HF := Lib.hid (And.intro hf2 (And.intro hrow (And.intro hins hreg)))
      clear hf2 hrow hins hreg e0 e1 e2
      repeat (first | (refine Mix.S_pure (o := _) rfl rfl ?_; intro K hK; simp only [List.getElem_toArray, List.getElem_cons_zero, List.getElem_cons_succ]; go_big_quiet_op; go_big_quiet_on) | (refine Mix.S_load (o := _) rfl rfl ?_; intro K hK; simp only [List.getElem_toArray, List.getElem_cons_zero, List.getElem_cons_succ]; go_big_quiet_op; go_big_quiet_on) | refine Mix.S_skip0 (o := _) rfl rfl ?_ | refine Mix.S_skip1 (o := _) rfl rfl ?_)
      refine Mix.S_eff (o := _) rfl rfl ?_
      intro K hK
      simp only [List.getElem_toArray, List.getElem_cons_zero, List.getElem_cons_succ]
      go_simp
      refine hK _ _ ⟨Mix.cls_fr (D := fun x => x = b) (by exact Fr.set3 _ _ _ _ _ _ _ _) (by simp; omega), ?_⟩
      clear hK K
      repeat (first | (refine Mix.S_pure (o := _) rfl rfl ?_; intro K hK; simp only [List.getElem_toArray, List.getElem_cons_zero, List.getElem_cons_succ]; go_big_quiet_op; go_big_quiet_on) | (refine Mix.S_load (o := _) rfl rfl ?_; intro K hK; simp only [List.getElem_toArray, List.getElem_cons_zero, List.getElem_cons_succ]; go_big_quiet_op; go_big_quiet_on) | refine Mix.S_skip0 (o := _) rfl rfl ?_ | refine Mix.S_skip1 (o := _) rfl rfl ?_)
      refine Mix.S_done ?_
      go_wp2_with fail
      go_ret
      rw [HR.out]
      obtain ⟨hf2, hrow, hins, hreg⟩ := HF.out
      have htop : S.top = d := by unfold St.top; rw [HC.out.2.2]; rfl
      refine ⟨_, rfl, Or.inl ⟨rfl, rfl⟩, Aft.ahead hf2 ((HH.out.frN hf2).aftTop HC.out.2.1 (by rw [htop]; exact ClAt.put hrow hins hreg (by omega) (HH.out.high _ (HH.out.ob _ (by rw [HC.out.2.1]; exact List.mem_cons_self))) (num 0)) (Fr.set3 _ _ _ _ _ _ _ _))⟩
    · have h1' : (c.role == 1) = false := beq_false_of_ne h1
      rw [if_neg h1] at hR
      have HR := Lib.hid hR
      clear h e hn hl hR hbl hg hcl hb hs hr hi h1
      go_enter Try.func55, Try.ntmps55
      go_wp2_with fail
      go_ret
      rw [HR.out]
      exact ⟨_, rfl, Or.inl ⟨rfl, rfl⟩, HH.out.aftN (by exact (by repeat (first | exact Fr.refl _ _ | assumption | refine Fr.drewN ?_ _ | refine Fr.drew ?_ | refine Fr.drewl ?_ | refine Fr.drewNl ?_ _ | refine Fr.alloc ?_ _)))⟩

set_option maxRecDepth 100000 in
set_option maxHeartbeats 400000 in
theorem aborted_m (h : ML base P A w m S L) (hn : S.stack.length ≤ 1000000000) (c : Cl) (hr : c.regs.length = 16) (io : Option Addr) (il ic : Nat) :
    Calls Try.prog 56 #[.pointer (some ⟨m, 0, none⟩), .agg (Value.slice io il ic :: (c.cs io ic).tail).toArray] w fun e w' => ∃ v, e = .returned v ∧ Res w' w.heap.size v (abortedS S c).1 ∧ Aft base P A w w' m (abortedS S c).2 := by
  obtain ⟨Q, hQ⟩ : ∃ Q, Q = Value.slice io il ic :: (c.cs io ic).tail := ⟨_, rfl⟩
  have q55 : Q[55]? = some (.int .i64 c.label) := by subst hQ; simp [Cl.cs, flat_len, hr, Wd.cs, List.getElem?_append]
  rw [← hQ]
  clear hQ hr
  have hm := h.mlt
  have hl := h.len
  have HH := Lib.hid h
  cases hs : S.stack with
  | nil =>
    have hb : L.bl = [] := List.eq_nil_of_length_eq_zero (by rw [hl, hs]; rfl)
    have hk := h.stk
    rw [hb] at hk
    obtain ⟨ao, cap, e, hcap⟩ := hk.form
    have c5 := h.c5
    rw [e] at c5
    simp only [List.length_nil] at c5
    unfold abortedS
    rw [if_pos hs]
    clear hk h e hn hl hb q55 hs hcap
    go_enter Try.func56, Try.ntmps56
    go_wp2_with fail
    go_ret
    exact ⟨_, rfl, Or.inr ⟨_, 3, 0, rfl, rfl, Row.new' (by simp), by omega⟩, HH.out.aftN (by exact (by repeat (first | exact Fr.refl _ _ | assumption | refine Fr.drewN ?_ _ | refine Fr.drew ?_ | refine Fr.drewl ?_ | refine Fr.drewNl ?_ _ | refine Fr.alloc ?_ _)))⟩
  | cons d ds =>
    obtain ⟨b, bs, hb, hbl, hcl⟩ := h.atTop' hs
    obtain ⟨g, sc, e, hg, hsc⟩ := h.atTop hb
    have c5 := h.c5
    rw [e] at c5
    have h0 : ¬ ((bs.length : Int) + 1 = 0) := by omega
    have hd0 : (((bs.length : Int) + 1) == 0) = false := beq_false_of_ne h0
    obtain ⟨R, hR⟩ : ∃ R, R = abortedS S c := ⟨_, rfl⟩
    rw [← hR]
    unfold abortedS at hR
    rw [if_neg (by rw [hs]; simp)] at hR
    have hT := Lib.hid fun w1 (f : Fr Non w w1) => top_m (HH.out.frN f) hb (by omega)
    have HR := Lib.hid hR
    have HC := Lib.hid (And.intro hcl (And.intro hb hs))
    clear h e hn hl hR hbl hg hcl hb hs hsc
    go_enter Try.func56, Try.ntmps56
    go_wp2_with fail
    have b55 : (w.alloc (.cells Q.toArray 97)).cell? ⟨w.heap.size, 55, none⟩ = some (.int .i64 c.label) := (Row.new' rfl : Row (w.alloc (.cells Q.toArray 97)) w.heap.size 97 Q).cell q55
    have hf0 : Fr Non w (w.alloc (.cells Q.toArray 97)) := by exact (by repeat (first | exact Fr.refl _ _ | assumption | refine Fr.drewN ?_ _ | refine Fr.drew ?_ | refine Fr.drewl ?_ | refine Fr.drewNl ?_ _ | refine Fr.alloc ?_ _))
    have hs0 : (w.alloc (.cells Q.toArray 97)).heap.size = w.heap.size + 1 := by simp
    generalize w.alloc (.cells Q.toArray 97) = W at *
    clear c5 q55
    have HW := Lib.hid hf0
    clear hf0
    have cW := @Mix.cls_drew W [w.heap.size]
    refine Mix.wp_region_mix [3] [(0, 0), (0, 2), (1, 3), (2, 1), (0, 4), (0, 5), (2, 6)] (fun V => ∃ g, V = Mix.upon W [w.heap.size] g) (by kernel_rfl) (by kernel_rfl) cW ?_
    clear cW
    repeat (first | (refine Mix.S_pure (o := _) rfl rfl ?_; intro K hK; simp only [List.getElem_toArray, List.getElem_cons_zero, List.getElem_cons_succ]; go_big_quiet_op; go_big_quiet_on) | (refine Mix.S_load (o := _) rfl rfl ?_; intro K hK; simp only [List.getElem_toArray, List.getElem_cons_zero, List.getElem_cons_succ]; go_big_quiet_op; go_big_quiet_on) | refine Mix.S_skip0 (o := _) rfl rfl ?_ | refine Mix.S_skip1 (o := _) rfl rfl ?_)
    refine Mix.S_eff (o := _) rfl rfl ?_
    intro K hK
    simp only [List.getElem_toArray, List.getElem_cons_zero, List.getElem_cons_succ]
    go_simp
    refine (hT.out _ (by exact HW.out.drew)).mono ?_
    rintro e1 w1 ⟨rfl, hf⟩
    refine hK _ _ ⟨Mix.cls_fr (D := Non) hf (by simp [Non]; omega), ?_⟩
    clear hK K
    have hf1 : Fr Non w w1 := Fr.trans (by exact HW.out.drew) hf
    have hs1 := hf.size
    simp only [World.size_drew] at hs1
    clear hf
    obtain ⟨io', ic', hrow, hins, hreg⟩ := HC.out.1.fr hf1 (high_non base) id
    have hzz := hrow.frozen
    have hbl := hrow.lt
    have hbw : b < w.heap.size := by obtain ⟨_, _, hrow', _⟩ := HC.out.1; exact hrow'.lt
    have y1 := hrow.cell (o := 1) rfl
    have HF := Lib.hid (And.intro hf1 (And.intro hrow (And.intro hins hreg)))
    clear hf1 hrow hins hreg
    repeat (first | (refine Mix.S_pure (o := _) rfl rfl ?_; intro K hK; simp only [List.getElem_toArray, List.getElem_cons_zero, List.getElem_cons_succ]; go_big_quiet_op; go_big_quiet_on) | (refine Mix.S_load (o := _) rfl rfl ?_; intro K hK; simp only [List.getElem_toArray, List.getElem_cons_zero, List.getElem_cons_succ]; go_big_quiet_op; go_big_quiet_on) | refine Mix.S_skip0 (o := _) rfl rfl ?_ | refine Mix.S_skip1 (o := _) rfl rfl ?_)
    refine Mix.S_eff (o := _) rfl rfl ?_
    intro K hK
    simp only [List.getElem_toArray, List.getElem_cons_zero, List.getElem_cons_succ]
    go_simp
    refine hK _ _ ⟨Mix.cls_fr (D := fun x => x = b) (by exact Fr.set1 _ _ _ _) (by simp; omega), ?_⟩
    clear hK K
    repeat (first | (refine Mix.S_pure (o := _) rfl rfl ?_; intro K hK; simp only [List.getElem_toArray, List.getElem_cons_zero, List.getElem_cons_succ]; go_big_quiet_op; go_big_quiet_on) | (refine Mix.S_load (o := _) rfl rfl ?_; intro K hK; simp only [List.getElem_toArray, List.getElem_cons_zero, List.getElem_cons_succ]; go_big_quiet_op; go_big_quiet_on) | refine Mix.S_skip0 (o := _) rfl rfl ?_ | refine Mix.S_skip1 (o := _) rfl rfl ?_)
    refine Mix.S_done ?_
    go_wp2_with fail
    go_ret
    rw [HR.out]
    obtain ⟨hf2, hrow, hins, hreg⟩ := HF.out
    have htop : S.top = d := by unfold St.top; rw [HC.out.2.2]; rfl
    refine ⟨_, rfl, Or.inl ⟨rfl, rfl⟩, Aft.ahead hf2 ((HH.out.frN hf2).aftTop HC.out.2.1 ?_ (Fr.set1 _ _ _ _))⟩
    rw [htop]
    exact ⟨io', ic', hrow.set_same 1 _, hins.fr (E := fun x => x = b) (Fr.set1 _ _ _ _) (fun x hx => hx ▸ HH.out.high _ (HH.out.ob _ (by rw [HC.out.2.1]; exact List.mem_cons_self))), hreg⟩
end

end Go.Proofs.Ytlbomnbpahmphaa

/- Walks: 'goOn', 'freed', 'stop' on a machine whose layout is hidden. Conditions: few calls; what the coroutines name is there. -/
namespace Go.Proofs.Ytlbomnbpahmphaa
open Go.RowKit

/-- What the coroutines name is there. -/
structure PrOk (P : Pr) : Prop where
  res : ∀ x ∈ P.cos, 0 ≤ x.resume ∧ x.resume < P.funs.length
  can : ∀ x ∈ P.cos, 0 ≤ x.cancel ∧ x.cancel < P.funs.length

theorem stateS_co {P : Pr} {M : Mem} {p : Wd} (h : (stateS P M p).2.2 = 0) : (stateS P M p).2.1 ∈ P.cos := by
  unfold stateS at *
  split at h
  · rename_i h1; exact absurd h h1
  · split at h
    · rename_i h1; exact absurd h h1
    · split at h
      · cases h
      · rename_i h1 h2 h3
        rw [if_neg h1, if_neg h2, if_neg h3]
        unfold Pr.co
        simp only [not_or, Int.not_lt, Int.not_le] at h3
        rw [List.getD_eq_getElem?_getD, List.getElem?_eq_getElem (by omega)]
        exact List.getElem_mem _

theorem Cl.set_frame {c : Cl} (h : c.regs.length = 16) (io : Option Addr) (il ic : Nat) (x : Wd) :
    (((Value.slice io il ic :: (c.cs io ic).tail).set 50 (.bool x.p)).set 51 (.int .i64 x.a)).set 52 (.int .i64 x.n) = Value.slice io il ic :: (({ c with frame := x } : Cl).cs io ic).tail := by
  have hf : (flat c.regs).length = 48 := by rw [flat_len, h]
  unfold Cl.cs
  rw [List.tail_cons]
  generalize hF : flat c.regs = F at *
  simp [List.set_append, hf, Wd.cs]

theorem Cl.new_lit (p : Wd) (r i l : Int) : (Value.slice none 0 0 :: ((Cl.new p r i l).cs none 0).tail).toArray = #[.slice none 0 0, .int .i64 0, .bool false, .int .i64 0, .int .i64 0, .bool false, .int .i64 0, .int .i64 0, .bool false, .int .i64 0, .int .i64 0, .bool false, .int .i64 0, .int .i64 0, .bool false, .int .i64 0, .int .i64 0, .bool false, .int .i64 0, .int .i64 0, .bool false, .int .i64 0, .int .i64 0, .bool false, .int .i64 0, .int .i64 0, .bool false, .int .i64 0, .int .i64 0, .bool false, .int .i64 0, .int .i64 0, .bool false, .int .i64 0, .int .i64 0, .bool false, .int .i64 0, .int .i64 0, .bool false, .int .i64 0, .int .i64 0, .bool false, .int .i64 0, .int .i64 0, .bool false, .int .i64 0, .int .i64 0, .bool false, .int .i64 0, .int .i64 0, .bool p.p, .int .i64 p.a, .int .i64 p.n, .int .i64 r, .int .i64 i, .int .i64 l] := rfl

/-- A whole call is loaded: what lies in its block must be known, whole. -/
theorem wpList_loadcall {ops : Array Oper} {rest : List Oper} {a : Act} {w : World} {Q : Exit → Act → World → Prop} {dst : Option Tmp} {type : TypeId} {pos : String} {after : Array Edge} (t g : Nat)
    (hx : a.eval (.tmp t) = .pointer (some ⟨g, 0, none⟩)) (h : ∃ cs, Row w g 97 cs ∧ cs.length = 56 ∧ wpList Try.prog ops Q rest (a.put dst (.agg cs.toArray)) w) : wpList Try.prog ops Q ({ dst := dst, op := .load 97 (.tmp t), type := type, pos := pos, after := after, guard := none } :: rest) a w := by
  obtain ⟨cs, h1, h2, h3⟩ := h
  refine wpList_load_row rfl 97 (.tmp t) rfl g hx 97 cs.toArray (0, 0) _ h1 Try.underlying97 rfl ?_ h3
  simp only [List.size_toArray, h2]
  kernel_rfl

theorem Res.lo {w : World} {lo lo' : Nat} {v : Value} {r : Option (Int × Int)} (h : Res w lo v r) (hl : lo' ≤ lo) : Res w lo' v r := by
  rcases h with h | ⟨b, k, n, h1, h2, h3, h4⟩
  · exact Or.inl h
  · exact Or.inr ⟨b, k, n, h1, h2, h3, Nat.le_trans hl h4⟩

section
variable {base : Nat} {P : Pr} {A : Nat → Prop} {w : World} {m : Nat} {S : St} {L : Lay}

theorem state_m (h : ML base P A w m S L) (p : Bool) (a n : Int) :
    Calls Try.prog 54 #[.pointer (some ⟨m, 0, none⟩), .agg #[.bool p, .int .i64 a, .int .i64 n]] w fun e w' => e = .returned (.tuple #[.int .i64 (stateS P S.mem ⟨p, a, n⟩).1, .agg (stateS P S.mem ⟨p, a, n⟩).2.1.cs.toArray, .int .i64 (stateS P S.mem ⟨p, a, n⟩).2.2]) ∧ Fr Non w w' :=
  state_c h.c1 h.c2 h.mem h.cos.at p a n

set_option maxRecDepth 100000 in
set_option maxHeartbeats 1000000 in
theorem goOn_m (h : ML base P A w m S L) (hn : S.stack.length ≤ 1000000000) (hP : PrOk P) (p : Bool) (a n : Int) (c : Cl) (hr : c.regs.length = 16) (hi : c.role = 1 → 0 ≤ c.into ∧ c.into < 16) (io : Option Addr) (il ic : Nat) :
    Calls Try.prog 37 #[.pointer (some ⟨m, 0, none⟩), .agg #[.bool p, .int .i64 a, .int .i64 n], .agg (Value.slice io il ic :: (c.cs io ic).tail).toArray] w fun e w' => ∃ v, e = .returned v ∧ Res w' w.heap.size v (goOnS P S ⟨p, a, n⟩ c).1 ∧ Aft base P A w w' m (goOnS P S ⟨p, a, n⟩ c).2 := by
  have hq := Cl.set_frame hr io il ic ⟨p, a, n⟩
  have hql : (Value.slice io il ic :: (c.cs io ic).tail).length = 56 := by have := Cl.cs_len hr io ic; simp only [List.length_cons, List.length_tail]; omega
  generalize Value.slice io il ic :: (c.cs io ic).tail = Q at *
  have hm := h.mlt
  have hS := Lib.hid fun w1 (f : Fr Non w w1) => state_m (h.frN f) p a n
  have hco := @stateS_co P S.mem ⟨p, a, n⟩
  obtain ⟨R, hR⟩ : ∃ R, R = goOnS P S ⟨p, a, n⟩ c := ⟨_, rfl⟩
  rw [← hR]
  unfold goOnS at hR
  generalize stateS P S.mem ⟨p, a, n⟩ = T at *
  obtain ⟨s, ⟨xn, xr, xc, xw, xa⟩, er⟩ := T
  simp only [Cr.cs] at hS hR hco
  have HR := Lib.hid hR
  have HH := Lib.hid (And.intro h (And.intro hn (And.intro hP (And.intro hr (And.intro hi (And.intro hco (And.intro hq hql)))))))
  clear h hn hP hr hi hR hco hq hql
  by_cases he : er = 0
  · subst he
    by_cases hs1 : s = -1
    · subst hs1
      go_enter Try.func37, Try.ntmps37
      go_wp2_with fail
      refine (hS.out _ (by exact (by repeat (first | exact Fr.refl _ _ | assumption | refine Fr.drewN ?_ _ | refine Fr.drew ?_ | refine Fr.drewl ?_ | refine Fr.drewNl ?_ _ | refine Fr.alloc ?_ _)))).mono ?_
      rintro e1 w1 ⟨rfl, hf⟩
      have xw' : Row w1 w.heap.size 38 [.bool p, .int .i64 a, .int .i64 n] := hf.row (by exact (Row.new' rfl : Row (w.alloc (.cells #[.bool p, .int .i64 a, .int .i64 n] 38)) w.heap.size 38 [.bool p, .int .i64 a, .int .i64 n]).alloc _) id
      have xq : Row w1 (w.heap.size + 1) 97 Q := hf.row (by exact Row.new' (by simp)) id
      have hf1 : Fr Non w w1 := Fr.trans (by exact (by repeat (first | exact Fr.refl _ _ | assumption | refine Fr.drewN ?_ _ | refine Fr.drew ?_ | refine Fr.drewl ?_ | refine Fr.drewNl ?_ _ | refine Fr.alloc ?_ _))) hf
      have HF := Lib.hid (And.intro hf1 xq)
      obtain ⟨q0, q1, q2, qz⟩ := row3 xw'
      have hqz := xq.frozen
      have hql := xq.lt
      have hwl := xw'.lt
      have z0 : w1.cell? ⟨w.heap.size + 1, 50, none⟩ = some (Q.getD 50 undef) := xq.cell (by rw [List.getD_eq_getElem?_getD, List.getElem?_eq_getElem (by have := HH.out.2.2.2.2.2.2.2; omega)]; rfl)
      have z1 : w1.cell? ⟨w.heap.size + 1, 51, none⟩ = some (Q.getD 51 undef) := xq.cell (by rw [List.getD_eq_getElem?_getD, List.getElem?_eq_getElem (by have := HH.out.2.2.2.2.2.2.2; omega)]; rfl)
      have z2 : w1.cell? ⟨w.heap.size + 1, 52, none⟩ = some (Q.getD 52 undef) := xq.cell (by rw [List.getD_eq_getElem?_getD, List.getElem?_eq_getElem (by have := HH.out.2.2.2.2.2.2.2; omega)]; rfl)
      clear hf hf1 xq xw'
      go_wp2_with (refine wpList_loadcall 5 (w.heap.size + 1) rfl ?_)
      refine ⟨_, ((((HF.out.2.set_same 50 _).set_same 51 _).set_same 52 _).alloc _), by simp [HH.out.2.2.2.2.2.2.2], ?_⟩
      obtain ⟨hML, hn, hP, hr, hi, hco, hq, hql'⟩ := HH.out
      rw [hq]
      have hfW : Fr Non w ((((w1.setCell ⟨w.heap.size + 1, 50, none⟩ (.bool p)).setCell ⟨w.heap.size + 1, 51, none⟩ (.int .i64 a)).setCell ⟨w.heap.size + 1, 52, none⟩ (.int .i64 n)).alloc (.cells #[.string xn, .int .i64 xr, .int .i64 xc, .int .i64 xw, .int .i64 xa] 84)) := (((HF.out.1.set_new (by omega)).set_new (by omega)).set_new (by omega)).alloc _
      generalize (((w1.setCell ⟨w.heap.size + 1, 50, none⟩ (.bool p)).setCell ⟨w.heap.size + 1, 51, none⟩ (.int .i64 a)).setCell ⟨w.heap.size + 1, 52, none⟩ (.int .i64 n)).alloc (.cells #[.string xn, .int .i64 xr, .int .i64 xc, .int .i64 xw, .int .i64 xa] 84) = W at *
      have hD := done_m (hML.frN hfW) hn { c with frame := ⟨p, a, n⟩ } hr hi io il ic
      have hR := HR.out
      rw [if_neg (by simp), if_pos (by first | trivial | simp)] at hR
      rw [← hR] at hD
      have HW := Lib.hid hfW
      have HD := Lib.hid hD
      clear hML hn hP hr hi hco hq hql' hfW hD hR
      go_wp2_with fail
      refine HD.out.mono ?_
      rintro e2 w2 ⟨v, rfl, hres, haft⟩
      have HE := Lib.hid (And.intro hres haft)
      clear hres haft
      go_wp2_with fail
      go_ret
      exact ⟨_, rfl, HE.out.1.lo HW.out.size, HE.out.2.ahead HW.out⟩
    · have hs1' : (s == -1) = false := beq_false_of_ne hs1
      by_cases hs2 : s = -2
      · subst hs2
        go_enter Try.func37, Try.ntmps37
        go_wp2_with fail
        refine (hS.out _ (by exact (by repeat (first | exact Fr.refl _ _ | assumption | refine Fr.drewN ?_ _ | refine Fr.drew ?_ | refine Fr.drewl ?_ | refine Fr.drewNl ?_ _ | refine Fr.alloc ?_ _)))).mono ?_
        rintro e1 w1 ⟨rfl, hf⟩
        have xw' : Row w1 w.heap.size 38 [.bool p, .int .i64 a, .int .i64 n] := hf.row (by exact (Row.new' rfl : Row (w.alloc (.cells #[.bool p, .int .i64 a, .int .i64 n] 38)) w.heap.size 38 [.bool p, .int .i64 a, .int .i64 n]).alloc _) id
        have xq : Row w1 (w.heap.size + 1) 97 Q := hf.row (by exact Row.new' (by simp)) id
        have hf1 : Fr Non w w1 := Fr.trans (by exact (by repeat (first | exact Fr.refl _ _ | assumption | refine Fr.drewN ?_ _ | refine Fr.drew ?_ | refine Fr.drewl ?_ | refine Fr.drewNl ?_ _ | refine Fr.alloc ?_ _))) hf
        have HF := Lib.hid (And.intro hf1 xq)
        obtain ⟨q0, q1, q2, qz⟩ := row3 xw'
        have hqz := xq.frozen
        have hql := xq.lt
        have hwl := xw'.lt
        have z0 : w1.cell? ⟨w.heap.size + 1, 50, none⟩ = some (Q.getD 50 undef) := xq.cell (by rw [List.getD_eq_getElem?_getD, List.getElem?_eq_getElem (by have := HH.out.2.2.2.2.2.2.2; omega)]; rfl)
        have z1 : w1.cell? ⟨w.heap.size + 1, 51, none⟩ = some (Q.getD 51 undef) := xq.cell (by rw [List.getD_eq_getElem?_getD, List.getElem?_eq_getElem (by have := HH.out.2.2.2.2.2.2.2; omega)]; rfl)
        have z2 : w1.cell? ⟨w.heap.size + 1, 52, none⟩ = some (Q.getD 52 undef) := xq.cell (by rw [List.getD_eq_getElem?_getD, List.getElem?_eq_getElem (by have := HH.out.2.2.2.2.2.2.2; omega)]; rfl)
        clear hf hf1 xq xw'
        go_wp2_with (refine wpList_loadcall 5 (w.heap.size + 1) rfl ?_)
        refine ⟨_, ((((HF.out.2.set_same 50 _).set_same 51 _).set_same 52 _).alloc _), by simp [HH.out.2.2.2.2.2.2.2], ?_⟩
        obtain ⟨hML, hn, hP, hr, hi, hco, hq, hql'⟩ := HH.out
        rw [hq]
        have hfW : Fr Non w ((((w1.setCell ⟨w.heap.size + 1, 50, none⟩ (.bool p)).setCell ⟨w.heap.size + 1, 51, none⟩ (.int .i64 a)).setCell ⟨w.heap.size + 1, 52, none⟩ (.int .i64 n)).alloc (.cells #[.string xn, .int .i64 xr, .int .i64 xc, .int .i64 xw, .int .i64 xa] 84)) := (((HF.out.1.set_new (by omega)).set_new (by omega)).set_new (by omega)).alloc _
        generalize (((w1.setCell ⟨w.heap.size + 1, 50, none⟩ (.bool p)).setCell ⟨w.heap.size + 1, 51, none⟩ (.int .i64 a)).setCell ⟨w.heap.size + 1, 52, none⟩ (.int .i64 n)).alloc (.cells #[.string xn, .int .i64 xr, .int .i64 xc, .int .i64 xw, .int .i64 xa] 84) = W at *
        have hD := aborted_m (hML.frN hfW) hn { c with frame := ⟨p, a, n⟩ } hr io il ic
        have hR := HR.out
        rw [if_neg (by simp), if_neg (by simp), if_pos (by first | trivial | simp)] at hR
        rw [← hR] at hD
        have HW := Lib.hid hfW
        have HD := Lib.hid hD
        clear hML hn hP hr hi hco hq hql' hfW hD hR
        go_wp2_with fail
        refine HD.out.mono ?_
        rintro e2 w2 ⟨v, rfl, hres, haft⟩
        have HE := Lib.hid (And.intro hres haft)
        clear hres haft
        go_wp2_with fail
        go_ret
        exact ⟨_, rfl, HE.out.1.lo HW.out.size, HE.out.2.ahead HW.out⟩
      · have hs2' : (s == -2) = false := beq_false_of_ne hs2
        go_enter Try.func37, Try.ntmps37
        go_wp2_with fail
        refine (hS.out _ (by exact (by repeat (first | exact Fr.refl _ _ | assumption | refine Fr.drewN ?_ _ | refine Fr.drew ?_ | refine Fr.drewl ?_ | refine Fr.drewNl ?_ _ | refine Fr.alloc ?_ _)))).mono ?_
        rintro e1 w1 ⟨rfl, hf⟩
        have xw' : Row w1 w.heap.size 38 [.bool p, .int .i64 a, .int .i64 n] := hf.row (by exact (Row.new' rfl : Row (w.alloc (.cells #[.bool p, .int .i64 a, .int .i64 n] 38)) w.heap.size 38 [.bool p, .int .i64 a, .int .i64 n]).alloc _) id
        have xq : Row w1 (w.heap.size + 1) 97 Q := hf.row (by exact Row.new' (by simp)) id
        have hf1 : Fr Non w w1 := Fr.trans (by exact (by repeat (first | exact Fr.refl _ _ | assumption | refine Fr.drewN ?_ _ | refine Fr.drew ?_ | refine Fr.drewl ?_ | refine Fr.drewNl ?_ _ | refine Fr.alloc ?_ _))) hf
        have HF := Lib.hid (And.intro hf1 xq)
        obtain ⟨q0, q1, q2, qz⟩ := row3 xw'
        have hqz := xq.frozen
        have hql := xq.lt
        have hwl := xw'.lt
        have z0 : w1.cell? ⟨w.heap.size + 1, 50, none⟩ = some (Q.getD 50 undef) := xq.cell (by rw [List.getD_eq_getElem?_getD, List.getElem?_eq_getElem (by have := HH.out.2.2.2.2.2.2.2; omega)]; rfl)
        have z1 : w1.cell? ⟨w.heap.size + 1, 51, none⟩ = some (Q.getD 51 undef) := xq.cell (by rw [List.getD_eq_getElem?_getD, List.getElem?_eq_getElem (by have := HH.out.2.2.2.2.2.2.2; omega)]; rfl)
        have z2 : w1.cell? ⟨w.heap.size + 1, 52, none⟩ = some (Q.getD 52 undef) := xq.cell (by rw [List.getD_eq_getElem?_getD, List.getElem?_eq_getElem (by have := HH.out.2.2.2.2.2.2.2; omega)]; rfl)
        clear hf hf1 xq xw'
        go_wp2_with (refine wpList_loadcall 5 (w.heap.size + 1) rfl ?_)
        refine ⟨_, ((((HF.out.2.set_same 50 _).set_same 51 _).set_same 52 _).alloc _), by simp [HH.out.2.2.2.2.2.2.2], ?_⟩
        obtain ⟨hML, hn, hP, hr, hi, hco, hq, hql'⟩ := HH.out
        rw [hq]
        have hfW : Fr Non w ((((w1.setCell ⟨w.heap.size + 1, 50, none⟩ (.bool p)).setCell ⟨w.heap.size + 1, 51, none⟩ (.int .i64 a)).setCell ⟨w.heap.size + 1, 52, none⟩ (.int .i64 n)).alloc (.cells #[.string xn, .int .i64 xr, .int .i64 xc, .int .i64 xw, .int .i64 xa] 84)) := (((HF.out.1.set_new (by omega)).set_new (by omega)).set_new (by omega)).alloc _
        generalize (((w1.setCell ⟨w.heap.size + 1, 50, none⟩ (.bool p)).setCell ⟨w.heap.size + 1, 51, none⟩ (.int .i64 a)).setCell ⟨w.heap.size + 1, 52, none⟩ (.int .i64 n)).alloc (.cells #[.string xn, .int .i64 xr, .int .i64 xc, .int .i64 xw, .int .i64 xa] 84) = W at *
        have hx := hP.res _ (hco (by simp))
        have hD := push_m (hML.frN hfW) hn hx.1 hx.2 { c with frame := ⟨p, a, n⟩ } hr io il ic
        have hR := HR.out
        rw [if_neg (by simp), if_neg hs1, if_neg hs2] at hR
        have HW := Lib.hid hfW
        have HD := Lib.hid hD
        clear hML hn hP hr hi hco hq hql' hfW hD hR hx
        go_wp2_with fail
        refine HD.out.mono ?_
        rintro e2 w2 ⟨rfl, haft⟩
        have HE := Lib.hid haft
        clear haft
        go_wp2_with fail
        go_ret
        rw [HR.out, if_neg (by simp), if_neg hs1, if_neg hs2]
        exact ⟨_, rfl, Or.inl ⟨rfl, rfl⟩, HE.out.ahead HW.out⟩
  · have he' : (er == 0) = false := beq_false_of_ne he
    have hen : (er != 0) = true := by simp [he]
    go_enter Try.func37, Try.ntmps37
    go_wp2_with fail
    refine (hS.out _ (by exact (by repeat (first | exact Fr.refl _ _ | assumption | refine Fr.drewN ?_ _ | refine Fr.drew ?_ | refine Fr.drewl ?_ | refine Fr.drewNl ?_ _ | refine Fr.alloc ?_ _)))).mono ?_
    rintro e1 w1 ⟨rfl, hf⟩
    have xw' : Row w1 w.heap.size 38 [.bool p, .int .i64 a, .int .i64 n] := hf.row (by exact (Row.new' rfl : Row (w.alloc (.cells #[.bool p, .int .i64 a, .int .i64 n] 38)) w.heap.size 38 [.bool p, .int .i64 a, .int .i64 n]).alloc _) id
    have xq : Row w1 (w.heap.size + 1) 97 Q := hf.row (by exact Row.new' (by simp)) id
    have hf1 : Fr Non w w1 := Fr.trans (by exact (by repeat (first | exact Fr.refl _ _ | assumption | refine Fr.drewN ?_ _ | refine Fr.drew ?_ | refine Fr.drewl ?_ | refine Fr.drewNl ?_ _ | refine Fr.alloc ?_ _))) hf
    have HF := Lib.hid (And.intro hf1 xq)
    obtain ⟨q0, q1, q2, qz⟩ := row3 xw'
    have hqz := xq.frozen
    have hql := xq.lt
    have hwl := xw'.lt
    have z0 : w1.cell? ⟨w.heap.size + 1, 50, none⟩ = some (Q.getD 50 undef) := xq.cell (by rw [List.getD_eq_getElem?_getD, List.getElem?_eq_getElem (by have := HH.out.2.2.2.2.2.2.2; omega)]; rfl)
    have z1 : w1.cell? ⟨w.heap.size + 1, 51, none⟩ = some (Q.getD 51 undef) := xq.cell (by rw [List.getD_eq_getElem?_getD, List.getElem?_eq_getElem (by have := HH.out.2.2.2.2.2.2.2; omega)]; rfl)
    have z2 : w1.cell? ⟨w.heap.size + 1, 52, none⟩ = some (Q.getD 52 undef) := xq.cell (by rw [List.getD_eq_getElem?_getD, List.getElem?_eq_getElem (by have := HH.out.2.2.2.2.2.2.2; omega)]; rfl)
    clear hf hf1 xq xw'
    have hE := Lib.hid fun w1 => failed_r w1 er he
    go_wp2_with fail
    refine (hE.out _).mono ?_
    rintro e2 w2 ⟨v, rfl, hres, hf2⟩
    have HE := Lib.hid (And.intro hres hf2)
    clear hres hf2
    go_wp2_with fail
    go_ret
    rw [HR.out, if_pos he]
    exact ⟨_, rfl, HE.out.1.lo (by simp; omega), HH.out.1.aftN (Fr.trans (by exact HF.out.1.alloc _) HE.out.2)⟩
end

end Go.Proofs.Ytlbomnbpahmphaa
