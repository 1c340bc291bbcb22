/- Walks: the machine's 'step'. Conditions: the layout hidden; the call that runs stands at an instruction that may be there; few calls, events and blocks. -/
import Derived.Test.YtlbomnbpahmphaaSa14
namespace Go.Proofs.Ytlbomnbpahmphaa
open Go.RowKit

section
variable {base : Nat} {P : Pr} {A : Nat → Prop} {w : World} {m : Nat} {S : St} {L : Lay}

theorem Aft.size {w' : World} (h : Aft base P A w w' m S) : w.heap.size ≤ w'.heap.size := by
  obtain ⟨_, _, _, h⟩ := h
  exact h.size

set_option maxRecDepth 100000 in
set_option maxHeartbeats 4000000 in
theorem step_m (h : ML base P A w m S L) (hn : S.stack.length ≤ 1000000000) (ht : S.told.length ≤ 1000000000) (hB : S.mem.blocks.length < 1000000000000) (hP : PrOk P) (hi : ∀ c ∈ S.stack, c.role = 1 → 0 ≤ c.into ∧ c.into < 16)
    {c : Cl} {cs : List Cl} (hs : S.stack = c :: cs) {x : In} {i : Nat} (hat : c.at_ = i) (hx : c.fn[i]? = some x) (hok : InOk P c.fn.length x) (hbig : c.fn.length ≤ 1000000000) :
    Calls Try.prog 53 #[.pointer (some ⟨m, 0, none⟩)] w fun e w' => ∃ v, e = .returned v ∧ Res w' w.heap.size v (stepS P S).1 ∧ Aft base P A w w' m (stepS P S).2 := by
  have hm := h.mlt
  obtain ⟨b, bs, hb, hbl, hcl⟩ := h.atTop' hs
  obtain ⟨io, ic, hrow, hins, hreg⟩ := hcl
  have hbw := hrow.lt
  have hbm : b ∈ L.bl := by rw [hb]; exact List.mem_cons_self
  have hlen : L.bl.length ≤ 1000000000 := by rw [h.len]; exact hn
  have htop : S.top = c := by unfold St.top; rw [hs]; rfl
  have hil : i < c.fn.length := (List.getElem?_eq_some_iff.1 hx).1
  obtain ⟨R, hR⟩ : ∃ R, R = stepS P S := ⟨_, rfl⟩
  rw [← hR]
  unfold stepS at hR
  rw [htop, hat, Int.toNat_natCast, List.getD_eq_getElem?_getD, hx] at hR
  simp only [Option.getD_some] at hR
  have hT := Lib.hid fun w1 (f : Fr Non w w1) => top_m (h.frN f) hb hlen
  obtain ⟨ib, iof, la, lc, rfl, i0, i1, i2, i3, i4, i5⟩ := hins i x hx
  have y0 := hrow.cell (o := 0) rfl
  have y1 := hrow.cell (o := 1) rfl
  rw [hat] at y1
  have hyz := hrow.frozen
  have hbb := h.high _ (h.ob _ hbm)
  have hw1 : IntKind.i64.wrap ((i : Int) + 1) = (i : Int) + 1 := IntWalk.i64_in _ (by omega)
  have hi0 : (0 : Int) ≤ (i : Int) := by omega
  have hi1 : (i : Int) < (c.fn.length : Int) := by omega
  have x0 := i0.2
  have x1 := i1.2
  have x2 := i2.2
  have x3 := i3.2
  have x4 := i4.2
  have hib : ib < w.heap.size := World.block_lt_of_cell? w _ x0
  have HR := Lib.hid hR
  have HH := Lib.hid (And.intro h (And.intro hb (And.intro hs (And.intro hrow (And.intro hins (And.intro hreg (And.intro hn (And.intro ht (And.intro hB (And.intro hP (And.intro hi (And.intro hok (And.intro i5 hat)))))))))))))
  clear h hb hs hrow hins hreg hbm hn ht hB hP hi hR htop hok i0 i1 i2 i3 i4 i5 hx hat hlen hbl
  generalize c.fn.length = fl at *
  obtain ⟨op, xa, xb, xc, l⟩ := x
  simp only at x0 x1 x2 x3 x4
  go_enter Try.func53, Try.ntmps53
  go_wp2_with fail
  refine (hT.out _ (by exact (by repeat (first | exact Fr.refl _ _ | assumption | refine Fr.drewN ?_ _ | refine Fr.drew ?_ | refine Fr.drewl ?_ | refine Fr.drewNl ?_ _ | refine Fr.alloc ?_ _)))).mono ?_
  rintro e1 w1 ⟨rfl, hf⟩
  have hf1 : Fr Non w w1 := Fr.trans (by exact (by repeat (first | exact Fr.refl _ _ | assumption | refine Fr.drewN ?_ _ | refine Fr.drew ?_ | refine Fr.drewl ?_ | refine Fr.drewNl ?_ _ | refine Fr.alloc ?_ _))) hf
  have yw0 := hf1.cell y0 id
  have yw1 := hf1.cell y1 id
  have yzw := fun o => hf1.frozen hbw (hyz o) id
  have j0 := hf1.cell x0 id
  have j1 := hf1.cell x1 id
  have j2 := hf1.cell x2 id
  have j3 := hf1.cell x3 id
  have j4 := hf1.cell x4 id
  have hs1 := hf1.size
  have H1 := Lib.hid hf1
  have hb1 : b < w1.heap.size := by omega
  have hib1 : ib < w1.heap.size := by omega
  clear hf hf1 y0 y1 hyz x0 x1 x2 x3 x4
  go_wp2_with fail
  have cW := @Mix.cls_drew w1 [b, ib]
  refine Mix.wp_region_mix [3, 7, 9] [(0, 0), (0, 1), (0, 2), (1, 3), (0, 4), (0, 5), (0, 6), (1, 7), (0, 8), (1, 9), (2, 10), (2, 11)] (fun V => ∃ g, V = Mix.upon w1 [b, ib] g) (by kernel_rfl) (by kernel_rfl) cW ?_
  clear cW
  repeat (first | (refine Mix.S_pure (o := _) rfl rfl ?_; intro K hK; simp only [List.getElem_toArray, List.getElem_cons_zero, List.getElem_cons_succ]; go_big_quiet_op; go_big_quiet_on) | (refine Mix.S_load (o := _) rfl rfl ?_; intro K hK; simp only [List.getElem_toArray, List.getElem_cons_zero, List.getElem_cons_succ]; go_big_quiet_op; go_big_quiet_on) | refine Mix.S_skip0 (o := _) rfl rfl ?_ | refine Mix.S_skip1 (o := _) rfl rfl ?_)
  refine Mix.S_eff (o := _) rfl rfl ?_
  intro K hK
  simp only [List.getElem_toArray, List.getElem_cons_zero, List.getElem_cons_succ]
  go_simp
  refine hK _ _ ⟨Mix.cls_fr (D := Non) (by exact ((Fr.refl Non w1).alloc _).drew.drewl) (by simp [Non]; omega), ?_⟩
  clear hK K
  refine Mix.S_eff (o := _) rfl rfl ?_
  intro K hK
  simp only [List.getElem_toArray, List.getElem_cons_zero, List.getElem_cons_succ]
  go_simp
  refine hK _ _ ⟨Mix.cls_fr (D := fun x => x = w1.heap.size) (by exact ((Fr.realloc _ _ _).drew).drewl) (by simp; omega), ?_⟩
  clear hK K
  refine Mix.S_done ?_
  have hrx : Row ((w1.alloc (.cells #[.int .i64 op, .int .i64 xa, .int .i64 xb, .int .i64 xc, .slice la l.length lc] 112)).drew) w1.heap.size 112 [.int .i64 op, .int .i64 xa, .int .i64 xb, .int .i64 xc, .slice la l.length lc] := Row.drew (Row.new' rfl)
  have hfV : Fr Non w1 ((w1.alloc (.cells #[.int .i64 op, .int .i64 xa, .int .i64 xb, .int .i64 xc, .slice la l.length lc] 112)).drew) := ((Fr.refl _ _).alloc _).drew
  have hsV : ((w1.alloc (.cells #[.int .i64 op, .int .i64 xa, .int .i64 xb, .int .i64 xc, .slice la l.length lc] 112)).drew).heap.size = w1.heap.size + 1 := by simp
  generalize (w1.alloc (.cells #[.int .i64 op, .int .i64 xa, .int .i64 xb, .int .i64 xc, .slice la l.length lc] 112)).drew = V at *
  obtain ⟨k0, k1, k2, k3, k4, kz⟩ := row5 hrx
  have yv1 := hfV.cell yw1 id
  have yvz := fun o => hfV.frozen hb1 (yzw o) id
  have hbx : ¬ b = w1.heap.size := by omega
  have hbx' : ¬ w1.heap.size = b := by omega
  have hfw := H1.out.trans hfV
  have hbm : b ∈ L.bl := by rw [HH.out.2.1]; exact List.mem_cons_self
  have hAb := HH.out.1.ob b hbm
  have hML1 := (HH.out.1.frN hfw).upTop HH.out.2.1 (ClAt.setAt (hfw.row HH.out.2.2.2.1 id) (HH.out.2.2.2.2.1.fr hfw (high_non base)) HH.out.2.2.2.2.2.1 hbb ((i : Int) + 1)) (Fr.set1 V b 1 (.int .i64 ((i : Int) + 1)))
  have hFA : Fr A w (V.setCell ⟨b, 1, none⟩ (.int .i64 ((i : Int) + 1))) := (hfw.mono fun _ _ h => h.elim).trans ((Fr.set1 _ _ _ _).mono fun x _ hx => hx ▸ hAb)
  have hn1 : (S.setTop { c with at_ := (i : Int) + 1 }).stack.length ≤ 1000000000 := by
    have := HH.out.2.2.2.2.2.2.1
    rw [HH.out.2.2.1] at this
    simp only [St.setTop, List.length_cons, List.length_tail, HH.out.2.2.1] at this ⊢
    omega
  have hi1' : ∀ d ∈ (S.setTop { c with at_ := (i : Int) + 1 }).stack, d.role = 1 → 0 ≤ d.into ∧ d.into < 16 := by
    intro d hd
    have hi := HH.out.2.2.2.2.2.2.2.2.2.2.1
    rcases List.mem_cons.1 hd with rfl | hd
    · exact hi c (by rw [HH.out.2.2.1]; exact List.mem_cons_self)
    · exact hi d (List.mem_of_mem_tail hd)
  have hl1 := HH.out.2.2.2.2.2.2.2.2.2.2.2.2.1.fr hFA HH.out.1.high
  have HM := Lib.hid (And.intro hML1 (And.intro hFA (And.intro hn1 (And.intro hi1' hl1))))
  clear hML1 hFA hn1 hi1' hl1 hrx hfV hfw hbm hAb yw0 yw1 yzw j0 j1 j2 j3 j4
  have hok := HH.out.2.2.2.2.2.2.2.2.2.2.2.1
  have ho0 : 0 ≤ op := hok.op0
  have ho1 : op ≤ 29 := hok.op1
  have hS2 := HM.out.1
  have hgr : (op ≤ 7 ∨ op = 16 ∨ op = 17 ∨ op = 22) ∨ (8 ≤ op ∧ op ≤ 15) ∨ (18 ≤ op ∧ op ≤ 21) ∨ 23 ≤ op := by omega
  rcases hgr with hop | hop | hop | hop
  · have hG := words_m HM.out.1 HH.out.2.1 rfl hok hop HH.out.2.2.2.2.2.2.2.2.1 la lc
    have hR := HR.out
    rw [if_pos hop] at hR
    unfold WordsC at hG
    rw [show (S.setTop { c with at_ := (i : Int) + 1 }).mem = S.mem from rfl] at hG
    generalize wordsS P S.mem { c with at_ := (i : Int) + 1 } ⟨op, xa, xb, xc, l⟩ = T at *
    obtain ⟨M', c', er⟩ := T
    simp only at hG hR
    have HG := Lib.hid hG
    clear HR
    have HR := Lib.hid hR
    have hc : op = 0 ∨ op = 1 ∨ op = 2 ∨ op = 3 ∨ op = 4 ∨ op = 5 ∨ op = 6 ∨ op = 7 ∨ op = 16 ∨ op = 17 ∨ op = 22 := by omega
    clear hG hR hop hok hS2 ho0 ho1
    rcases hc with rfl | rfl | rfl | rfl | rfl | rfl | rfl | rfl | rfl | rfl | rfl
    all_goals go_wp2_with fail
    all_goals refine HG.out.mono ?_
    all_goals rintro e2 w2 ⟨rfl, haft⟩
    all_goals have HE := Lib.hid haft
    all_goals have hs2 := haft.size
    all_goals clear haft
    all_goals go_wp2_with fail
    all_goals refine (checked_c w2 er).mono ?_
    all_goals rintro e3 w3 ⟨v, rfl, hres, hf3⟩
    all_goals have HE3 := Lib.hid (And.intro hres hf3)
    all_goals clear hres hf3
    all_goals go_wp2_with fail
    all_goals go_ret
    all_goals rw [HR.out]
    all_goals exact ⟨_, rfl, HE3.out.1.lo (Nat.le_trans HM.out.2.1.size hs2), Aft.box (Fr.refl _ _) (Aft.step (fun x hx => Or.inl hx) HM.out.2.1 HE.out) (E := Non) HE3.out.2 (fun _ h => h.elim) HH.out.1.lt HH.out.1.base_le⟩
  · have hG := reckons_m HM.out.1 HH.out.2.1 rfl hok hop la lc HM.out.2.2.2.2
    have hR := HR.out
    rw [if_neg (by omega), if_pos hop.2] at hR
    unfold ReckC at hG
    generalize reckonsS { c with at_ := (i : Int) + 1 } ⟨op, xa, xb, xc, l⟩ = T at *
    obtain ⟨c', er⟩ := T
    simp only at hG hR
    have HG := Lib.hid hG
    clear HR
    have HR := Lib.hid hR
    have hc : op = 8 ∨ op = 9 ∨ op = 10 ∨ op = 11 ∨ op = 12 ∨ op = 13 ∨ op = 14 ∨ op = 15 := by omega
    clear hG hR hop hok hS2 ho0 ho1
    rcases hc with rfl | rfl | rfl | rfl | rfl | rfl | rfl | rfl
    all_goals go_wp2_with fail
    all_goals refine HG.out.mono ?_
    all_goals rintro e2 w2 ⟨rfl, haft⟩
    all_goals have HE := Lib.hid haft
    all_goals have hs2 := haft.size
    all_goals clear haft
    all_goals go_wp2_with fail
    all_goals refine (checked_c w2 er).mono ?_
    all_goals rintro e3 w3 ⟨v, rfl, hres, hf3⟩
    all_goals have HE3 := Lib.hid (And.intro hres hf3)
    all_goals clear hres hf3
    all_goals go_wp2_with fail
    all_goals go_ret
    all_goals rw [HR.out]
    all_goals exact ⟨_, rfl, HE3.out.1.lo (Nat.le_trans HM.out.2.1.size hs2), Aft.box (Fr.refl _ _) (Aft.step (fun x hx => Or.inl hx) HM.out.2.1 HE.out) (E := Non) HE3.out.2 (fun _ h => h.elim) HH.out.1.lt HH.out.1.base_le⟩
  · have hG := outside_m HM.out.1 HH.out.2.1 rfl HM.out.2.2.1 (by exact HH.out.2.2.2.2.2.2.2.1) HM.out.2.2.2.1 hok hop la lc
    have hR := HR.out
    rw [if_neg (by omega), if_neg (by omega), if_pos hop] at hR
    unfold OutsC at hG
    generalize outsideS (S.setTop { c with at_ := (i : Int) + 1 }) { c with at_ := (i : Int) + 1 } ⟨op, xa, xb, xc, l⟩ = T at *
    have HG := Lib.hid hG
    clear HR
    have HR := Lib.hid hR
    have hc : op = 18 ∨ op = 19 ∨ op = 20 ∨ op = 21 := by omega
    clear hG hR hop hok hS2 ho0 ho1
    rcases hc with rfl | rfl | rfl | rfl
    all_goals go_wp2_with fail
    all_goals refine HG.out.mono ?_
    all_goals rintro e2 w2 ⟨v, rfl, hres, haft⟩
    all_goals have HE := Lib.hid (And.intro hres haft)
    all_goals clear hres haft
    all_goals go_wp2_with fail
    all_goals go_ret
    all_goals rw [HR.out]
    all_goals exact ⟨_, rfl, HE.out.1.lo HM.out.2.1.size, Aft.step (fun x hx => Or.inl hx) HM.out.2.1 HE.out.2⟩
  · have hG := calls_m HM.out.1 HH.out.2.1 rfl HM.out.2.2.1 HH.out.2.2.2.2.2.2.2.2.2.1 HM.out.2.2.2.1 hok hop la lc HM.out.2.2.2.2
    have hR := HR.out
    rw [if_neg (by omega), if_neg (by omega), if_neg (by omega)] at hR
    unfold CallsC at hG
    generalize callsS P (S.setTop { c with at_ := (i : Int) + 1 }) { c with at_ := (i : Int) + 1 } ⟨op, xa, xb, xc, l⟩ = T at *
    have HG := Lib.hid hG
    clear HR
    have HR := Lib.hid hR
    have hc : op = 23 ∨ op = 24 ∨ op = 25 ∨ op = 26 ∨ op = 27 ∨ op = 28 ∨ op = 29 := by omega
    clear hG hR hop hok hS2 ho0 ho1
    rcases hc with rfl | rfl | rfl | rfl | rfl | rfl | rfl
    all_goals go_wp2_with fail
    all_goals refine HG.out.mono ?_
    all_goals rintro e2 w2 ⟨v, rfl, hres, haft⟩
    all_goals have HE := Lib.hid (And.intro hres haft)
    all_goals clear hres haft
    all_goals go_wp2_with fail
    all_goals go_ret
    all_goals rw [HR.out]
    all_goals exact ⟨_, rfl, HE.out.1.lo HM.out.2.1.size, Aft.step (fun x hx => Or.inl hx) HM.out.2.1 HE.out.2⟩
end

end Go.Proofs.Ytlbomnbpahmphaa

/- The plain law: what a step leaves of a machine that stands well. Condition: the program is checked. -/
namespace Go.Proofs.Ytlbomnbpahmphaa

/-- What a checked program has. -/
structure PrGood (P : Pr) (kinds : List Int) : Prop where
  pr : PrOk P
  fun_ : ∀ (k : Nat) (f : List In), P.funs[k]? = some f → 0 < f.length ∧ f.length ≤ 65536 ∧
    ∀ (j : Nat) (x : In), f[j]? = some x → InOk P f.length x ∧ (x.op ∉ [13, 15, 27, 28, (29 : Int)] → j + 1 < f.length) ∧ (x.op = 29 → kinds.getD k 0 ≠ 1)
  res : ∀ x ∈ P.cos, kinds.getD x.resume.toNat 0 = 1

structure CallOk (P : Pr) (kinds : List Int) (c : Cl) : Prop where
  fn : ∃ k : Nat, P.funs[k]? = some c.fn ∧ (c.role = 0 ∨ c.role = 1 → kinds.getD k 0 = 1)
  a0 : 0 ≤ c.at_
  a1 : c.at_ < c.fn.length
  into : c.role = 1 → 0 ≤ c.into ∧ c.into < 16
  role : 0 ≤ c.role ∧ c.role ≤ 3

def GoodL (P : Pr) (kinds : List Int) : List Cl → Prop
  | [] => True
  | c :: l => CallOk P kinds c ∧ (match l with | [] => c.role ≠ 3 | d :: _ => 0 ≤ c.label ∧ c.label < d.fn.length) ∧ GoodL P kinds l

/-- At most so many more of each. -/
structure Kept (n : Nat) (S S' : St) : Prop where
  told : S'.told.length ≤ S.told.length + n
  mem : S'.mem.blocks.length ≤ S.mem.blocks.length + n
  stk : S'.stack.length ≤ S.stack.length + n
  fuel : S'.fuel = S.fuel

section
variable {P : Pr} {kinds : List Int} {S S' S2 : St} {c c' d : Cl} {l : List Cl}

theorem Kept.refl (n : Nat) (S : St) : Kept n S S := ⟨by omega, by omega, by omega, rfl⟩
theorem Kept.trans {a b : Nat} (h : Kept a S S') (k : Kept b S' S2) : Kept (a + b) S S2 := by
  obtain ⟨h1, h2, h3, h4⟩ := h
  obtain ⟨k1, k2, k3, k4⟩ := k
  exact ⟨by omega, by omega, by omega, k4.trans h4⟩
theorem Kept.le {a b : Nat} (h : Kept a S S') (hab : a ≤ b) : Kept b S S' := by
  obtain ⟨h1, h2, h3, h4⟩ := h
  exact ⟨by omega, by omega, by omega, h4⟩
theorem GoodL.tail (h : GoodL P kinds (c :: l)) : GoodL P kinds l := h.2.2
theorem GoodL.tail' (h : GoodL P kinds l) : GoodL P kinds l.tail := by
  cases l with
  | nil => exact h
  | cons _ _ => exact h.2.2
theorem GoodL.set (h : GoodL P kinds (c :: l)) (hc : CallOk P kinds c') (hr : c'.role = c.role) (hl : c'.label = c.label) : GoodL P kinds (c' :: l) := by
  refine ⟨hc, ?_, h.2.2⟩
  have h2 := h.2.1
  cases l with
  | nil => simp only at h2 ⊢; rw [hr]; exact h2
  | cons d l => simp only at h2 ⊢; rw [hl]; exact h2
theorem GoodL.mem (h : GoodL P kinds l) (hc : c ∈ l) : CallOk P kinds c := by
  induction l with
  | nil => cases hc
  | cons d l ih =>
    rcases List.mem_cons.1 hc with rfl | hc
    · exact h.1
    · exact ih h.2.2 hc
theorem CallOk.put (h : CallOk P kinds c) (i : Int) (x : Wd) : CallOk P kinds (c.put i x) := ⟨h.fn, h.a0, h.a1, h.into, h.role⟩
theorem CallOk.atl (h : CallOk P kinds c) {n : Int} (h0 : 0 ≤ n) (h1 : n < c.fn.length) : CallOk P kinds { c with at_ := n } := ⟨h.fn, h0, h1, h.into, h.role⟩
theorem Kept.setTop (n : Nat) (hs : S.stack = c :: l) (c' : Cl) : Kept n S (S.setTop c') := ⟨by simp [St.setTop], by simp [St.setTop], by simp [St.setTop, hs], rfl⟩

/-- What comes out stands well, if it goes on. -/
def Ok1 (P : Pr) (kinds : List Int) (n : Nat) (S : St) (r : Out × St) : Prop := Kept n S r.2 ∧ (r.1 = none → r.2.stack ≠ [] ∧ GoodL P kinds r.2.stack)
theorem Ok1.le {a b : Nat} {r : Out × St} (h : Ok1 P kinds a S r) (hab : a ≤ b) : Ok1 P kinds b S r := ⟨h.1.le hab, h.2⟩
theorem Ok1.behind {a b : Nat} {r : Out × St} (k : Kept a S S') (h : Ok1 P kinds b S' r) : Ok1 P kinds (a + b) S r := ⟨k.trans h.1, h.2⟩

theorem doneS_ok (hg : GoodL P kinds S.stack) (c : Cl) : Ok1 P kinds 0 S (doneS S c) := by
  unfold doneS
  cases hs : S.stack with
  | nil => exact ⟨by simp [Kept.refl], by simp⟩
  | cons d l =>
    rw [if_neg (by simp)]
    rw [hs] at hg
    have htop : S.top = d := by unfold St.top; rw [hs]; rfl
    split
    · refine ⟨Kept.setTop 0 hs _, fun _ => ⟨by simp [St.setTop], ?_⟩⟩
      simp only [St.setTop, htop, hs, List.tail_cons]
      exact hg.set (hg.1.put _ _) rfl rfl
    · exact ⟨Kept.refl _ _, fun _ => ⟨by simp [hs], by simp only [hs]; exact hg⟩⟩

theorem abortedS_ok (hg : GoodL P kinds S.stack) (c : Cl) (hl : ∀ d l, S.stack = d :: l → 0 ≤ c.label ∧ c.label < d.fn.length) : Ok1 P kinds 0 S (abortedS S c) := by
  unfold abortedS
  cases hs : S.stack with
  | nil => exact ⟨by simp [Kept.refl], by simp⟩
  | cons d l =>
    rw [if_neg (by simp)]
    rw [hs] at hg
    have htop : S.top = d := by unfold St.top; rw [hs]; rfl
    refine ⟨Kept.setTop 0 hs _, fun _ => ⟨by simp [St.setTop], ?_⟩⟩
    simp only [St.setTop, htop, hs, List.tail_cons]
    exact hg.set (hg.1.atl (hl d l hs).1 (hl d l hs).2) rfl rfl

theorem fn_at (hP : PrGood P kinds) {n : Int} (h0 : 0 ≤ n) (h1 : n < P.funs.length) : P.funs[n.toNat]? = some (P.fn n) ∧ 0 < (P.fn n).length := by
  have hl : n.toNat < P.funs.length := by omega
  have : P.funs[n.toNat]? = some (P.fn n) := by
    unfold Pr.fn
    rw [List.getD_eq_getElem?_getD, List.getElem?_eq_getElem hl]
    rfl
  exact ⟨this, (hP.fun_ _ _ this).1⟩

theorem push_ok (hg : GoodL P kinds S.stack) (c : Cl) (n : Int) (hc : CallOk P kinds { c with fn := P.fn n }) (h3 : S.stack = [] → c.role ≠ 3) (hl : ∀ d l, S.stack = d :: l → 0 ≤ c.label ∧ c.label < d.fn.length) :
    Ok1 P kinds 1 S (none, S.push P n c) := by
  refine ⟨⟨by simp [St.push], by simp [St.push], by simp [St.push], rfl⟩, fun _ => ⟨by simp [St.push], ?_⟩⟩
  refine ⟨hc, ?_, hg⟩
  cases hs : S.stack with
  | nil => exact h3 hs
  | cons d l => exact hl d l hs

theorem goOnS_ok (hP : PrGood P kinds) (hg : GoodL P kinds S.stack) (p : Wd) (c : Cl) (ha : c.at_ = 0) (hr : c.role = 0 ∨ c.role = 1) (hi : c.role = 1 → 0 ≤ c.into ∧ c.into < 16) (hl : ∀ d l, S.stack = d :: l → 0 ≤ c.label ∧ c.label < d.fn.length) :
    Ok1 P kinds 1 S (goOnS P S p c) := by
  unfold goOnS
  split
  · rename_i h
    exact ⟨Kept.refl _ _, fun e => by simp [errS, h] at e⟩
  · rename_i h
    simp only [ne_eq, Decidable.not_not] at h
    split
    · exact (doneS_ok hg _).le (by omega)
    · split
      · exact (abortedS_ok hg _ hl).le (by omega)
      · have hco := stateS_co h
        have hx := hP.pr.res _ hco
        have hf := fn_at hP hx.1 hx.2
        refine push_ok hg _ _ ⟨⟨_, hf.1, fun _ => hP.res _ hco⟩, by simp [ha], by simp only [ha]; exact Int.ofNat_lt.2 hf.2, hi, by rcases hr with h | h <;> simp [h]⟩ (fun _ => by rcases hr with h | h <;> simp [h]) hl

theorem free_len (M : Mem) (p : Wd) : (M.free p).1.blocks.length = M.blocks.length := by
  unfold Mem.free
  split
  · rfl
  · split
    · rfl
    · simp [Mem.put]
theorem store_len (M : Mem) (p x : Wd) : (M.store p x).1.blocks.length = M.blocks.length := by
  unfold Mem.store
  split
  · rfl
  · simp [Mem.put]
theorem clear_len (M : Mem) (p : Wd) (n : Int) : (M.clear p n).1.blocks.length = M.blocks.length := by
  unfold Mem.clear
  split
  · rfl
  · split
    · rfl
    · simp [Mem.put]
theorem copy_len (M : Mem) (p q : Wd) (n : Int) : (M.copy p q n).1.blocks.length = M.blocks.length := by
  unfold Mem.copy
  split
  · rfl
  · split
    · rfl
    · split
      · rfl
      · simp [Mem.put]
theorem alloc_len (M : Mem) (n : Int) : (M.alloc n).1.blocks.length ≤ M.blocks.length + 1 := by
  unfold Mem.alloc
  split
  · simp
  · split <;> simp
theorem frame_len (P : Pr) (M : Mem) (co : Int) : (frameS P M co).1.blocks.length ≤ M.blocks.length + 1 := by
  unfold frameS
  have := alloc_len M (P.co co).words
  split
  · exact this
  · rw [store_len, store_len]
    exact this

theorem freedS_ok (hg : GoodL P kinds S.stack) (p : Wd) : Ok1 P kinds 0 S (freedS S p) := by
  unfold freedS
  have hk : Kept 0 S { S with mem := (S.mem.free p).1 } := ⟨by simp, by simp [free_len], by simp, rfl⟩
  split
  · rename_i h
    exact ⟨hk, fun e => by simp [errS, h] at e⟩
  · split
    · exact ⟨hk, by simp⟩
    · rename_i h
      exact ⟨hk, fun _ => ⟨h, hg⟩⟩

theorem stopS_ok (hP : PrGood P kinds) (hg : GoodL P kinds S.stack) (p : Wd) : Ok1 P kinds 1 S (stopS P S p) := by
  unfold stopS
  split
  · rename_i h
    exact ⟨Kept.refl _ _, fun e => by simp [errS, h] at e⟩
  · rename_i h
    simp only [ne_eq, Decidable.not_not] at h
    split
    · exact (freedS_ok hg _).le (by omega)
    · have hco := stateS_co h
      have hx := hP.pr.can _ hco
      have hf := fn_at hP hx.1 hx.2
      refine push_ok hg _ _ ⟨⟨_, hf.1, fun e => by simp [Cl.new] at e⟩, by simp [Cl.new], by simp only [Cl.new]; exact Int.ofNat_lt.2 hf.2, by simp [Cl.new], by simp [Cl.new]⟩ (fun _ => by simp [Cl.new]) (fun d l hs => ?_)
      rw [hs] at hg
      have := hg.1.a0
      have := hg.1.a1
      simp [Cl.new]
      omega

theorem suspS_ok (k n : Int) : ∀ (l : List Cl), GoodL P kinds l → l.length ≤ S.stack.length → Ok1 P kinds 1 S (suspS k n S l)
  | [], _, _ => ⟨⟨by simp [suspS], by simp [suspS], by simp [suspS], rfl⟩, by simp [suspS]⟩
  | c :: l, hg, hle => by
    unfold suspS
    split
    · exact suspS_ok k n l hg.2.2 (by simp at hle; omega)
    · rename_i h
      simp only [ne_eq, not_or, Decidable.not_not] at h
      cases l with
      | nil => exact absurd rfl h.2
      | cons d l =>
        have hg2 := hg.2.2
        simp only [List.length_cons] at hle
        refine ⟨⟨?_, ?_, ?_, ?_⟩, fun _ => ⟨by simp [St.setTop], ?_⟩⟩
        · split <;> simp [St.setTop, St.tell]
        · split <;> simp [St.setTop, St.tell]
        · split <;> simp [St.setTop, St.tell] <;> omega
        · split <;> simp [St.setTop, St.tell]
        · have : (if k = 0 then ({ S with stack := d :: l } : St).tell 5 0 n else { S with stack := d :: l }).stack = d :: l := by split <;> rfl
          simp only [St.setTop, this, List.tail_cons, St.top, List.headD_cons]
          exact hg2.set (hg2.1.put _ _) rfl rfl

theorem endsS_ok (hP : PrGood P kinds) (hs : S.stack = c :: l) (hg : GoodL P kinds S.stack) (x : In) : Ok1 P kinds 0 S (endsS S x) := by
  unfold endsS
  have htop : S.top = c := by unfold St.top; rw [hs]; rfl
  simp only [htop, hs, List.tail_cons]
  rw [hs] at hg
  generalize num (if x.op = 28 then -2 else -1) = v
  have hk : ∀ v : Wd, Kept 0 S { S with mem := (S.mem.store (offS c.frame 0) v).1, stack := l } := fun v => ⟨by simp, by simp [store_len], by simp [hs], rfl⟩
  split
  · rename_i h
    refine ⟨⟨by simp, by simp [store_len], by simp [hs], rfl⟩, fun e => by simp [errS, h] at e⟩
  · split
    · exact Ok1.behind (hk _) (abortedS_ok (S := { S with mem := _, stack := l }) hg.2.2 c (fun d l' e => by
        have h2 := hg.2.1
        simp only at e
        rw [e] at h2
        exact h2))
    · exact Ok1.behind (hk _) (doneS_ok (S := { S with mem := _, stack := l }) hg.2.2 c)

theorem fell (hP : PrGood P kinds) (hc : CallOk P kinds c) {x : In} {i : Nat} (hat : c.at_ = i) (hx : c.fn[i]? = some x) :
    InOk P c.fn.length x ∧ (x.op ∉ [13, 15, 27, 28, (29 : Int)] → (i : Int) + 1 < c.fn.length) ∧ (x.op = 29 → c.role ≠ 0 ∧ c.role ≠ 1) ∧ c.fn.length ≤ 65536 := by
  obtain ⟨k, hk, hkr⟩ := hc.fn
  obtain ⟨_, h1, h2⟩ := hP.fun_ k _ hk
  obtain ⟨a1, a2, a3⟩ := h2 i x hx
  refine ⟨a1, fun h => by have := a2 h; omega, fun h => ⟨fun e => a3 h (hkr (Or.inl e)), fun e => a3 h (hkr (Or.inr e))⟩, h1⟩

theorem CallOk.inst (hc : CallOk P kinds c) : ∃ (i : Nat) (x : In), c.at_ = i ∧ c.fn[i]? = some x := by
  obtain ⟨i, hi⟩ := Int.eq_ofNat_of_zero_le hc.a0
  have := hc.a1
  exact ⟨i, c.fn[i]'(by omega), hi, List.getElem?_eq_getElem _⟩

theorem In.lab_ok {n : Nat} {x : In} (hx : InOk P n x) (hl : 0 < x.l.length) {i : Int} (h0 : 0 ≤ i) (h1 : i < x.l.length) : 0 ≤ x.lab i ∧ x.lab i < n := by
  have : x.lab i = x.l[i.toNat]'(by omega) := by
    unfold In.lab
    rw [List.getD_eq_getElem?_getD, List.getElem?_eq_getElem (by omega)]
    rfl
  rw [this]
  exact hx.to _ (List.getElem_mem _)

theorem words_cl (P : Pr) (M : Mem) (c : Cl) (x : In) : (wordsS P M c x).2.1 = c ∨ ∃ y, (wordsS P M c x).2.1 = c.put x.a y := by
  unfold wordsS
  by_cases h : x.op = 0
  · rw [if_pos h]
    exact Or.inr ⟨_, rfl⟩
  rw [if_neg h]
  clear h
  by_cases h : x.op = 1
  · rw [if_pos h]
    exact Or.inr ⟨_, rfl⟩
  rw [if_neg h]
  clear h
  by_cases h : x.op = 2
  · rw [if_pos h]
    exact Or.inr ⟨_, rfl⟩
  rw [if_neg h]
  clear h
  by_cases h : x.op = 3
  · rw [if_pos h]
    exact Or.inr ⟨_, rfl⟩
  rw [if_neg h]
  clear h
  by_cases h : x.op = 4
  · rw [if_pos h]
    exact Or.inl rfl
  rw [if_neg h]
  clear h
  by_cases h : x.op = 5
  · rw [if_pos h]
    exact Or.inl rfl
  rw [if_neg h]
  clear h
  by_cases h : x.op = 6
  · rw [if_pos h]
    split <;> exact Or.inl rfl
  rw [if_neg h]
  clear h
  by_cases h : x.op = 7
  · rw [if_pos h]
    exact Or.inl rfl
  rw [if_neg h]
  clear h
  by_cases h : x.op = 16
  · rw [if_pos h]
    exact Or.inr ⟨_, rfl⟩
  rw [if_neg h]
  clear h
  by_cases h : x.op = 17
  · rw [if_pos h]
    exact Or.inl rfl
  rw [if_neg h]
  clear h
  by_cases h : x.op = 22
  · rw [if_pos h]
    exact Or.inr ⟨_, rfl⟩
  rw [if_neg h]
  clear h
  exact Or.inl rfl
theorem words_at (P : Pr) (M : Mem) (c : Cl) (x : In) : (wordsS P M c x).2.1.fn = c.fn ∧ (wordsS P M c x).2.1.at_ = c.at_ ∧ (wordsS P M c x).2.1.role = c.role ∧ (wordsS P M c x).2.1.into = c.into ∧ (wordsS P M c x).2.1.label = c.label := by
  rcases words_cl P M c x with h | ⟨y, h⟩ <;> rw [h] <;> exact ⟨rfl, rfl, rfl, rfl, rfl⟩
theorem words_len (P : Pr) (M : Mem) (c : Cl) (x : In) : (wordsS P M c x).1.blocks.length ≤ M.blocks.length + 1 := by
  have h1 := alloc_len M x.c
  have h2 := frame_len P M x.b
  unfold wordsS
  by_cases h : x.op = 0
  · rw [if_pos h]
    simp
  rw [if_neg h]
  clear h
  by_cases h : x.op = 1
  · rw [if_pos h]
    simp
  rw [if_neg h]
  clear h
  by_cases h : x.op = 2
  · rw [if_pos h]
    simp
  rw [if_neg h]
  clear h
  by_cases h : x.op = 3
  · rw [if_pos h]
    simp
  rw [if_neg h]
  clear h
  by_cases h : x.op = 4
  · rw [if_pos h]
    simp [store_len]
  rw [if_neg h]
  clear h
  by_cases h : x.op = 5
  · rw [if_pos h]
    simp [copy_len]
  rw [if_neg h]
  clear h
  by_cases h : x.op = 6
  · rw [if_pos h]
    split <;> simp [clear_len, copy_len]
  rw [if_neg h]
  clear h
  by_cases h : x.op = 7
  · rw [if_pos h]
    simp [clear_len]
  rw [if_neg h]
  clear h
  by_cases h : x.op = 16
  · rw [if_pos h]
    exact h1
  rw [if_neg h]
  clear h
  by_cases h : x.op = 17
  · rw [if_pos h]
    simp [free_len]
  rw [if_neg h]
  clear h
  by_cases h : x.op = 22
  · rw [if_pos h]
    exact h2
  rw [if_neg h]
  clear h
  simp

theorem goes_at {n : Nat} {x : In} (hx : InOk P n x) (hl : 0 < x.l.length) (c : Cl) (hn : 0 ≤ c.at_ ∧ (x.op = 14 → c.at_ < n)) (h15 : x.op = 14 ∨ x.op = 15) : (goesS c x).2 = 0 → (goesS c x).1.fn = c.fn ∧ (0 ≤ (goesS c x).1.at_ ∧ (goesS c x).1.at_ < n) ∧ (goesS c x).1.role = c.role ∧ (goesS c x).1.into = c.into ∧ (goesS c x).1.label = c.label := by
  unfold goesS
  have h0 := In.lab_ok hx hl (i := 0) (by omega) (by omega)
  split
  · intro h; cases h
  · split
    · intro _; exact ⟨rfl, h0, rfl, rfl, rfl⟩
    · split
      · rename_i h; intro _; exact ⟨rfl, ⟨hn.1, hn.2 h⟩, rfl, rfl, rfl⟩
      · split
        · intro h; cases h
        · rename_i h
          simp only [not_or, Int.not_lt, Int.not_le] at h
          intro _
          exact ⟨rfl, In.lab_ok hx hl h.1 h.2, rfl, rfl, rfl⟩

theorem reckons_at {n : Nat} {x : In} (hx : InOk P n x) (hop : 8 ≤ x.op ∧ x.op ≤ 15) (c : Cl) (hn : 0 ≤ c.at_ ∧ (x.op ∉ [13, 15, 27, 28, (29 : Int)] → c.at_ < n)) : (reckonsS c x).2 = 0 → (reckonsS c x).1.fn = c.fn ∧ (0 ≤ (reckonsS c x).1.at_ ∧ (reckonsS c x).1.at_ < n) ∧ (reckonsS c x).1.role = c.role ∧ (reckonsS c x).1.into = c.into ∧ (reckonsS c x).1.label = c.label := by
  have hlab : x.op ∈ [8, 9, 10, 13, 14, 15, 23, (24 : Int)] → 0 ≤ x.lab 0 ∧ x.lab 0 < (n : Int) := fun h => In.lab_ok hx (hx.lab h) (by omega) (by have := hx.lab h; omega)
  unfold reckonsS
  split
  · rename_i h
    intro _
    exact ⟨rfl, hlab (by simp [h]), rfl, rfl, rfl⟩
  · rename_i h13
    split
    · rename_i h
      exact goes_at hx (hx.lab (by rcases h with h | h <;> simp [h])) c ⟨hn.1, fun e => hn.2 (by simp [e])⟩ h
    · rename_i h
      simp only [not_or] at h
      have hf : c.at_ < n := hn.2 (by simp; omega)
      split
      · intro h; cases h
      · split
        · intro _; exact ⟨rfl, ⟨hn.1, hf⟩, rfl, rfl, rfl⟩
        · split
          · intro _; exact ⟨rfl, ⟨hn.1, hf⟩, rfl, rfl, rfl⟩
          · split
            · intro _; exact ⟨rfl, ⟨hn.1, hf⟩, rfl, rfl, rfl⟩
            · intro _
              exact ⟨rfl, hlab (by have : x.op = 8 ∨ x.op = 9 ∨ x.op = 10 := by omega
                                   rcases this with e | e | e <;> simp [e]), rfl, rfl, rfl⟩

theorem stepS_ok (hP : PrGood P kinds) (hs : S.stack = c :: l) (hg : GoodL P kinds S.stack) : Ok1 P kinds 1 S (stepS P S) := by
  have htop : S.top = c := by unfold St.top; rw [hs]; rfl
  have hg0 := hg
  rw [hs] at hg
  obtain ⟨i, x, hat, hx⟩ := hg.1.inst
  obtain ⟨hok, hfall, hend, hbig⟩ := fell hP hg.1 hat hx
  have hil : i < c.fn.length := (List.getElem?_eq_some_iff.1 hx).1
  unfold stepS
  rw [htop, hat, Int.toNat_natCast, List.getD_eq_getElem?_getD, hx]
  simp only [Option.getD_some]
  have hn1 : (0 : Int) ≤ (i : Int) + 1 := by omega
  split
  · rename_i hop
    have hf := hfall (by simp; omega)
    obtain ⟨e1, e2, e3, e4, e5⟩ := words_at P S.mem { c with at_ := (i : Int) + 1 } x
    refine ⟨⟨by simp [St.setTop], ?_, by simp [St.setTop, hs], rfl⟩, fun _ => ⟨by simp [St.setTop], ?_⟩⟩
    · exact words_len P S.mem _ x
    · simp only [St.setTop, hs, List.tail_cons]
      refine hg.set ⟨by rw [e1, e3]; exact hg.1.fn, by rw [e2]; exact hn1, by rw [e1, e2]; exact hf, by rw [e3, e4]; exact hg.1.into, by rw [e3]; exact hg.1.role⟩ e3 e5
  · split
    · rename_i h1 h2
      have hop : 8 ≤ x.op ∧ x.op ≤ 15 := by omega
      refine ⟨⟨by simp [St.setTop], by simp [St.setTop], by simp [St.setTop, hs], rfl⟩, fun e => ⟨by simp [St.setTop], ?_⟩⟩
      simp only [St.setTop, hs, List.tail_cons]
      have he : (reckonsS { c with at_ := (i : Int) + 1 } x).2 = 0 := by
        simp only [errS] at e
        split at e
        · assumption
        · cases e
      obtain ⟨e1, e2, e3, e4, e5⟩ := reckons_at hok hop { c with at_ := (i : Int) + 1 } ⟨hn1, hfall⟩ he
      refine hg.set ⟨by rw [e1, e3]; exact hg.1.fn, e2.1, by rw [e1]; exact e2.2, by rw [e3, e4]; exact hg.1.into, by rw [e3]; exact hg.1.role⟩ e3 e5
    · split
      · rename_i h1 h2 hop
        have hf := hfall (by simp; omega)
        have hg1 : GoodL P kinds (S.setTop { c with at_ := (i : Int) + 1 }).stack := by
          simp only [St.setTop, hs, List.tail_cons]
          exact hg.set (hg.1.atl hn1 hf) rfl rfl
        have hk := Kept.setTop 0 hs { c with at_ := (i : Int) + 1 }
        refine (Ok1.behind hk (b := 1) ?_).le (by omega)
        unfold outsideS
        generalize (if x.op = 21 then x.b else x.a) = q
        split
        · exact ⟨Kept.refl _ _, fun e => by simp [errS] at e⟩
        · split
          · exact ⟨⟨by simp [St.tell], by simp [St.tell], by simp [St.tell], rfl⟩, fun _ => ⟨by simp [St.tell, St.setTop], hg1⟩⟩
          · split
            · exact ⟨⟨by simp [St.tell], by simp [St.tell], by simp [St.tell], rfl⟩, fun _ => ⟨by simp [St.tell, St.setTop], hg1⟩⟩
            · split
              · exact suspS_ok _ _ _ hg1 (Nat.le_refl _)
              · split
                · exact suspS_ok _ _ _ hg1 (Nat.le_refl _)
                · refine ⟨Kept.setTop 1 (c := { c with at_ := (i : Int) + 1 }) (l := l) (by simp [St.setTop, hs]) _, fun _ => ⟨by simp [St.setTop], ?_⟩⟩
                  simp only [St.setTop, hs, List.tail_cons]
                  exact hg.set ((hg.1.atl hn1 hf).put _ _) rfl rfl
      · rename_i h1 h2 h3
        have hop : 23 ≤ x.op := by omega
        have ho1 := hok.op1
        by_cases hlast : x.op = 27 ∨ x.op = 28 ∨ x.op = 29
        · -- the call ends: where it stands does not count
          have htop2 : ∀ c', (S.setTop c').stack = c' :: l := fun c' => by simp [St.setTop, hs]
          unfold callsS
          rw [if_neg (by omega), if_neg (by omega), if_neg (by omega), if_neg (by omega)]
          split
          · -- 27, 28
            unfold endsS
            have hst : (S.setTop { c with at_ := (i : Int) + 1 }).top = { c with at_ := (i : Int) + 1 } := by unfold St.top; rw [htop2]; rfl
            simp only [hst, htop2, List.tail_cons]
            generalize num (if x.op = 28 then -2 else -1) = v
            have hk : Kept 0 S { S.setTop { c with at_ := (i : Int) + 1 } with mem := (S.mem.store (offS c.frame 0) v).1, stack := l } := ⟨by simp [St.setTop], by simp [St.setTop, store_len], by simp [hs], rfl⟩
            split
            · rename_i h
              refine ⟨⟨by simp [St.setTop], ?_, by simp [St.setTop, hs], rfl⟩, fun e => by simp [errS, h] at e⟩
              show ((S.setTop { c with at_ := (i : Int) + 1 }).mem.store _ v).1.blocks.length ≤ _
              rw [store_len]
              simp [St.setTop]
            · split
              · refine (Ok1.behind hk (b := 0) (abortedS_ok (S := { S.setTop { c with at_ := (i : Int) + 1 } with mem := _, stack := l }) hg.2.2 _ (fun d l' e => ?_))).le (by omega)
                have h2 := hg.2.1
                simp only at e
                rw [e] at h2
                exact h2
              · exact (Ok1.behind hk (b := 0) (doneS_ok (S := { S.setTop { c with at_ := (i : Int) + 1 } with mem := _, stack := l }) hg.2.2 _)).le (by omega)
          · have h29 : x.op = 29 := by omega
            have hr := hend h29
            have hk : Kept 0 S { S.setTop { c with at_ := (i : Int) + 1 } with stack := (S.setTop { c with at_ := (i : Int) + 1 }).stack.tail } := ⟨by simp [St.setTop], by simp [St.setTop], by simp [St.setTop, hs], rfl⟩
            split
            · refine (Ok1.behind hk (b := 0) (freedS_ok ?_ _)).le (by omega)
              simp only [htop2, List.tail_cons]
              exact hg.2.2
            · rename_i hr2
              refine ⟨hk.le (by omega), fun _ => ?_⟩
              simp only [htop2, List.tail_cons]
              refine ⟨?_, hg.2.2⟩
              intro e
              have h2 := hg.2.1
              rw [e] at h2
              simp only at h2 hr2
              have := hg.1.role
              omega
        · have hf := hfall (by simp; omega)
          have hg1 : GoodL P kinds (S.setTop { c with at_ := (i : Int) + 1 }).stack := by
            simp only [St.setTop, hs, List.tail_cons]
            exact hg.set (hg.1.atl hn1 hf) rfl rfl
          have hk := Kept.setTop 0 hs { c with at_ := (i : Int) + 1 }
          have hst : (S.setTop { c with at_ := (i : Int) + 1 }).stack = { c with at_ := (i : Int) + 1 } :: l := by simp [St.setTop, hs]
          refine (Ok1.behind hk (b := 1) ?_).le (by omega)
          unfold callsS
          have hlabl : x.op = 23 ∨ x.op = 24 → ∀ d l', (S.setTop { c with at_ := (i : Int) + 1 }).stack = d :: l' → 0 ≤ x.lab 0 ∧ x.lab 0 < (d.fn.length : Int) := fun h d l' e => by
            rw [hst] at e
            cases e
            have hl := hok.lab (by rcases h with h | h <;> simp [h])
            exact In.lab_ok hok hl (by omega) (by omega)
          split
          · rename_i h
            exact goOnS_ok hP hg1 _ _ rfl (Or.inl rfl) (by simp [Cl.new]) (by simpa [Cl.new] using hlabl (Or.inl h))
          · split
            · rename_i h
              have hra := hok.ra (by simp [h])
              exact goOnS_ok hP hg1 _ _ rfl (Or.inr rfl) (fun _ => hra) (by simpa [Cl.new] using hlabl (Or.inr h))
            · split
              · exact stopS_ok hP hg1 _
              · split
                · rename_i h
                  have hb := hok.fn h
                  have hf2 := fn_at hP hb.1 hb.2
                  refine push_ok hg1 _ _ ⟨⟨_, hf2.1, fun e => by simp [Cl.new, Cl.put] at e⟩, by simp [Cl.new, Cl.put], by simp only [Cl.new, Cl.put]; exact Int.ofNat_lt.2 hf2.2, by simp [Cl.new, Cl.put], by simp [Cl.new, Cl.put]⟩ (fun e => by rw [hst] at e; cases e) (fun d l' e => ?_)
                  rw [hst] at e
                  cases e
                  simp [Cl.new, Cl.put]
                  omega
                · omega
end

end Go.Proofs.Ytlbomnbpahmphaa

/- Walks: the machine's 'run'. Conditions: the program is checked; the machine stands well; fuel, calls, events and blocks are few. -/
namespace Go.Proofs.Ytlbomnbpahmphaa
open Go.RowKit

def fuelOf (w : World) (m : Nat) : Nat := match w.cell? ⟨m, 7, none⟩ with | some (.int _ n) => n.toNat | _ => 0
theorem runS_some (P : Pr) (f : Nat) (r : Int × Int) (S : St) : runS P f (some r) S = (r, S) := by cases f <;> rfl

/-- So much of each, with the fuel that is left, is few. -/
def Few (S : St) : Prop := S.told.length + S.fuel.toNat ≤ 1000000 ∧ S.mem.blocks.length + S.fuel.toNat ≤ 1000000 ∧ S.stack.length + S.fuel.toNat ≤ 1000000
theorem Few.one {S S' : St} (h : Few S) {f : Nat} (hf : S.fuel = (f : Int) + 1) (k : Kept 1 { S with fuel := (f : Int) } S') : Few S' := by
  obtain ⟨h1, h2, h3⟩ := h
  obtain ⟨k1, k2, k3, k4⟩ := k
  simp only at k1 k2 k3 k4
  rw [hf] at h1 h2 h3
  unfold Few
  rw [k4]
  omega

section
variable {base : Nat} {P : Pr} {kinds : List Int} {A : Nat → Prop} {w : World} {m : Nat} {S : St}

theorem MInv.fuelOf (h : MInv base P A w m S) : fuelOf w m = S.fuel.toNat := by
  obtain ⟨L, h⟩ := h
  unfold Go.Proofs.Ytlbomnbpahmphaa.fuelOf
  rw [h.c7]

set_option maxRecDepth 100000 in
set_option maxHeartbeats 2000000 in
theorem run_m (h : MInv base P A w m S) (hP : PrGood P kinds) (hfew : Few S) {lo : Nat} {v : Value} {o : Out} (hr : Res w lo v o) (hg : o = none → S.stack ≠ [] ∧ GoodL P kinds S.stack) :
    Calls Try.prog 36 #[.pointer (some ⟨m, 0, none⟩), v] w fun e w' => e = .returned (.agg #[.int .i64 (runS P S.fuel.toNat o S).1.1, .int .i64 (runS P S.fuel.toNat o S).1.2]) ∧ Aft base P A w w' m (runS P S.fuel.toNat o S).2 := by
  obtain ⟨L, hL⟩ := h
  have hm := hL.mlt
  have hbase := hL.base_le
  have hlt := hL.lt
  obtain ⟨R, hR⟩ : ∃ R, R = runS P S.fuel.toNat o S := ⟨_, rfl⟩
  rw [← hR]
  have HH := Lib.hid (And.intro hL (And.intro hP (And.intro hfew (And.intro hr hg))))
  have HR := Lib.hid hR
  have HL := Lib.hid (And.intro hlt hbase)
  clear hL hP hfew hr hg hR hlt hbase
  go_enter Try.func36, Try.ntmps36
  go_wp2_with fail
  have hf0 : Fr Non w (w.alloc (.cells #[.int .i64 0, .int .i64 0] 41)) := by exact (by repeat (first | exact Fr.refl _ _ | assumption | refine Fr.drewN ?_ _ | refine Fr.drew ?_ | refine Fr.drewl ?_ | refine Fr.drewNl ?_ _ | refine Fr.alloc ?_ _))
  have hs0 : (w.alloc (.cells #[.int .i64 0, .int .i64 0] 41)).heap.size = w.heap.size + 1 := by simp
  have hrb : Row (w.alloc (.cells #[.int .i64 0, .int .i64 0] 41)) w.heap.size 41 [.int .i64 0, .int .i64 0] := Row.new' rfl
  generalize w.alloc (.cells #[.int .i64 0, .int .i64 0] 41) = W at *
  have HW := Lib.hid (And.intro hf0 hrb)
  clear hf0 hrb
  go_loopw [1] (fun v1 wr => ∃ Ar Sr o1, MInv base P Ar wr m Sr ∧ (∀ x, Ar x → A x ∨ W.heap.size ≤ x) ∧ Fr A W wr ∧ Res wr 0 v1 o1 ∧ R = runS P Sr.fuel.toNat o1 Sr ∧ (o1 = none → Sr.stack ≠ [] ∧ GoodL P kinds Sr.stack) ∧ Few Sr ∧ Row wr w.heap.size 41 [.int .i64 0, .int .i64 0]) (fun _ wr => fuelOf wr m)
  case atStart => exact ⟨A, S, o, ⟨L, HH.out.1.frN HW.out.1⟩, fun x hx => Or.inl hx, Fr.refl _ _, (HH.out.2.2.2.1.fr HW.out.1 (fun _ h => h.elim)).lo (Nat.zero_le _), HR.out, HH.out.2.2.2.2, HH.out.2.2.1, HW.out.2⟩
  case round =>
    obtain ⟨Ar, Sr, o1, hI, hAr, hFr, hRes, hEq, hGood, hFew, hBox⟩ := hrel
    have hszr := hFr.size
    have hf7 := hI.fuelOf
    rcases hRes with ⟨rfl, rfl⟩ | ⟨rb, k, n, rfl, rfl, hrow, _⟩
    · obtain ⟨Lr, hML⟩ := hI
      have c7 := hML.c7
      by_cases hfu : Sr.fuel ≤ 0
      · have hd : decide (Sr.fuel ≤ 0) = true := decide_eq_true hfu
        obtain ⟨b0, b1, bz⟩ := row2 hBox
        have hz : Sr.fuel.toNat = 0 := by omega
        rw [hz] at hEq
        have HX := Lib.hid (And.intro hML (And.intro hAr (And.intro hFr (And.intro hEq hBox))))
        clear hML hAr hFr hEq hGood hFew hBox hf7 hz
        go_wp2_with fail
        obtain ⟨hML, hAr, hFr, hEq, hBox⟩ := HX.out
        refine bodyPost_ret (v := .agg #[.int .i64 4, .int .i64 0]) (by simp [results, Try.results36, go_sem, b0, b1]) rfl ⟨?_, ?_⟩
        · rw [hEq]; rfl
        · rw [hEq]
          exact Aft.box HW.out.1 ⟨Ar, ⟨Lr, hML⟩, hAr, hFr⟩ (E := fun x => x = w.heap.size) (by exact (Fr.set1 _ _ _ _).trans (Fr.set1 _ _ _ _)) (fun x hx => by omega) HL.out.1 HL.out.2
      · obtain ⟨f, hf⟩ := Int.eq_ofNat_of_zero_le (show 0 ≤ Sr.fuel - 1 by omega)
        have hf1 : Sr.fuel = (f : Int) + 1 := by omega
        have hd : ¬ ((f : Int) + 1 ≤ 0) := by omega
        have hfl : f ≤ 1000000 := by have := hFew.1; rw [hf1] at this; omega
        have hw : IntKind.i64.wrap (f : Int) = (f : Int) := IntWalk.i64_in _ (by omega)
        rw [hf1] at c7 hf7
        have hmz := hML.row.frozen
        obtain ⟨hne, hgl⟩ := hGood rfl
        obtain ⟨c, cs, hs⟩ := List.exists_cons_of_ne_nil hne
        have hup := hML.upNums (task := Sr.task) (fuel := (f : Int)) (by exact hML.row.set_same 7 _) (Fr.set1 wr m 7 (.int .i64 (f : Int)))
        have hg1 := hgl
        rw [hs] at hg1
        obtain ⟨i, x, hat, hx⟩ := hg1.1.inst
        obtain ⟨hok, _, _, hbig⟩ := fell HH.out.2.1 hg1.1 hat hx
        have hFew' := hFew
        unfold Few at hFew'
        have hS := Lib.hid (step_m hup (by show Sr.stack.length ≤ _; omega) (by show Sr.told.length ≤ _; omega) (by show Sr.mem.blocks.length < _; omega) HH.out.2.1.pr (fun d hd hr => (hgl.mem hd).into hr) (c := c) (cs := cs) hs hat hx hok (by omega))
        have hso := stepS_ok (S := { Sr with fuel := (f : Int) }) HH.out.2.1 hs hgl
        have hEq2 : R = runS P f (stepS P { Sr with fuel := (f : Int) }).1 (stepS P { Sr with fuel := (f : Int) }).2 := by
          rw [hEq, hf1, show ((f : Int) + 1).toNat = f + 1 by omega]
          rfl
        have HX := Lib.hid (And.intro hML (And.intro hAr (And.intro hFr (And.intro hEq2 (And.intro hBox (And.intro hso (And.intro hFew hf1)))))))
        clear hML hAr hFr hEq hEq2 hGood hFew hFew' hBox hup hgl hg1 hso hok hx hat hs hne hf
        have hmne : ¬ m = w.heap.size := by omega
        go_wp2_with fail
        refine hS.out.mono ?_
        rintro e1 w2 ⟨v2, rfl, hres, A2, hI2, hA2, hF2⟩
        obtain ⟨hML, hAr, hFr, hEq2, hBox, hso, hFew, hf1⟩ := HX.out
        have hFm : Fr Ar wr (wr.setCell ⟨m, 7, none⟩ (.int .i64 (f : Int))) := (Fr.set1 wr m 7 (.int .i64 (f : Int))).mono fun x _ hx => hx ▸ hML.om
        have hbne : ¬ Ar w.heap.size := fun e => by
          rcases hAr _ e with h | h
          · have := HL.out.1 _ h; omega
          · omega
        have hBox2 := (hFm.trans hF2).row hBox hbne
        have hA2' : ∀ x, A2 x → A x ∨ W.heap.size ≤ x := fun x hx => by
          rcases hA2 x hx with h | h
          · exact hAr x h
          · right; simp at h; omega
        have hFr2 : Fr A W w2 := hFr.then (hFm.trans hF2) (fun x hx e => by
          rcases hAr x e with h | h
          · exact h
          · omega)
        have hk4 := hso.1.fuel
        have hf72 := hI2.fuelOf
        have HY := Lib.hid (And.intro hI2 (And.intro hA2' (And.intro hFr2 (And.intro hres (And.intro hEq2 (And.intro hso.2 (And.intro (hFew.one hf1 hso.1) hBox2)))))))
        have hmeas : fuelOf w2 m < fuelOf wr m := by
          rw [hf72, hf7, hk4]
          show (f : Int).toNat < _
          omega
        clear hI2 hA2 hF2 hML hAr hFr hEq2 hBox hso hFew hFm hBox2 hA2' hFr2 hres hf72
        go_wp2_with fail
        obtain ⟨hI2, hA2', hFr2, hres, hEq2, hg2, hfew2, hBox2⟩ := HY.out
        refine ⟨⟨A2, _, _, hI2, hA2', hFr2, hres.lo (Nat.zero_le _), ?_, hg2, hfew2, hBox2⟩, hmeas⟩
        rw [hEq2, hk4]
        rfl
    · obtain ⟨d0, d1, dz⟩ := row2 hrow
      obtain ⟨b0, b1, bz⟩ := row2 hBox
      have hrl := hrow.lt
      have HX := Lib.hid (And.intro hI (And.intro hAr (And.intro hFr (And.intro hEq hBox))))
      clear hI hAr hFr hEq hGood hFew hBox hf7 hrow
      go_wp2_with fail
      obtain ⟨⟨Lr, hML⟩, hAr, hFr, hEq, hBox⟩ := HX.out
      rw [runS_some] at hEq
      refine bodyPost_ret (v := .agg #[.int .i64 k, .int .i64 n]) (by simp [results, Try.results36, go_sem, b0, b1]) rfl ⟨?_, ?_⟩
      · rw [hEq]
      · rw [hEq]
        exact Aft.box HW.out.1 ⟨Ar, ⟨Lr, hML⟩, hAr, hFr⟩ (E := fun x => x = w.heap.size) (by exact (Fr.set1 _ _ _ _).trans (Fr.set1 _ _ _ _)) (fun x hx => by omega) HL.out.1 HL.out.2
end

end Go.Proofs.Ytlbomnbpahmphaa
