/- Walks: the machine's 'goes'. Conditions: the layout hidden; registers in range; labels are there. -/
import Derived.Test.YtlbomnbpahmphaaSa10
namespace Go.Proofs.Ytlbomnbpahmphaa
open Go.RowKit

theorem ClAt.setAt {base b : Nat} {w : World} {c : Cl} {io : Option Addr} {ic : Nat} (hr : Row w b 97 (c.cs io ic)) (h2 : InsAt base w io c.fn) (h3 : c.regs.length = 16) (hb : base ≤ b) (n : Int) :
    ClAt base (w.setCell ⟨b, 1, none⟩ (.int .i64 n)) b { c with at_ := n } :=
  ⟨io, ic, hr.set_same 1 _, h2.fr (E := fun x => x = b) (Fr.set1 _ _ _ _) (fun x hx => by omega), h3⟩

section
variable {base : Nat} {P : Pr} {A : Nat → Prop} {w w' w2 : World} {m : Nat} {S : St} {L : Lay}

def GoesC (base : Nat) (P : Pr) (A : Nat → Prop) (w : World) (m : Nat) (S : St) (b : Nat) (c : Cl) (x : In) (la : Option Addr) (lc : Nat) : Prop :=
  Calls Try.prog 92 #[.pointer (some ⟨m, 0, none⟩), .pointer (some ⟨b, 0, none⟩), .agg #[.int .i64 x.op, .int .i64 x.a, .int .i64 x.b, .int .i64 x.c, .slice la x.l.length lc]] w fun e w' =>
    e = .returned (.int .i64 (goesS c x).2) ∧ Aft base P A w w' m (S.setTop (goesS c x).1)

set_option maxRecDepth 100000 in
set_option maxHeartbeats 1000000 in
theorem goes_14 (h : ML base P A w m S L) {b : Nat} {bs : List Nat} {c : Cl} {cs : List Cl} (hb : L.bl = b :: bs) (hs : S.stack = c :: cs) {ia : Nat} (hia : ia < 16) (xb xc : Int) (l : List Int) (la : Option Addr) (lc : Nat) (hl0 : 0 < l.length) (hl : IntsAt base w la l) :
    GoesC base P A w m S b c ⟨14, ia, xb, xc, l⟩ la lc := by
  unfold GoesC
  obtain ⟨R, hR⟩ : ∃ R, R = goesS c ⟨14, ia, xb, xc, l⟩ := ⟨_, rfl⟩
  rw [← hR]
  unfold goesS at hR
  simp only [show ((15 : Int) = 14) = False by simp, show ((14 : Int) = 14) = True by simp, true_and, false_and, if_false] at hR
  have hm := h.mlt
  obtain ⟨io, ic, hrow, hins, hreg⟩ := h.cls 0 b c (by rw [hb]; rfl) (by rw [hs]; rfl)
  have hbw := hrow.lt
  have hbl : b ∈ L.bl := by rw [hb]; exact List.mem_cons_self
  have y1 := hrow.cell (o := 1) rfl
  have hyz := hrow.frozen
  have hbb := h.high _ (h.ob _ hbl)
  obtain ⟨u0, u1, u2⟩ := Cl.get_reg hreg io ic hia
  have z0 := hrow.cell u0
  have z1 := hrow.cell u1
  have z2 := hrow.cell u2
  have hia0 : (0 : Int) ≤ (ia : Int) := by omega
  have hia1 : (ia : Int) < 16 := by omega
  generalize c.reg (ia : Int) = rb at *
  obtain ⟨rp, ra, rn⟩ := rb
  simp only at z0 z1 z2 hR
  have HR := Lib.hid hR
  have HH := Lib.hid (And.intro h (And.intro hb (And.intro hs (And.intro (And.intro hrow (And.intro hins hreg)) hl))))
  have hll : (0 : Int) < (l.length : Int) := by omega
  obtain ⟨lb, lo, e0, kl⟩ := hl 0 l[0] (List.getElem?_eq_getElem hl0)
  subst e0
  have kl0 := kl.2
  have hlb : lb < base := kl.1
  have hlw := World.block_lt_of_cell? w _ kl0
  have hlab : (⟨14, ia, xb, xc, l⟩ : In).lab 0 = l[0] := by unfold In.lab; rw [List.getD_eq_getElem?_getD]; simp [hl0]
  clear h hb hs hrow hins hreg hbl hR u0 u1 u2 kl hl
  simp only [Nat.add_zero] at kl0
  generalize l[0] = l0 at *
  go_enter Try.func92, Try.ntmps92
  go_wp2_with fail
  have hrx : Row (w.alloc (.cells #[.int .i64 14, .int .i64 ia, .int .i64 xb, .int .i64 xc, .slice (some ⟨lb, lo, none⟩) l.length lc] 112)) w.heap.size 112 [.int .i64 14, .int .i64 ia, .int .i64 xb, .int .i64 xc, .slice (some ⟨lb, lo, none⟩) l.length lc] := Row.new' rfl
  have hf0 : Fr Non w (w.alloc (.cells #[.int .i64 14, .int .i64 ia, .int .i64 xb, .int .i64 xc, .slice (some ⟨lb, lo, none⟩) l.length lc] 112)) := by exact (by repeat (first | exact Fr.refl _ _ | assumption | refine Fr.drewN ?_ _ | refine Fr.drew ?_ | refine Fr.drewl ?_ | refine Fr.drewNl ?_ _ | refine Fr.alloc ?_ _))
  have hs0 : (w.alloc (.cells #[.int .i64 14, .int .i64 ia, .int .i64 xb, .int .i64 xc, .slice (some ⟨lb, lo, none⟩) l.length lc] 112)).heap.size = w.heap.size + 1 := by simp
  generalize w.alloc (.cells #[.int .i64 14, .int .i64 ia, .int .i64 xb, .int .i64 xc, .slice (some ⟨lb, lo, none⟩) l.length lc] 112) = W at *
  obtain ⟨x0, x1, x2, x3, x4, xz⟩ := row5 hrx
  have zw0 := hf0.cell z0 id
  have zw1 := hf0.cell z1 id
  have zw2 := hf0.cell z2 id
  have HW := Lib.hid (And.intro hf0 hrx)
  clear hrx hf0 z0 z1 z2
  have hxw : w.heap.size < W.heap.size := by omega
  have hbW : b < W.heap.size := by omega
  have cW := @Mix.cls_drew W [b, w.heap.size]
  refine Mix.wp_region_mix [2, 6] [(0, 0), (0, 1), (1, 2), (0, 3), (0, 4), (0, 5), (1, 6), (2, 7), (2, 8)] (fun V => ∃ g, V = Mix.upon W [b, w.heap.size] g) (by kernel_rfl) (by kernel_rfl) cW ?_
  clear cW
  repeat (first | (refine Mix.S_pure (o := _) rfl rfl ?_; intro K hK; simp only [List.getElem_toArray, List.getElem_cons_zero, List.getElem_cons_succ]; go_big_quiet_op; go_big_quiet_on) | (refine Mix.S_load (o := _) rfl rfl ?_; intro K hK; simp only [List.getElem_toArray, List.getElem_cons_zero, List.getElem_cons_succ]; go_big_quiet_op; go_big_quiet_on) | refine Mix.S_skip0 (o := _) rfl rfl ?_ | refine Mix.S_skip1 (o := _) rfl rfl ?_)
  refine Mix.S_eff (o := _) rfl rfl ?_
  intro K hK
  simp only [List.getElem_toArray, List.getElem_cons_zero, List.getElem_cons_succ]
  go_simp
  refine hK _ _ ⟨Mix.cls_fr (D := Non) (by exact (by repeat (first | exact Fr.refl _ _ | assumption | refine Fr.drewN ?_ _ | refine Fr.drew ?_ | refine Fr.drewl ?_ | refine Fr.drewNl ?_ _ | refine Fr.alloc ?_ _))) (by simp [Non]; omega), ?_⟩
  clear hK K
  refine Mix.S_eff (o := _) rfl rfl ?_
  intro K hK
  simp only [List.getElem_toArray, List.getElem_cons_zero, List.getElem_cons_succ]
  go_simp
  refine hK _ _ ⟨Mix.cls_fr (D := fun x => x = W.heap.size) (by exact ((Fr.realloc _ _ _).drew).drewl) (by simp; omega), ?_⟩
  clear hK K
  refine Mix.S_done ?_
  have hf2 : Fr Non W ((W.alloc (.cells #[.bool rp, .int .i64 ra, .int .i64 rn] 38)).drew) := by exact (by repeat (first | exact Fr.refl _ _ | assumption | refine Fr.drewN ?_ _ | refine Fr.drew ?_ | refine Fr.drewl ?_ | refine Fr.drewNl ?_ _ | refine Fr.alloc ?_ _))
  have hr2 : Row ((W.alloc (.cells #[.bool rp, .int .i64 ra, .int .i64 rn] 38)).drew) (w.heap.size + 1) 38 [.bool rp, .int .i64 ra, .int .i64 rn] := Row.drew (Row.new' hs0)
  have hs2 : (W.alloc (.cells #[.bool rp, .int .i64 ra, .int .i64 rn] 38)).drew.heap.size = w.heap.size + 1 + 1 := by simp [hs0]
  generalize (W.alloc (.cells #[.bool rp, .int .i64 ra, .int .i64 rn] 38)).drew = V at *
  obtain ⟨q0, q1, q2, qz⟩ := row3 hr2
  obtain ⟨j0, j1, j2, j3, j4, jz⟩ := row5 (hf2.row HW.out.2 id)
  have hfV : Fr Non w V := HW.out.1.trans hf2
  have i1 := hfV.cell y1 id
  have iz := fun o => hfV.frozen hbw (hyz o) id
  have HV := Lib.hid hfV
  clear hf2 hr2 x0 x1 x2 x3 x4 xz zw0 zw1 zw2 hfV y1 hyz
  have hbV : b < V.heap.size := by omega
  have kl1 := HV.out.cell kl0 id
  cases rp
  · have hcase : (rn = 0 ∧ (rn == 0) = true) ∨ (rn ≠ 0 ∧ (rn == 0) = false ∧ (rn != 0) = true) := by by_cases h : rn = 0 <;> simp [h]
    rcases hcase with ⟨rfl, he⟩ | ⟨hne, he, hen⟩
    · go_wp2_with fail
      go_ret
      rw [HR.out, if_neg (by simp), if_neg (by simp), if_pos (by first | trivial | rfl | simp)]
      refine ⟨rfl, ?_⟩
      rw [St.setTop_self (c := c) (cs := cs) (by exact HH.out.2.2.1)]
      exact HH.out.1.aftN HV.out
    · go_wp2_with fail
      go_ret
      rw [HR.out, if_neg (by simp), if_pos hne, hlab]
      refine ⟨rfl, Aft.ahead HV.out ((HH.out.1.frN HV.out).aftTop HH.out.2.1 ?_ (Fr.set1 _ _ _ _))⟩
      exact ClAt.setAt (HV.out.row HH.out.2.2.2.1.1 id) (HH.out.2.2.2.1.2.1.fr HV.out (high_non base)) HH.out.2.2.2.1.2.2 hbb _
  · go_wp2_with fail
    go_ret
    rw [HR.out, if_pos (by first | trivial | rfl | simp)]
    refine ⟨rfl, ?_⟩
    rw [St.setTop_self (c := c) (cs := cs) (by exact HH.out.2.2.1)]
    exact HH.out.1.aftN HV.out

set_option maxRecDepth 100000 in
set_option maxHeartbeats 1000000 in
theorem goes_15 (h : ML base P A w m S L) {b : Nat} {bs : List Nat} {c : Cl} {cs : List Cl} (hb : L.bl = b :: bs) (hs : S.stack = c :: cs) {ia : Nat} (hia : ia < 16) (xb xc : Int) (l : List Int) (la : Option Addr) (lc : Nat) (hl0 : 0 < l.length) (hl : IntsAt base w la l) :
    GoesC base P A w m S b c ⟨15, ia, xb, xc, l⟩ la lc := by
  unfold GoesC
  obtain ⟨R, hR⟩ : ∃ R, R = goesS c ⟨15, ia, xb, xc, l⟩ := ⟨_, rfl⟩
  rw [← hR]
  unfold goesS at hR
  simp only [show ((15 : Int) = 14) = False by simp, show ((14 : Int) = 14) = True by simp, true_and, false_and, if_false] at hR
  have hm := h.mlt
  obtain ⟨io, ic, hrow, hins, hreg⟩ := h.cls 0 b c (by rw [hb]; rfl) (by rw [hs]; rfl)
  have hbw := hrow.lt
  have hbl : b ∈ L.bl := by rw [hb]; exact List.mem_cons_self
  have y1 := hrow.cell (o := 1) rfl
  have hyz := hrow.frozen
  have hbb := h.high _ (h.ob _ hbl)
  obtain ⟨u0, u1, u2⟩ := Cl.get_reg hreg io ic hia
  have z0 := hrow.cell u0
  have z1 := hrow.cell u1
  have z2 := hrow.cell u2
  have hia0 : (0 : Int) ≤ (ia : Int) := by omega
  have hia1 : (ia : Int) < 16 := by omega
  generalize c.reg (ia : Int) = rb at *
  obtain ⟨rp, ra, rn⟩ := rb
  simp only at z0 z1 z2 hR
  have HR := Lib.hid hR
  have HH := Lib.hid (And.intro h (And.intro hb (And.intro hs (And.intro (And.intro hrow (And.intro hins hreg)) hl))))
  have hll : (0 : Int) < (l.length : Int) := by omega
  obtain ⟨lb, lo, e0, kl⟩ := hl 0 l[0] (List.getElem?_eq_getElem hl0)
  subst e0
  have kl0 := kl.2
  have hlb : lb < base := kl.1
  have hlw := World.block_lt_of_cell? w _ kl0
  have hlab : (⟨15, ia, xb, xc, l⟩ : In).lab 0 = l[0] := by unfold In.lab; rw [List.getD_eq_getElem?_getD]; simp [hl0]
  clear h hb hs hrow hins hreg hbl hR u0 u1 u2 kl hl
  simp only [Nat.add_zero] at kl0
  generalize l[0] = l0 at *
  go_enter Try.func92, Try.ntmps92
  go_wp2_with fail
  have hrx : Row (w.alloc (.cells #[.int .i64 15, .int .i64 ia, .int .i64 xb, .int .i64 xc, .slice (some ⟨lb, lo, none⟩) l.length lc] 112)) w.heap.size 112 [.int .i64 15, .int .i64 ia, .int .i64 xb, .int .i64 xc, .slice (some ⟨lb, lo, none⟩) l.length lc] := Row.new' rfl
  have hf0 : Fr Non w (w.alloc (.cells #[.int .i64 15, .int .i64 ia, .int .i64 xb, .int .i64 xc, .slice (some ⟨lb, lo, none⟩) l.length lc] 112)) := by exact (by repeat (first | exact Fr.refl _ _ | assumption | refine Fr.drewN ?_ _ | refine Fr.drew ?_ | refine Fr.drewl ?_ | refine Fr.drewNl ?_ _ | refine Fr.alloc ?_ _))
  have hs0 : (w.alloc (.cells #[.int .i64 15, .int .i64 ia, .int .i64 xb, .int .i64 xc, .slice (some ⟨lb, lo, none⟩) l.length lc] 112)).heap.size = w.heap.size + 1 := by simp
  generalize w.alloc (.cells #[.int .i64 15, .int .i64 ia, .int .i64 xb, .int .i64 xc, .slice (some ⟨lb, lo, none⟩) l.length lc] 112) = W at *
  obtain ⟨x0, x1, x2, x3, x4, xz⟩ := row5 hrx
  have zw0 := hf0.cell z0 id
  have zw1 := hf0.cell z1 id
  have zw2 := hf0.cell z2 id
  have HW := Lib.hid (And.intro hf0 hrx)
  clear hrx hf0 z0 z1 z2
  have hxw : w.heap.size < W.heap.size := by omega
  have hbW : b < W.heap.size := by omega
  have cW := @Mix.cls_drew W [b, w.heap.size]
  refine Mix.wp_region_mix [2, 6] [(0, 0), (0, 1), (1, 2), (0, 3), (0, 4), (0, 5), (1, 6), (2, 7), (2, 8)] (fun V => ∃ g, V = Mix.upon W [b, w.heap.size] g) (by kernel_rfl) (by kernel_rfl) cW ?_
  clear cW
  repeat (first | (refine Mix.S_pure (o := _) rfl rfl ?_; intro K hK; simp only [List.getElem_toArray, List.getElem_cons_zero, List.getElem_cons_succ]; go_big_quiet_op; go_big_quiet_on) | (refine Mix.S_load (o := _) rfl rfl ?_; intro K hK; simp only [List.getElem_toArray, List.getElem_cons_zero, List.getElem_cons_succ]; go_big_quiet_op; go_big_quiet_on) | refine Mix.S_skip0 (o := _) rfl rfl ?_ | refine Mix.S_skip1 (o := _) rfl rfl ?_)
  refine Mix.S_eff (o := _) rfl rfl ?_
  intro K hK
  simp only [List.getElem_toArray, List.getElem_cons_zero, List.getElem_cons_succ]
  go_simp
  refine hK _ _ ⟨Mix.cls_fr (D := Non) (by exact (by repeat (first | exact Fr.refl _ _ | assumption | refine Fr.drewN ?_ _ | refine Fr.drew ?_ | refine Fr.drewl ?_ | refine Fr.drewNl ?_ _ | refine Fr.alloc ?_ _))) (by simp [Non]; omega), ?_⟩
  clear hK K
  refine Mix.S_eff (o := _) rfl rfl ?_
  intro K hK
  simp only [List.getElem_toArray, List.getElem_cons_zero, List.getElem_cons_succ]
  go_simp
  refine hK _ _ ⟨Mix.cls_fr (D := fun x => x = W.heap.size) (by exact ((Fr.realloc _ _ _).drew).drewl) (by simp; omega), ?_⟩
  clear hK K
  refine Mix.S_done ?_
  have hf2 : Fr Non W ((W.alloc (.cells #[.bool rp, .int .i64 ra, .int .i64 rn] 38)).drew) := by exact (by repeat (first | exact Fr.refl _ _ | assumption | refine Fr.drewN ?_ _ | refine Fr.drew ?_ | refine Fr.drewl ?_ | refine Fr.drewNl ?_ _ | refine Fr.alloc ?_ _))
  have hr2 : Row ((W.alloc (.cells #[.bool rp, .int .i64 ra, .int .i64 rn] 38)).drew) (w.heap.size + 1) 38 [.bool rp, .int .i64 ra, .int .i64 rn] := Row.drew (Row.new' hs0)
  have hs2 : (W.alloc (.cells #[.bool rp, .int .i64 ra, .int .i64 rn] 38)).drew.heap.size = w.heap.size + 1 + 1 := by simp [hs0]
  generalize (W.alloc (.cells #[.bool rp, .int .i64 ra, .int .i64 rn] 38)).drew = V at *
  obtain ⟨q0, q1, q2, qz⟩ := row3 hr2
  obtain ⟨j0, j1, j2, j3, j4, jz⟩ := row5 (hf2.row HW.out.2 id)
  have hfV : Fr Non w V := HW.out.1.trans hf2
  have i1 := hfV.cell y1 id
  have iz := fun o => hfV.frozen hbw (hyz o) id
  have HV := Lib.hid hfV
  clear hf2 hr2 x0 x1 x2 x3 x4 xz zw0 zw1 zw2 hfV y1 hyz
  have hbV : b < V.heap.size := by omega
  cases rp
  · have hcase : (rn < 0 ∧ decide (rn < 0) = true) ∨ (¬ rn < 0 ∧ decide (rn < 0) = false ∧ (l.length : Int) ≤ rn ∧ decide ((l.length : Int) ≤ rn) = true) ∨ (¬ rn < 0 ∧ decide (rn < 0) = false ∧ ¬ (l.length : Int) ≤ rn ∧ decide ((l.length : Int) ≤ rn) = false) := by
      by_cases hk : rn < 0 <;> by_cases hk2 : (l.length : Int) ≤ rn <;> simp [hk, hk2]
    rcases hcase with ⟨hk, hd⟩ | ⟨hk, hd, hk2, hd2⟩ | ⟨hk, hd, hk2, hd2⟩
    · go_wp2_with fail
      go_ret
      rw [HR.out, if_neg (by simp), if_pos (Or.inl hk)]
      refine ⟨rfl, ?_⟩
      rw [St.setTop_self (c := c) (cs := cs) (by exact HH.out.2.2.1)]
      exact HH.out.1.aftN HV.out
    · go_wp2_with fail
      go_ret
      rw [HR.out, if_neg (by simp), if_pos (Or.inr hk2)]
      refine ⟨rfl, ?_⟩
      rw [St.setTop_self (c := c) (cs := cs) (by exact HH.out.2.2.1)]
      exact HH.out.1.aftN HV.out
    · obtain ⟨k, rfl⟩ := Int.eq_ofNat_of_zero_le (show 0 ≤ rn by omega)
      have hkl : k < l.length := by omega
      obtain ⟨lb', lo', e0, kk⟩ := HH.out.2.2.2.2 k l[k] (List.getElem?_eq_getElem hkl)
      cases e0
      have kl1 := HV.out.cell kk.2 id
      have hlabk : (⟨15, ia, xb, xc, l⟩ : In).lab (k : Int) = l[k] := by unfold In.lab; rw [List.getD_eq_getElem?_getD]; simp [hkl]
      generalize l[k] = lk at *
      have hk0 : (0 : Int) ≤ (k : Int) := by omega
      have hk1 : (k : Int) < (l.length : Int) := by omega
      clear kk
      go_wp2_with fail
      go_ret
      rw [HR.out, if_neg (by simp), if_neg (by omega), hlabk]
      refine ⟨rfl, Aft.ahead HV.out ((HH.out.1.frN HV.out).aftTop HH.out.2.1 ?_ (Fr.set1 _ _ _ _))⟩
      exact ClAt.setAt (HV.out.row HH.out.2.2.2.1.1 id) (HH.out.2.2.2.1.2.1.fr HV.out (high_non base)) HH.out.2.2.2.1.2.2 hbb _
  · go_wp2_with fail
    go_ret
    rw [HR.out, if_pos (by first | trivial | rfl | simp)]
    refine ⟨rfl, ?_⟩
    rw [St.setTop_self (c := c) (cs := cs) (by exact HH.out.2.2.1)]
    exact HH.out.1.aftN HV.out

end

end Go.Proofs.Ytlbomnbpahmphaa
