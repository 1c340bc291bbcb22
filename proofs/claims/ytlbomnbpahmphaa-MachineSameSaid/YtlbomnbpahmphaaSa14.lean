/- Walks: the machine's 'outside'. Conditions: the layout hidden; registers in range; few calls, few events. Printed by genoutside.py. -/
import Derived.Test.YtlbomnbpahmphaaSa13
namespace Go.Proofs.Ytlbomnbpahmphaa
open Go.RowKit

section
variable {base : Nat} {P : Pr} {A : Nat → Prop} {w w' w2 : World} {m : Nat} {S : St} {L : Lay}

def OutsC (base : Nat) (P : Pr) (A : Nat → Prop) (w : World) (m : Nat) (S : St) (b : Nat) (c : Cl) (x : In) (la : Option Addr) (lc : Nat) : Prop :=
  Calls Try.prog 75 #[.pointer (some ⟨m, 0, none⟩), .pointer (some ⟨b, 0, none⟩), .agg #[.int .i64 x.op, .int .i64 x.a, .int .i64 x.b, .int .i64 x.c, .slice la x.l.length lc]] w fun e w' =>
    ∃ v, e = .returned v ∧ Res w' w.heap.size v (outsideS S c x).1 ∧ Aft base P A w w' m (outsideS S c x).2

set_option maxRecDepth 100000 in
set_option maxHeartbeats 1000000 in
theorem outside_18 (h : ML base P A w m S L) {b : Nat} {bs : List Nat} {c : Cl} {cs : List Cl} (hb : L.bl = b :: bs) (hs : S.stack = c :: cs) (hn : S.stack.length ≤ 1000000000) (ht : S.told.length ≤ 1000000000) (hi : ∀ c ∈ S.stack, c.role = 1 → 0 ≤ c.into ∧ c.into < 16) {ia : Nat} (hia : ia < 16) (xb xc : Int) (l : List Int) (la : Option Addr) (lc : Nat) :
    OutsC base P A w m S b c ⟨18, ia, xb, xc, l⟩ la lc := by
  unfold OutsC
  obtain ⟨R, hR⟩ : ∃ R, R = outsideS S c ⟨18, ia, xb, xc, l⟩ := ⟨_, rfl⟩
  rw [← hR]
  unfold outsideS at hR
  simp only at hR
  rw [show (if (18 : Int) = 21 then (xb : Int) else (ia : Int)) = (ia : Int) from if_neg (by simp)] at hR
  have hm := h.mlt
  obtain ⟨io, ic, hrow, hins, hreg⟩ := h.cls 0 b c (by rw [hb]; rfl) (by rw [hs]; rfl)
  have hbw := hrow.lt
  have hbl : b ∈ L.bl := by rw [hb]; exact List.mem_cons_self
  have y1 := hrow.cell (o := 1) rfl
  have hyz := hrow.frozen
  have hbb := h.high _ (h.ob _ hbl)
  obtain ⟨u0, u1, u2⟩ := Cl.get_reg hreg io ic hia
  have z0 := hrow.cell u0
  have z1 := hrow.cell u1
  have z2 := hrow.cell u2
  have hr0 : (0 : Int) ≤ (ia : Int) := by omega
  have hr1 : (ia : Int) < 16 := by omega
  generalize c.reg (ia : Int) = rb at *
  obtain ⟨rp, ra, rn⟩ := rb
  simp only at z0 z1 z2 hR
  have HR := Lib.hid hR
  have HH := Lib.hid (And.intro h (And.intro hb (And.intro hs (And.intro hn (And.intro ht (And.intro hi (And.intro hrow (And.intro hins hreg))))))))
  clear h hb hs hn ht hi hrow hins hreg hbl hR u0 u1 u2 y1 hyz
  have hfV : Fr Non w ((w.alloc (.cells #[.int .i64 18, .int .i64 ia, .int .i64 xb, .int .i64 xc, .slice la l.length lc] 112)).alloc (.cells #[.bool rp, .int .i64 ra, .int .i64 rn] 38)) := by exact (by repeat (first | exact Fr.refl _ _ | assumption | refine Fr.drewN ?_ _ | refine Fr.drew ?_ | refine Fr.drewl ?_ | refine Fr.drewNl ?_ _ | refine Fr.alloc ?_ _))
  cases rp
  · have hT := Lib.hid (tell_m (HH.out.1.frN hfV) HH.out.2.2.2.2.1 2 0 0 rn)
    have HV := Lib.hid hfV
    clear hfV
    go_enter Try.func75, Try.ntmps75
    go_wp2_with fail
    refine hT.out.mono ?_
    rintro e1 w1 ⟨rfl, ⟨tv', A1, hM, hA⟩, hf⟩
    have HE := Lib.hid (And.intro hM (And.intro hA hf))
    clear hM hA hf
    go_wp2_with fail
    go_ret
    rw [HR.out, if_neg (by simp), if_pos (by first | trivial | rfl | simp)]
    exact ⟨_, rfl, Or.inl ⟨rfl, rfl⟩, Aft.ahead HV.out ⟨A1, ⟨_, HE.out.1⟩, HE.out.2.1, HE.out.2.2.mono fun x _ hx => by
      rcases hx with hx | hx
      · exact hx ▸ HH.out.1.om
      · exact HH.out.1.ot x hx⟩⟩
  · have hE := Lib.hid fun w1 => failed_r w1 11 (by simp)
    have HV := Lib.hid hfV
    clear hfV
    go_enter Try.func75, Try.ntmps75
    go_wp2_with fail
    refine (hE.out _).mono ?_
    rintro e1 w1 ⟨v, rfl, hres, hf⟩
    have HE := Lib.hid (And.intro hres hf)
    clear hres hf
    go_wp2_with fail
    go_ret
    rw [HR.out, if_pos (by first | trivial | rfl | simp)]
    exact ⟨_, rfl, HE.out.1.lo HV.out.size, HH.out.1.aftN (HV.out.trans HE.out.2)⟩

set_option maxRecDepth 100000 in
set_option maxHeartbeats 1000000 in
theorem outside_19 (h : ML base P A w m S L) {b : Nat} {bs : List Nat} {c : Cl} {cs : List Cl} (hb : L.bl = b :: bs) (hs : S.stack = c :: cs) (hn : S.stack.length ≤ 1000000000) (ht : S.told.length ≤ 1000000000) (hi : ∀ c ∈ S.stack, c.role = 1 → 0 ≤ c.into ∧ c.into < 16) {ia : Nat} (hia : ia < 16) (xb xc : Int) (l : List Int) (la : Option Addr) (lc : Nat) :
    OutsC base P A w m S b c ⟨19, ia, xb, xc, l⟩ la lc := by
  unfold OutsC
  obtain ⟨R, hR⟩ : ∃ R, R = outsideS S c ⟨19, ia, xb, xc, l⟩ := ⟨_, rfl⟩
  rw [← hR]
  unfold outsideS at hR
  simp only at hR
  rw [show (if (19 : Int) = 21 then (xb : Int) else (ia : Int)) = (ia : Int) from if_neg (by simp)] at hR
  have hm := h.mlt
  obtain ⟨io, ic, hrow, hins, hreg⟩ := h.cls 0 b c (by rw [hb]; rfl) (by rw [hs]; rfl)
  have hbw := hrow.lt
  have hbl : b ∈ L.bl := by rw [hb]; exact List.mem_cons_self
  have y1 := hrow.cell (o := 1) rfl
  have hyz := hrow.frozen
  have hbb := h.high _ (h.ob _ hbl)
  obtain ⟨u0, u1, u2⟩ := Cl.get_reg hreg io ic hia
  have z0 := hrow.cell u0
  have z1 := hrow.cell u1
  have z2 := hrow.cell u2
  have hr0 : (0 : Int) ≤ (ia : Int) := by omega
  have hr1 : (ia : Int) < 16 := by omega
  generalize c.reg (ia : Int) = rb at *
  obtain ⟨rp, ra, rn⟩ := rb
  simp only at z0 z1 z2 hR
  have HR := Lib.hid hR
  have HH := Lib.hid (And.intro h (And.intro hb (And.intro hs (And.intro hn (And.intro ht (And.intro hi (And.intro hrow (And.intro hins hreg))))))))
  clear h hb hs hn ht hi hrow hins hreg hbl hR u0 u1 u2 y1 hyz
  have hfV : Fr Non w ((w.alloc (.cells #[.int .i64 19, .int .i64 ia, .int .i64 xb, .int .i64 xc, .slice la l.length lc] 112)).alloc (.cells #[.bool rp, .int .i64 ra, .int .i64 rn] 38)) := by exact (by repeat (first | exact Fr.refl _ _ | assumption | refine Fr.drewN ?_ _ | refine Fr.drew ?_ | refine Fr.drewl ?_ | refine Fr.drewNl ?_ _ | refine Fr.alloc ?_ _))
  cases rp
  · have hT := Lib.hid (tell_m (HH.out.1.frN hfV) HH.out.2.2.2.2.1 3 0 xb rn)
    have HV := Lib.hid hfV
    clear hfV
    go_enter Try.func75, Try.ntmps75
    go_wp2_with fail
    refine hT.out.mono ?_
    rintro e1 w1 ⟨rfl, ⟨tv', A1, hM, hA⟩, hf⟩
    have HE := Lib.hid (And.intro hM (And.intro hA hf))
    clear hM hA hf
    go_wp2_with fail
    go_ret
    rw [HR.out, if_neg (by simp), if_neg (by simp), if_pos (by first | trivial | rfl | simp)]
    exact ⟨_, rfl, Or.inl ⟨rfl, rfl⟩, Aft.ahead HV.out ⟨A1, ⟨_, HE.out.1⟩, HE.out.2.1, HE.out.2.2.mono fun x _ hx => by
      rcases hx with hx | hx
      · exact hx ▸ HH.out.1.om
      · exact HH.out.1.ot x hx⟩⟩
  · have hE := Lib.hid fun w1 => failed_r w1 11 (by simp)
    have HV := Lib.hid hfV
    clear hfV
    go_enter Try.func75, Try.ntmps75
    go_wp2_with fail
    refine (hE.out _).mono ?_
    rintro e1 w1 ⟨v, rfl, hres, hf⟩
    have HE := Lib.hid (And.intro hres hf)
    clear hres hf
    go_wp2_with fail
    go_ret
    rw [HR.out, if_pos (by first | trivial | rfl | simp)]
    exact ⟨_, rfl, HE.out.1.lo HV.out.size, HH.out.1.aftN (HV.out.trans HE.out.2)⟩

set_option maxRecDepth 100000 in
set_option maxHeartbeats 1000000 in
theorem outside_20 (h : ML base P A w m S L) {b : Nat} {bs : List Nat} {c : Cl} {cs : List Cl} (hb : L.bl = b :: bs) (hs : S.stack = c :: cs) (hn : S.stack.length ≤ 1000000000) (ht : S.told.length ≤ 1000000000) (hi : ∀ c ∈ S.stack, c.role = 1 → 0 ≤ c.into ∧ c.into < 16) {ia : Nat} (hia : ia < 16) (xb xc : Int) (l : List Int) (la : Option Addr) (lc : Nat) :
    OutsC base P A w m S b c ⟨20, ia, xb, xc, l⟩ la lc := by
  unfold OutsC
  obtain ⟨R, hR⟩ : ∃ R, R = outsideS S c ⟨20, ia, xb, xc, l⟩ := ⟨_, rfl⟩
  rw [← hR]
  unfold outsideS at hR
  simp only at hR
  rw [show (if (20 : Int) = 21 then (xb : Int) else (ia : Int)) = (ia : Int) from if_neg (by simp)] at hR
  have hm := h.mlt
  obtain ⟨io, ic, hrow, hins, hreg⟩ := h.cls 0 b c (by rw [hb]; rfl) (by rw [hs]; rfl)
  have hbw := hrow.lt
  have hbl : b ∈ L.bl := by rw [hb]; exact List.mem_cons_self
  have y1 := hrow.cell (o := 1) rfl
  have hyz := hrow.frozen
  have hbb := h.high _ (h.ob _ hbl)
  obtain ⟨u0, u1, u2⟩ := Cl.get_reg hreg io ic hia
  have z0 := hrow.cell u0
  have z1 := hrow.cell u1
  have z2 := hrow.cell u2
  have hr0 : (0 : Int) ≤ (ia : Int) := by omega
  have hr1 : (ia : Int) < 16 := by omega
  generalize c.reg (ia : Int) = rb at *
  obtain ⟨rp, ra, rn⟩ := rb
  simp only at z0 z1 z2 hR
  have HR := Lib.hid hR
  have HH := Lib.hid (And.intro h (And.intro hb (And.intro hs (And.intro hn (And.intro ht (And.intro hi (And.intro hrow (And.intro hins hreg))))))))
  clear h hb hs hn ht hi hrow hins hreg hbl hR u0 u1 u2 y1 hyz
  have hfV : Fr Non w ((w.alloc (.cells #[.int .i64 20, .int .i64 ia, .int .i64 xb, .int .i64 xc, .slice la l.length lc] 112)).alloc (.cells #[.bool rp, .int .i64 ra, .int .i64 rn] 38)) := by exact (by repeat (first | exact Fr.refl _ _ | assumption | refine Fr.drewN ?_ _ | refine Fr.drew ?_ | refine Fr.drewl ?_ | refine Fr.drewNl ?_ _ | refine Fr.alloc ?_ _))
  cases rp
  · have hT := Lib.hid (suspended_m (HH.out.1.frN hfV) HH.out.2.2.2.1 HH.out.2.2.2.2.1 HH.out.2.2.2.2.2.1 0 rn)
    have HV := Lib.hid hfV
    clear hfV
    go_enter Try.func75, Try.ntmps75
    go_wp2_with fail
    refine hT.out.mono ?_
    rintro e1 w1 ⟨v, rfl, hres, haft⟩
    have HE := Lib.hid (And.intro hres haft)
    clear hres haft
    go_wp2_with fail
    go_ret
    rw [HR.out, if_neg (by simp), if_neg (by simp), if_neg (by simp), if_pos (by first | trivial | rfl | simp)]
    exact ⟨_, rfl, HE.out.1.lo HV.out.size, Aft.ahead HV.out HE.out.2⟩
  · have hE := Lib.hid fun w1 => failed_r w1 11 (by simp)
    have HV := Lib.hid hfV
    clear hfV
    go_enter Try.func75, Try.ntmps75
    go_wp2_with fail
    refine (hE.out _).mono ?_
    rintro e1 w1 ⟨v, rfl, hres, hf⟩
    have HE := Lib.hid (And.intro hres hf)
    clear hres hf
    go_wp2_with fail
    go_ret
    rw [HR.out, if_pos (by first | trivial | rfl | simp)]
    exact ⟨_, rfl, HE.out.1.lo HV.out.size, HH.out.1.aftN (HV.out.trans HE.out.2)⟩

set_option maxRecDepth 100000 in
set_option maxHeartbeats 1000000 in
theorem outside_21 (h : ML base P A w m S L) {b : Nat} {bs : List Nat} {c : Cl} {cs : List Cl} (hb : L.bl = b :: bs) (hs : S.stack = c :: cs) (hn : S.stack.length ≤ 1000000000) (ht : S.told.length ≤ 1000000000) (hi : ∀ c ∈ S.stack, c.role = 1 → 0 ≤ c.into ∧ c.into < 16) {ia ib : Nat} (hia : ia < 16) (hib : ib < 16) (xc : Int) (l : List Int) (la : Option Addr) (lc : Nat) :
    OutsC base P A w m S b c ⟨21, ia, ib, xc, l⟩ la lc := by
  unfold OutsC
  obtain ⟨R, hR⟩ : ∃ R, R = outsideS S c ⟨21, ia, ib, xc, l⟩ := ⟨_, rfl⟩
  rw [← hR]
  unfold outsideS at hR
  simp only at hR
  simp only [if_true] at hR
  have hm := h.mlt
  obtain ⟨io, ic, hrow, hins, hreg⟩ := h.cls 0 b c (by rw [hb]; rfl) (by rw [hs]; rfl)
  have hbw := hrow.lt
  have hbl : b ∈ L.bl := by rw [hb]; exact List.mem_cons_self
  have y1 := hrow.cell (o := 1) rfl
  have hyz := hrow.frozen
  have hbb := h.high _ (h.ob _ hbl)
  obtain ⟨u0, u1, u2⟩ := Cl.get_reg hreg io ic hib
  have z0 := hrow.cell u0
  have z1 := hrow.cell u1
  have z2 := hrow.cell u2
  have hr0 : (0 : Int) ≤ (ib : Int) := by omega
  have hr1 : (ib : Int) < 16 := by omega
  generalize c.reg (ib : Int) = rb at *
  obtain ⟨rp, ra, rn⟩ := rb
  simp only at z0 z1 z2 hR
  have c3 : w.cell? ⟨m, 3, none⟩ = some (.map (some L.eb)) := h.row.cell rfl
  have HR := Lib.hid hR
  have HH := Lib.hid (And.intro h (And.intro hb (And.intro hs (And.intro hn (And.intro ht (And.intro hi (And.intro hrow (And.intro hins hreg))))))))
  clear h hb hs hn ht hi hrow hins hreg hbl hR u0 u1 u2 y1 hyz
  have hfV : Fr Non w ((w.alloc (.cells #[.int .i64 21, .int .i64 ia, .int .i64 ib, .int .i64 xc, .slice la l.length lc] 112)).alloc (.cells #[.bool rp, .int .i64 ra, .int .i64 rn] 38)) := by exact (by repeat (first | exact Fr.refl _ _ | assumption | refine Fr.drewN ?_ _ | refine Fr.drew ?_ | refine Fr.drewl ?_ | refine Fr.drewNl ?_ _ | refine Fr.alloc ?_ _))
  cases rp
  · have hEv := (HH.out.1.frN hfV).ev.map
    have k3 := hfV.cell c3 id
    have hsV : ((w.alloc (.cells #[.int .i64 21, .int .i64 ia, .int .i64 ib, .int .i64 xc, .slice la l.length lc] 112)).alloc (.cells #[.bool false, .int .i64 ra, .int .i64 rn] 38)).heap.size = w.heap.size + 1 + 1 := by simp
    have hrx : Row ((w.alloc (.cells #[.int .i64 21, .int .i64 ia, .int .i64 ib, .int .i64 xc, .slice la l.length lc] 112)).alloc (.cells #[.bool false, .int .i64 ra, .int .i64 rn] 38)) w.heap.size 112 [.int .i64 21, .int .i64 ia, .int .i64 ib, .int .i64 xc, .slice la l.length lc] := Row.alloc (Row.new' rfl) _
    have hrw : Row ((w.alloc (.cells #[.int .i64 21, .int .i64 ia, .int .i64 ib, .int .i64 xc, .slice la l.length lc] 112)).alloc (.cells #[.bool false, .int .i64 ra, .int .i64 rn] 38)) (w.heap.size + 1) 38 [.bool false, .int .i64 ra, .int .i64 rn] := Row.new' (by simp)
    go_enter Try.func75, Try.ntmps75
    go_wp2_with fail
    generalize (w.alloc (.cells #[.int .i64 21, .int .i64 ia, .int .i64 ib, .int .i64 xc, .slice la l.length lc] 112)).alloc (.cells #[.bool false, .int .i64 ra, .int .i64 rn] 38) = V at *
    have hrun := fun n => run_lookup_ok (P := Try.prog) (hEv.fr ((Fr.refl Non V).drewN n) id) Try.underlying79 Try.underlying3 (.int .i64 0) (by kernel_rfl) rn
    simp only [mfind_ev] at hrun
    obtain ⟨x0, x1, x2, x3, x4, xz⟩ := row5 hrx
    obtain ⟨q0, q1, q2, qz⟩ := row3 hrw
    have HV := Lib.hid (And.intro hfV (And.intro hrx hrw))
    clear hfV hrx hrw hEv c3 z0 z1 z2
    cases hev : evOf S.ev rn with
    | none =>
      simp only [hev, Option.map_none, Option.getD_none, Option.isSome_none] at hrun
      go_quiet (fail)
      have fU : Fr Non w (V.drewN nq) := HV.out.1.drewN nq
      have rxU : Row (V.drewN nq) w.heap.size 112 [.int .i64 21, .int .i64 ia, .int .i64 ib, .int .i64 xc, .slice la l.length lc] := HV.out.2.1
      have rwU : Row (V.drewN nq) (w.heap.size + 1) 38 [.bool false, .int .i64 ra, .int .i64 rn] := HV.out.2.2
      have hsU : (V.drewN nq).heap.size = w.heap.size + 1 + 1 := hsV
      clear hrun x0 x1 x2 x3 x4 xz q0 q1 q2 qz k3
      generalize V.drewN nq = U at *
      clear hsV HV
      obtain ⟨q0, q1, q2, qz⟩ := row3 rwU
      have hT := Lib.hid (suspended_m (HH.out.1.frN fU) HH.out.2.2.2.1 HH.out.2.2.2.2.1 HH.out.2.2.2.2.2.1 1 rn)
      have HU := Lib.hid fU
      clear fU rxU rwU
      go_wp2_with fail
      refine hT.out.mono ?_
      rintro e1 w1 ⟨v, rfl, hres, haft⟩
      have HE := Lib.hid (And.intro hres haft)
      clear hres haft
      go_wp2_with fail
      go_ret
      rw [HR.out, if_neg (by simp), if_neg (by simp), if_neg (by simp), if_neg (by simp), hev]
      exact ⟨_, rfl, HE.out.1.lo HU.out.size, Aft.ahead HU.out HE.out.2⟩
    | some n =>
      simp only [hev, Option.map_some, Option.getD_some, Option.isSome_some] at hrun
      go_quiet (fail)
      have fU : Fr Non w (V.drewN nq) := HV.out.1.drewN nq
      have rxU : Row (V.drewN nq) w.heap.size 112 [.int .i64 21, .int .i64 ia, .int .i64 ib, .int .i64 xc, .slice la l.length lc] := HV.out.2.1
      have rwU : Row (V.drewN nq) (w.heap.size + 1) 38 [.bool false, .int .i64 ra, .int .i64 rn] := HV.out.2.2
      have hsU : (V.drewN nq).heap.size = w.heap.size + 1 + 1 := hsV
      clear hrun x0 x1 x2 x3 x4 xz q0 q1 q2 qz k3
      generalize V.drewN nq = U at *
      clear hsV HV
      obtain ⟨x0, x1, x2, x3, x4, xz⟩ := row5 rxU
      have HU := Lib.hid fU
      clear fU rxU rwU
      have hia0 : (0 : Int) ≤ (ia : Int) := by omega
      have hia1 : (ia : Int) < 16 := by omega
      have hxU : w.heap.size < U.heap.size := by omega
      have hbU : b < U.heap.size := by omega
      go_wp2_with fail
      have cW := @Mix.cls_drew U [w.heap.size]
      refine Mix.wp_region_mix [2] [(0, 0), (0, 1), (1, 2), (0, 3), (0, 5), (0, 6), (2, 4), (0, 7), (2, 8)] (fun V => ∃ g, V = Mix.upon U [w.heap.size] g) (by kernel_rfl) (by kernel_rfl) cW ?_
      clear cW
      repeat (first | (refine Mix.S_pure (o := _) rfl rfl ?_; intro K hK; simp only [List.getElem_toArray, List.getElem_cons_zero, List.getElem_cons_succ]; go_big_quiet_op; go_big_quiet_on) | (refine Mix.S_load (o := _) rfl rfl ?_; intro K hK; simp only [List.getElem_toArray, List.getElem_cons_zero, List.getElem_cons_succ]; go_big_quiet_op; go_big_quiet_on) | refine Mix.S_skip0 (o := _) rfl rfl ?_ | refine Mix.S_skip1 (o := _) rfl rfl ?_)
      refine Mix.S_eff (o := _) rfl rfl ?_
      intro K hK
      simp only [List.getElem_toArray, List.getElem_cons_zero, List.getElem_cons_succ]
      go_simp
      refine (number_c _ _).mono ?_
      rintro e1 V7 ⟨rfl, hf⟩
      refine hK _ _ ⟨Mix.cls_fr (D := Non) hf (by simp [Non]; omega), ?_⟩
      clear hK K
      have f7 := HU.out.trans (Fr.trans (by exact (Fr.refl _ _).drew) hf)
      have HY := Lib.hid f7
      have s7 := hf.size
      simp only [World.size_drew] at s7
      clear hf
      obtain ⟨io', ic', hrow', hins', hreg'⟩ := ((HH.out.1.frN HY.out).cls 0 b c (by rw [HH.out.2.1]; rfl) (by rw [HH.out.2.2.1]; rfl))
      obtain ⟨u0, u1, u2⟩ := Cl.get_reg hreg' io' ic' hia
      have v0 := hrow'.cell u0
      have v1 := hrow'.cell u1
      have v2 := hrow'.cell u2
      have vz := hrow'.frozen
      have HT := Lib.hid (And.intro hrow' (And.intro hins' hreg'))
      clear hrow' hins' hreg' u0 u1 u2 f7
      repeat (first | (refine Mix.S_pure (o := _) rfl rfl ?_; intro K hK; simp only [List.getElem_toArray, List.getElem_cons_zero, List.getElem_cons_succ]; go_big_quiet_op; go_big_quiet_on) | (refine Mix.S_load (o := _) rfl rfl ?_; intro K hK; simp only [List.getElem_toArray, List.getElem_cons_zero, List.getElem_cons_succ]; go_big_quiet_op; go_big_quiet_on) | refine Mix.S_skip0 (o := _) rfl rfl ?_ | refine Mix.S_skip1 (o := _) rfl rfl ?_)
      refine Mix.S_eff (o := _) rfl rfl ?_
      intro K hK
      simp only [List.getElem_toArray, List.getElem_cons_zero, List.getElem_cons_succ]
      go_simp
      refine hK _ _ ⟨Mix.cls_fr (D := fun x => x = b) (by exact Fr.set3 _ _ _ _ _ _ _ _) (by simp; omega), ?_⟩
      clear hK K v0 v1 v2 vz
      repeat (first | (refine Mix.S_pure (o := _) rfl rfl ?_; intro K hK; simp only [List.getElem_toArray, List.getElem_cons_zero, List.getElem_cons_succ]; go_big_quiet_op; go_big_quiet_on) | (refine Mix.S_load (o := _) rfl rfl ?_; intro K hK; simp only [List.getElem_toArray, List.getElem_cons_zero, List.getElem_cons_succ]; go_big_quiet_op; go_big_quiet_on) | refine Mix.S_skip0 (o := _) rfl rfl ?_ | refine Mix.S_skip1 (o := _) rfl rfl ?_)
      refine Mix.S_done ?_
      go_wp2_with fail
      go_ret
      rw [HR.out, if_neg (by simp), if_neg (by simp), if_neg (by simp), if_neg (by simp), hev]
      obtain ⟨hrow', hins', hreg'⟩ := HT.out
      exact ⟨_, rfl, Or.inl ⟨rfl, rfl⟩, Aft.ahead HY.out ((HH.out.1.frN HY.out).aftTop HH.out.2.1 (ClAt.put hrow' hins' hreg' hia hbb (num n)) (Fr.set3 _ _ _ _ _ _ _ _))⟩
  · have hE := Lib.hid fun w1 => failed_r w1 11 (by simp)
    have HV := Lib.hid hfV
    clear hfV
    go_enter Try.func75, Try.ntmps75
    go_wp2_with fail
    refine (hE.out _).mono ?_
    rintro e1 w1 ⟨v, rfl, hres, hf⟩
    have HE := Lib.hid (And.intro hres hf)
    clear hres hf
    go_wp2_with fail
    go_ret
    rw [HR.out, if_pos (by first | trivial | rfl | simp)]
    exact ⟨_, rfl, HE.out.1.lo HV.out.size, HH.out.1.aftN (HV.out.trans HE.out.2)⟩

end

end Go.Proofs.Ytlbomnbpahmphaa

/- Walks: the machine's 'calls'. Conditions: the layout hidden; registers in range; few calls; what the coroutines name is there. Printed by gencalls.py. -/
namespace Go.Proofs.Ytlbomnbpahmphaa
open Go.RowKit

/-- A whole call is stored into a block that holds one. -/
theorem wpList_storecall {ops : Array Oper} {rest : List Oper} {a : Act} {w : World} {Q : Exit → Act → World → Prop} {dst : Option Tmp} {type : TypeId} {pos : String} {after : Array Edge} (t v g : Nat) (cells : List Value)
    (hx : a.eval (.tmp t) = .pointer (some ⟨g, 0, none⟩)) (hy : a.eval (.tmp v) = .agg cells.toArray) (h3 : cells.length = 56) (h4 : cells.toArray.all (·.oneCell') = true) (h : ∃ old, Row w g 97 old ∧ old.length = 56 ∧ ∀ w', Row w' g 97 cells → Fr (fun x => x = g) w w' → wpList Try.prog ops Q rest (a.put dst undef) w') :
    wpList Try.prog ops Q ({ dst := dst, op := .store 97 (.tmp t) (.tmp v), type := type, pos := pos, after := after, guard := none } :: rest) a w := by
  obtain ⟨old, h1, h2, h5⟩ := h
  refine wpList_store_row rfl 97 (.tmp t) (.tmp v) rfl g cells.toArray hx hy 97 old.toArray h1 ?_ (by simp [h2, h3]) h4 (h5 _ (row_setRow h1 cells).1 (row_setRow h1 cells).2)
  simp only [List.size_toArray, h3]
  kernel_rfl

theorem litOne : (([.slice none 0 0, .int .i64 0, .bool false, .int .i64 0, .int .i64 0, .bool false, .int .i64 0, .int .i64 0, .bool false, .int .i64 0, .int .i64 0, .bool false, .int .i64 0, .int .i64 0, .bool false, .int .i64 0, .int .i64 0, .bool false, .int .i64 0, .int .i64 0, .bool false, .int .i64 0, .int .i64 0, .bool false, .int .i64 0, .int .i64 0, .bool false, .int .i64 0, .int .i64 0, .bool false, .int .i64 0, .int .i64 0, .bool false, .int .i64 0, .int .i64 0, .bool false, .int .i64 0, .int .i64 0, .bool false, .int .i64 0, .int .i64 0, .bool false, .int .i64 0, .int .i64 0, .bool false, .int .i64 0, .int .i64 0, .bool false, .int .i64 0, .int .i64 0, .bool false, .int .i64 0, .int .i64 0, .int .i64 3, .int .i64 0, .int .i64 0] : List Value)).toArray.all (·.oneCell') = true := by kernel_rfl

section
variable {base : Nat} {P : Pr} {A : Nat → Prop} {w w' w2 : World} {m : Nat} {S : St} {L : Lay}

def CallsC (base : Nat) (P : Pr) (A : Nat → Prop) (w : World) (m : Nat) (S : St) (b : Nat) (c : Cl) (x : In) (la : Option Addr) (lc : Nat) : Prop :=
  Calls Try.prog 76 #[.pointer (some ⟨m, 0, none⟩), .pointer (some ⟨b, 0, none⟩), .agg #[.int .i64 x.op, .int .i64 x.a, .int .i64 x.b, .int .i64 x.c, .slice la x.l.length lc]] w fun e w' =>
    ∃ v, e = .returned v ∧ Res w' w.heap.size v (callsS P S c x).1 ∧ Aft base P A w w' m (callsS P S c x).2

set_option maxRecDepth 100000 in
set_option maxHeartbeats 2000000 in
theorem calls_23 (h : ML base P A w m S L) {b : Nat} {bs : List Nat} {c : Cl} {cs : List Cl} (hb : L.bl = b :: bs) (hs : S.stack = c :: cs) (hn : S.stack.length ≤ 1000000000) (hP : PrOk P) {ia : Nat} (hia : ia < 16) (xb xc : Int) (l : List Int) (la : Option Addr) (lc : Nat) (hl0 : 0 < l.length) (hl : IntsAt base w la l) :
    CallsC base P A w m S b c ⟨23, ia, xb, xc, l⟩ la lc := by
  unfold CallsC
  obtain ⟨R, hR⟩ : ∃ R, R = callsS P S c ⟨23, ia, xb, xc, l⟩ := ⟨_, rfl⟩
  rw [← hR]
  unfold callsS at hR
  simp only at hR
  have hm := h.mlt
  obtain ⟨io, ic, hrow, hins, hreg⟩ := h.cls 0 b c (by rw [hb]; rfl) (by rw [hs]; rfl)
  have hbw := hrow.lt
  have hbl : b ∈ L.bl := by rw [hb]; exact List.mem_cons_self
  have y1 := hrow.cell (o := 1) rfl
  have hyz := hrow.frozen
  have hbb := h.high _ (h.ob _ hbl)
  obtain ⟨u0, u1, u2⟩ := Cl.get_reg hreg io ic hia
  have z0 := hrow.cell u0
  have z1 := hrow.cell u1
  have z2 := hrow.cell u2
  have hr0 : (0 : Int) ≤ (ia : Int) := by omega
  have hr1 : (ia : Int) < 16 := by omega
  generalize c.reg (ia : Int) = rb at *
  obtain ⟨rp, ra, rn⟩ := rb
  simp only at z0 z1 z2 hR
  clear u0 u1 u2
  obtain ⟨lb, lo, e0, kl⟩ := hl 0 l[0] (List.getElem?_eq_getElem hl0)
  subst e0
  have kl0 := kl.2
  have hlw := World.block_lt_of_cell? w _ kl0
  have hlab : (⟨23, ia, xb, xc, l⟩ : In).lab 0 = l[0] := by unfold In.lab; rw [List.getD_eq_getElem?_getD]; simp [hl0]
  rw [hlab] at hR
  have hll : (0 : Int) < (l.length : Int) := by omega
  simp only [Nat.add_zero] at kl0
  clear kl hl hlab
  generalize l[0] = l0 at *
  have HR := Lib.hid hR
  have HH := Lib.hid (And.intro h (And.intro hb (And.intro hs (And.intro hn (And.intro hP (And.intro hrow (And.intro hins hreg)))))))
  clear h hb hs hn hP hrow hins hreg hbl hR
  go_enter Try.func76, Try.ntmps76
  go_wp2_with fail
  have hrx : Row (w.alloc (.cells #[.int .i64 23, .int .i64 ia, .int .i64 xb, .int .i64 xc, .slice (some ⟨lb, lo, none⟩) l.length lc] 112)) w.heap.size 112 [.int .i64 23, .int .i64 ia, .int .i64 xb, .int .i64 xc, .slice (some ⟨lb, lo, none⟩) l.length lc] := Row.new' rfl
  have hf0 : Fr Non w (w.alloc (.cells #[.int .i64 23, .int .i64 ia, .int .i64 xb, .int .i64 xc, .slice (some ⟨lb, lo, none⟩) l.length lc] 112)) := by exact (by repeat (first | exact Fr.refl _ _ | assumption | refine Fr.drewN ?_ _ | refine Fr.drew ?_ | refine Fr.drewl ?_ | refine Fr.drewNl ?_ _ | refine Fr.alloc ?_ _))
  have hs0 : (w.alloc (.cells #[.int .i64 23, .int .i64 ia, .int .i64 xb, .int .i64 xc, .slice (some ⟨lb, lo, none⟩) l.length lc] 112)).heap.size = w.heap.size + 1 := by simp
  generalize w.alloc (.cells #[.int .i64 23, .int .i64 ia, .int .i64 xb, .int .i64 xc, .slice (some ⟨lb, lo, none⟩) l.length lc] 112) = W at *
  obtain ⟨x0, x1, x2, x3, x4, xz⟩ := row5 hrx
  have zw0 := hf0.cell z0 id
  have zw1 := hf0.cell z1 id
  have zw2 := hf0.cell z2 id
  have kw0 := hf0.cell kl0 id
  have hlW : lb < W.heap.size := by omega
  have HW := Lib.hid (And.intro hf0 hrx)
  clear hrx hf0 z0 z1 z2 kl0
  have hxw : w.heap.size < W.heap.size := by omega
  have hbW : b < W.heap.size := by omega
  go_still_tail 13, (by kernel_rfl)
  change wpList _ _ _ _ _ W.drew
  have hfU : Fr Non W W.drew := (Fr.refl _ _).drew
  obtain ⟨x0', x1', x2', x3', x4', xz'⟩ := row5 (hfU.row HW.out.2 id)
  have zu0 := hfU.cell zw0 id
  have zu1 := hfU.cell zw1 id
  have zu2 := hfU.cell zw2 id
  have ku0 := hfU.cell kw0 id
  have HU := Lib.hid (HW.out.1.trans hfU)
  clear hfU x0 x1 x2 x3 x4 xz zw0 zw1 zw2 kw0
  generalize W.drew = U at *
  have hG := Lib.hid (goOn_m (HH.out.1.frN HU.out) HH.out.2.2.2.1 HH.out.2.2.2.2.1 rp ra rn (Cl.new Wd.zero 0 0 l0) rfl (by simp [Cl.new]) none 0 0)
  go_wp2_with fail
  have hG2 := hG.out
  rw [Cl.new_lit] at hG2
  refine hG2.mono ?_
  rintro e1 w1 ⟨v, rfl, hres, haft⟩
  have HE := Lib.hid (And.intro hres haft)
  clear hG2 hres haft
  go_wp2_with fail
  go_ret
  rw [HR.out, if_pos (by first | trivial | rfl | simp)]
  exact ⟨_, rfl, HE.out.1.lo HU.out.size, Aft.ahead HU.out HE.out.2⟩

set_option maxRecDepth 100000 in
set_option maxHeartbeats 2000000 in
theorem calls_24 (h : ML base P A w m S L) {b : Nat} {bs : List Nat} {c : Cl} {cs : List Cl} (hb : L.bl = b :: bs) (hs : S.stack = c :: cs) (hn : S.stack.length ≤ 1000000000) (hP : PrOk P) {ia ib : Nat} (hia : ia < 16) (hib : ib < 16) (xc : Int) (l : List Int) (la : Option Addr) (lc : Nat) (hl0 : 0 < l.length) (hl : IntsAt base w la l) :
    CallsC base P A w m S b c ⟨24, ia, ib, xc, l⟩ la lc := by
  unfold CallsC
  obtain ⟨R, hR⟩ : ∃ R, R = callsS P S c ⟨24, ia, ib, xc, l⟩ := ⟨_, rfl⟩
  rw [← hR]
  unfold callsS at hR
  simp only at hR
  have hm := h.mlt
  obtain ⟨io, ic, hrow, hins, hreg⟩ := h.cls 0 b c (by rw [hb]; rfl) (by rw [hs]; rfl)
  have hbw := hrow.lt
  have hbl : b ∈ L.bl := by rw [hb]; exact List.mem_cons_self
  have y1 := hrow.cell (o := 1) rfl
  have hyz := hrow.frozen
  have hbb := h.high _ (h.ob _ hbl)
  obtain ⟨u0, u1, u2⟩ := Cl.get_reg hreg io ic hib
  have z0 := hrow.cell u0
  have z1 := hrow.cell u1
  have z2 := hrow.cell u2
  have hr0 : (0 : Int) ≤ (ib : Int) := by omega
  have hr1 : (ib : Int) < 16 := by omega
  generalize c.reg (ib : Int) = rb at *
  obtain ⟨rp, ra, rn⟩ := rb
  simp only at z0 z1 z2 hR
  clear u0 u1 u2
  obtain ⟨lb, lo, e0, kl⟩ := hl 0 l[0] (List.getElem?_eq_getElem hl0)
  subst e0
  have kl0 := kl.2
  have hlw := World.block_lt_of_cell? w _ kl0
  have hlab : (⟨24, ia, ib, xc, l⟩ : In).lab 0 = l[0] := by unfold In.lab; rw [List.getD_eq_getElem?_getD]; simp [hl0]
  rw [hlab] at hR
  have hll : (0 : Int) < (l.length : Int) := by omega
  simp only [Nat.add_zero] at kl0
  clear kl hl hlab
  generalize l[0] = l0 at *
  have HR := Lib.hid hR
  have HH := Lib.hid (And.intro h (And.intro hb (And.intro hs (And.intro hn (And.intro hP (And.intro hrow (And.intro hins hreg)))))))
  clear h hb hs hn hP hrow hins hreg hbl hR
  go_enter Try.func76, Try.ntmps76
  go_wp2_with fail
  have hrx : Row (w.alloc (.cells #[.int .i64 24, .int .i64 ia, .int .i64 ib, .int .i64 xc, .slice (some ⟨lb, lo, none⟩) l.length lc] 112)) w.heap.size 112 [.int .i64 24, .int .i64 ia, .int .i64 ib, .int .i64 xc, .slice (some ⟨lb, lo, none⟩) l.length lc] := Row.new' rfl
  have hf0 : Fr Non w (w.alloc (.cells #[.int .i64 24, .int .i64 ia, .int .i64 ib, .int .i64 xc, .slice (some ⟨lb, lo, none⟩) l.length lc] 112)) := by exact (by repeat (first | exact Fr.refl _ _ | assumption | refine Fr.drewN ?_ _ | refine Fr.drew ?_ | refine Fr.drewl ?_ | refine Fr.drewNl ?_ _ | refine Fr.alloc ?_ _))
  have hs0 : (w.alloc (.cells #[.int .i64 24, .int .i64 ia, .int .i64 ib, .int .i64 xc, .slice (some ⟨lb, lo, none⟩) l.length lc] 112)).heap.size = w.heap.size + 1 := by simp
  generalize w.alloc (.cells #[.int .i64 24, .int .i64 ia, .int .i64 ib, .int .i64 xc, .slice (some ⟨lb, lo, none⟩) l.length lc] 112) = W at *
  obtain ⟨x0, x1, x2, x3, x4, xz⟩ := row5 hrx
  have zw0 := hf0.cell z0 id
  have zw1 := hf0.cell z1 id
  have zw2 := hf0.cell z2 id
  have kw0 := hf0.cell kl0 id
  have hlW : lb < W.heap.size := by omega
  have HW := Lib.hid (And.intro hf0 hrx)
  clear hrx hf0 z0 z1 z2 kl0
  have hxw : w.heap.size < W.heap.size := by omega
  have hbW : b < W.heap.size := by omega
  go_still_tail 15, (by kernel_rfl)
  change wpList _ _ _ _ _ W.drew
  have hfU : Fr Non W W.drew := (Fr.refl _ _).drew
  obtain ⟨x0', x1', x2', x3', x4', xz'⟩ := row5 (hfU.row HW.out.2 id)
  have zu0 := hfU.cell zw0 id
  have zu1 := hfU.cell zw1 id
  have zu2 := hfU.cell zw2 id
  have ku0 := hfU.cell kw0 id
  have HU := Lib.hid (HW.out.1.trans hfU)
  clear hfU x0 x1 x2 x3 x4 xz zw0 zw1 zw2 kw0
  generalize W.drew = U at *
  have hG := Lib.hid (goOn_m (HH.out.1.frN HU.out) HH.out.2.2.2.1 HH.out.2.2.2.2.1 rp ra rn (Cl.new Wd.zero 1 ia l0) rfl (by simp [Cl.new]; omega) none 0 0)
  go_wp2_with fail
  have hG2 := hG.out
  rw [Cl.new_lit] at hG2
  refine hG2.mono ?_
  rintro e1 w1 ⟨v, rfl, hres, haft⟩
  have HE := Lib.hid (And.intro hres haft)
  clear hG2 hres haft
  go_wp2_with fail
  go_ret
  rw [HR.out, if_neg (by simp), if_pos (by first | trivial | rfl | simp)]
  exact ⟨_, rfl, HE.out.1.lo HU.out.size, Aft.ahead HU.out HE.out.2⟩

set_option maxRecDepth 100000 in
set_option maxHeartbeats 2000000 in
theorem calls_25 (h : ML base P A w m S L) {b : Nat} {bs : List Nat} {c : Cl} {cs : List Cl} (hb : L.bl = b :: bs) (hs : S.stack = c :: cs) (hn : S.stack.length ≤ 1000000000) (hP : PrOk P) {ia : Nat} (hia : ia < 16) (xb xc : Int) (l : List Int) (la : Option Addr) (lc : Nat) :
    CallsC base P A w m S b c ⟨25, ia, xb, xc, l⟩ la lc := by
  unfold CallsC
  obtain ⟨R, hR⟩ : ∃ R, R = callsS P S c ⟨25, ia, xb, xc, l⟩ := ⟨_, rfl⟩
  rw [← hR]
  unfold callsS at hR
  simp only at hR
  have hm := h.mlt
  obtain ⟨io, ic, hrow, hins, hreg⟩ := h.cls 0 b c (by rw [hb]; rfl) (by rw [hs]; rfl)
  have hbw := hrow.lt
  have hbl : b ∈ L.bl := by rw [hb]; exact List.mem_cons_self
  have y1 := hrow.cell (o := 1) rfl
  have hyz := hrow.frozen
  have hbb := h.high _ (h.ob _ hbl)
  obtain ⟨u0, u1, u2⟩ := Cl.get_reg hreg io ic hia
  have z0 := hrow.cell u0
  have z1 := hrow.cell u1
  have z2 := hrow.cell u2
  have hr0 : (0 : Int) ≤ (ia : Int) := by omega
  have hr1 : (ia : Int) < 16 := by omega
  generalize c.reg (ia : Int) = rb at *
  obtain ⟨rp, ra, rn⟩ := rb
  simp only at z0 z1 z2 hR
  clear u0 u1 u2
  have HR := Lib.hid hR
  have HH := Lib.hid (And.intro h (And.intro hb (And.intro hs (And.intro hn (And.intro hP (And.intro hrow (And.intro hins hreg)))))))
  clear h hb hs hn hP hrow hins hreg hbl hR
  go_enter Try.func76, Try.ntmps76
  go_wp2_with fail
  have hrx : Row (w.alloc (.cells #[.int .i64 25, .int .i64 ia, .int .i64 xb, .int .i64 xc, .slice la l.length lc] 112)) w.heap.size 112 [.int .i64 25, .int .i64 ia, .int .i64 xb, .int .i64 xc, .slice la l.length lc] := Row.new' rfl
  have hf0 : Fr Non w (w.alloc (.cells #[.int .i64 25, .int .i64 ia, .int .i64 xb, .int .i64 xc, .slice la l.length lc] 112)) := by exact (by repeat (first | exact Fr.refl _ _ | assumption | refine Fr.drewN ?_ _ | refine Fr.drew ?_ | refine Fr.drewl ?_ | refine Fr.drewNl ?_ _ | refine Fr.alloc ?_ _))
  have hs0 : (w.alloc (.cells #[.int .i64 25, .int .i64 ia, .int .i64 xb, .int .i64 xc, .slice la l.length lc] 112)).heap.size = w.heap.size + 1 := by simp
  generalize w.alloc (.cells #[.int .i64 25, .int .i64 ia, .int .i64 xb, .int .i64 xc, .slice la l.length lc] 112) = W at *
  obtain ⟨x0, x1, x2, x3, x4, xz⟩ := row5 hrx
  have zw0 := hf0.cell z0 id
  have zw1 := hf0.cell z1 id
  have zw2 := hf0.cell z2 id
  have HW := Lib.hid (And.intro hf0 hrx)
  clear hrx hf0 z0 z1 z2
  have hxw : w.heap.size < W.heap.size := by omega
  have hbW : b < W.heap.size := by omega
  go_still_tail 8, (by kernel_rfl)
  change wpList _ _ _ _ _ W.drew
  have hfU : Fr Non W W.drew := (Fr.refl _ _).drew
  obtain ⟨x0', x1', x2', x3', x4', xz'⟩ := row5 (hfU.row HW.out.2 id)
  have zu0 := hfU.cell zw0 id
  have zu1 := hfU.cell zw1 id
  have zu2 := hfU.cell zw2 id
  have HU := Lib.hid (HW.out.1.trans hfU)
  clear hfU x0 x1 x2 x3 x4 xz zw0 zw1 zw2
  generalize W.drew = U at *
  have hG := Lib.hid (stop_m (HH.out.1.frN HU.out) HH.out.2.2.2.1 HH.out.2.2.2.2.1 rp ra rn)
  go_wp2_with fail
  refine hG.out.mono ?_
  rintro e1 w1 ⟨v, rfl, hres, haft⟩
  have HE := Lib.hid (And.intro hres haft)
  clear hres haft
  go_wp2_with fail
  go_ret
  rw [HR.out, if_neg (by simp), if_neg (by simp), if_pos (by first | trivial | rfl | simp)]
  exact ⟨_, rfl, HE.out.1.lo HU.out.size, Aft.ahead HU.out HE.out.2⟩

set_option maxRecDepth 100000 in
set_option maxHeartbeats 2000000 in
theorem calls_27 (h : ML base P A w m S L) {b : Nat} {bs : List Nat} {c : Cl} {cs : List Cl} (hb : L.bl = b :: bs) (hs : S.stack = c :: cs) (hn : S.stack.length ≤ 1000000000) (hP : PrOk P) (xa xb xc : Int) (l : List Int) (la : Option Addr) (lc : Nat) (hi : c.role = 1 → 0 ≤ c.into ∧ c.into < 16) :
    CallsC base P A w m S b c ⟨27, xa, xb, xc, l⟩ la lc := by
  unfold CallsC
  obtain ⟨R, hR⟩ : ∃ R, R = callsS P S c ⟨27, xa, xb, xc, l⟩ := ⟨_, rfl⟩
  rw [← hR]
  unfold callsS at hR
  simp only at hR
  have hm := h.mlt
  obtain ⟨io, ic, hrow, hins, hreg⟩ := h.cls 0 b c (by rw [hb]; rfl) (by rw [hs]; rfl)
  have hbw := hrow.lt
  have hbl : b ∈ L.bl := by rw [hb]; exact List.mem_cons_self
  have y1 := hrow.cell (o := 1) rfl
  have hyz := hrow.frozen
  have hbb := h.high _ (h.ob _ hbl)
  have HR := Lib.hid hR
  have HH := Lib.hid (And.intro h (And.intro hb (And.intro hs (And.intro hn (And.intro hP (And.intro hrow (And.intro hins hreg)))))))
  clear h hb hs hn hP hrow hins hreg hbl hR
  have hfV : Fr Non w (w.alloc (.cells #[.int .i64 27, .int .i64 xa, .int .i64 xb, .int .i64 xc, .slice la l.length lc] 112)) := by exact (by repeat (first | exact Fr.refl _ _ | assumption | refine Fr.drewN ?_ _ | refine Fr.drew ?_ | refine Fr.drewl ?_ | refine Fr.drewNl ?_ _ | refine Fr.alloc ?_ _))
  have hG := Lib.hid (ends_m (HH.out.1.frN hfV) HH.out.2.2.2.1 HH.out.2.2.1 hi ⟨27, xa, xb, xc, l⟩ la lc)
  have HU := Lib.hid hfV
  clear hfV hi y1 hyz
  go_enter Try.func76, Try.ntmps76
  go_wp2_with fail
  refine hG.out.mono ?_
  rintro e1 w1 ⟨v, rfl, hres, haft⟩
  have HE := Lib.hid (And.intro hres haft)
  clear hres haft
  go_wp2_with fail
  go_ret
  rw [HR.out, if_neg (by simp), if_neg (by simp), if_neg (by simp), if_neg (by simp), if_pos (by simp)]
  exact ⟨_, rfl, HE.out.1.lo HU.out.size, Aft.ahead HU.out HE.out.2⟩

set_option maxRecDepth 100000 in
set_option maxHeartbeats 2000000 in
theorem calls_28 (h : ML base P A w m S L) {b : Nat} {bs : List Nat} {c : Cl} {cs : List Cl} (hb : L.bl = b :: bs) (hs : S.stack = c :: cs) (hn : S.stack.length ≤ 1000000000) (hP : PrOk P) (xa xb xc : Int) (l : List Int) (la : Option Addr) (lc : Nat) (hi : c.role = 1 → 0 ≤ c.into ∧ c.into < 16) :
    CallsC base P A w m S b c ⟨28, xa, xb, xc, l⟩ la lc := by
  unfold CallsC
  obtain ⟨R, hR⟩ : ∃ R, R = callsS P S c ⟨28, xa, xb, xc, l⟩ := ⟨_, rfl⟩
  rw [← hR]
  unfold callsS at hR
  simp only at hR
  have hm := h.mlt
  obtain ⟨io, ic, hrow, hins, hreg⟩ := h.cls 0 b c (by rw [hb]; rfl) (by rw [hs]; rfl)
  have hbw := hrow.lt
  have hbl : b ∈ L.bl := by rw [hb]; exact List.mem_cons_self
  have y1 := hrow.cell (o := 1) rfl
  have hyz := hrow.frozen
  have hbb := h.high _ (h.ob _ hbl)
  have HR := Lib.hid hR
  have HH := Lib.hid (And.intro h (And.intro hb (And.intro hs (And.intro hn (And.intro hP (And.intro hrow (And.intro hins hreg)))))))
  clear h hb hs hn hP hrow hins hreg hbl hR
  have hfV : Fr Non w (w.alloc (.cells #[.int .i64 28, .int .i64 xa, .int .i64 xb, .int .i64 xc, .slice la l.length lc] 112)) := by exact (by repeat (first | exact Fr.refl _ _ | assumption | refine Fr.drewN ?_ _ | refine Fr.drew ?_ | refine Fr.drewl ?_ | refine Fr.drewNl ?_ _ | refine Fr.alloc ?_ _))
  have hG := Lib.hid (ends_m (HH.out.1.frN hfV) HH.out.2.2.2.1 HH.out.2.2.1 hi ⟨28, xa, xb, xc, l⟩ la lc)
  have HU := Lib.hid hfV
  clear hfV hi y1 hyz
  go_enter Try.func76, Try.ntmps76
  go_wp2_with fail
  refine hG.out.mono ?_
  rintro e1 w1 ⟨v, rfl, hres, haft⟩
  have HE := Lib.hid (And.intro hres haft)
  clear hres haft
  go_wp2_with fail
  go_ret
  rw [HR.out, if_neg (by simp), if_neg (by simp), if_neg (by simp), if_neg (by simp), if_pos (by simp)]
  exact ⟨_, rfl, HE.out.1.lo HU.out.size, Aft.ahead HU.out HE.out.2⟩

set_option maxRecDepth 100000 in
set_option maxHeartbeats 2000000 in
theorem calls_29 (h : ML base P A w m S L) {b : Nat} {bs : List Nat} {c : Cl} {cs : List Cl} (hb : L.bl = b :: bs) (hs : S.stack = c :: cs) (hn : S.stack.length ≤ 1000000000) (hP : PrOk P) (xa xb xc : Int) (l : List Int) (la : Option Addr) (lc : Nat) :
    CallsC base P A w m S b c ⟨29, xa, xb, xc, l⟩ la lc := by
  unfold CallsC
  obtain ⟨R, hR⟩ : ∃ R, R = callsS P S c ⟨29, xa, xb, xc, l⟩ := ⟨_, rfl⟩
  rw [← hR]
  unfold callsS at hR
  simp only at hR
  have hm := h.mlt
  obtain ⟨io, ic, hrow, hins, hreg⟩ := h.cls 0 b c (by rw [hb]; rfl) (by rw [hs]; rfl)
  have hbw := hrow.lt
  have hbl : b ∈ L.bl := by rw [hb]; exact List.mem_cons_self
  have y1 := hrow.cell (o := 1) rfl
  have hyz := hrow.frozen
  have hbb := h.high _ (h.ob _ hbl)
  have HR := Lib.hid hR
  have HH := Lib.hid (And.intro h (And.intro hb (And.intro hs (And.intro hn (And.intro hP (And.intro hrow (And.intro hins hreg)))))))
  clear h hb hs hn hP hrow hins hreg hbl hR
  have hfV : Fr Non w (w.alloc (.cells #[.int .i64 29, .int .i64 xa, .int .i64 xb, .int .i64 xc, .slice la l.length lc] 112)) := by exact (by repeat (first | exact Fr.refl _ _ | assumption | refine Fr.drewN ?_ _ | refine Fr.drew ?_ | refine Fr.drewl ?_ | refine Fr.drewNl ?_ _ | refine Fr.alloc ?_ _))
  have hlen : L.bl.length ≤ 1000000000 := by rw [HH.out.1.len]; exact HH.out.2.2.2.1
  have hG := Lib.hid (pop_m (HH.out.1.frN hfV) HH.out.2.1 hlen)
  have hbm : b ≠ m := HH.out.1.bl_m (by rw [HH.out.2.1]; exact List.mem_cons_self)
  have HU := Lib.hid hfV
  clear hfV y1 hyz hlen
  go_enter Try.func76, Try.ntmps76
  go_wp2_with fail
  refine hG.out.mono ?_
  rintro e1 w1 ⟨rfl, ⟨sv', hM1⟩, hf1⟩
  have hrow1 := hf1.row (HU.out.row HH.out.2.2.2.2.2.1 id) hbm
  have y53 := hrow1.cell (Cl.get_tail HH.out.2.2.2.2.2.2.2 io ic).1
  obtain ⟨g50, g51, g52⟩ := Cl.get_frame HH.out.2.2.2.2.2.2.2 io ic
  have y50 := hrow1.cell g50
  have y51 := hrow1.cell g51
  have y52 := hrow1.cell g52
  have hbl := hrow1.lt
  have hs1 := hf1.size
  have H1 := Lib.hid (And.intro hM1 hf1)
  clear hM1 hf1 hrow1 g50 g51 g52
  by_cases hr : c.role = 2
  · rw [hr] at y53
    generalize hfr : c.frame = fr at *
    obtain ⟨fp, fa, fn⟩ := fr
    simp only at y50 y51 y52
    have hF := Lib.hid (freed_m H1.out.1 fp fa fn)
    go_wp2_with fail
    refine hF.out.mono ?_
    rintro e2 w2 ⟨v, rfl, hres, haft⟩
    have HE := Lib.hid (And.intro hres haft)
    clear hres haft
    go_wp2_with fail
    go_ret
    rw [HR.out, if_neg (by simp), if_neg (by simp), if_neg (by simp), if_neg (by simp), if_neg (by simp), if_pos (by first | trivial | exact hr | simp [hr])]
    exact ⟨_, rfl, HE.out.1.lo (Nat.le_trans HU.out.size hs1), Aft.ahead HU.out (Aft.step (A1 := A) (fun x hx => Or.inl hx) (H1.out.2.mono fun x _ hx => hx ▸ HH.out.1.om) HE.out.2)⟩
  · have hr' : (c.role == 2) = false := beq_false_of_ne hr
    go_wp2_with fail
    go_ret
    rw [HR.out, if_neg (by simp), if_neg (by simp), if_neg (by simp), if_neg (by simp), if_neg (by simp), if_neg hr]
    exact ⟨_, rfl, Or.inl ⟨rfl, rfl⟩, Aft.ahead HU.out ⟨A, ⟨_, H1.out.1⟩, fun x hx => Or.inl hx, H1.out.2.mono fun x _ hx => hx ▸ HH.out.1.om⟩⟩

set_option maxRecDepth 100000 in
set_option maxHeartbeats 2000000 in
theorem calls_26 (h : ML base P A w m S L) {b : Nat} {bs : List Nat} {c : Cl} {cs : List Cl} (hb : L.bl = b :: bs) (hs : S.stack = c :: cs) (hn : S.stack.length ≤ 1000000000) (hP : PrOk P) {ia : Nat} (hia : ia < 16) {xb : Int} (hb0 : 0 ≤ xb) (hb1 : xb < P.funs.length) (xc : Int) (l : List Int) (la : Option Addr) (lc : Nat) :
    CallsC base P A w m S b c ⟨26, ia, xb, xc, l⟩ la lc := by
  unfold CallsC
  obtain ⟨R, hR⟩ : ∃ R, R = callsS P S c ⟨26, ia, xb, xc, l⟩ := ⟨_, rfl⟩
  rw [← hR]
  unfold callsS at hR
  simp only at hR
  have hm := h.mlt
  obtain ⟨io, ic, hrow, hins, hreg⟩ := h.cls 0 b c (by rw [hb]; rfl) (by rw [hs]; rfl)
  have hbw := hrow.lt
  have hbl : b ∈ L.bl := by rw [hb]; exact List.mem_cons_self
  have y1 := hrow.cell (o := 1) rfl
  have hyz := hrow.frozen
  have hbb := h.high _ (h.ob _ hbl)
  obtain ⟨u0, u1, u2⟩ := Cl.get_reg hreg io ic hia
  have z0 := hrow.cell u0
  have z1 := hrow.cell u1
  have z2 := hrow.cell u2
  have hr0 : (0 : Int) ≤ (ia : Int) := by omega
  have hr1 : (ia : Int) < 16 := by omega
  generalize c.reg (ia : Int) = rb at *
  obtain ⟨rp, ra, rn⟩ := rb
  simp only at z0 z1 z2 hR
  clear u0 u1 u2
  have HR := Lib.hid hR
  have HH := Lib.hid (And.intro h (And.intro hb (And.intro hs (And.intro hn (And.intro hP (And.intro hrow (And.intro hins hreg)))))))
  clear h hb hs hn hP hrow hins hreg hbl hR
  have hf0 : Fr Non w (w.alloc (.cells #[.int .i64 26, .int .i64 ia, .int .i64 xb, .int .i64 xc, .slice la l.length lc] 112)) := by exact (by repeat (first | exact Fr.refl _ _ | assumption | refine Fr.drewN ?_ _ | refine Fr.drew ?_ | refine Fr.drewl ?_ | refine Fr.drewNl ?_ _ | refine Fr.alloc ?_ _))
  have hs0 : (w.alloc (.cells #[.int .i64 26, .int .i64 ia, .int .i64 xb, .int .i64 xc, .slice la l.length lc] 112)).heap.size = w.heap.size + 1 := by simp
  have hrx : Row (w.alloc (.cells #[.int .i64 26, .int .i64 ia, .int .i64 xb, .int .i64 xc, .slice la l.length lc] 112)) w.heap.size 112 [.int .i64 26, .int .i64 ia, .int .i64 xb, .int .i64 xc, .slice la l.length lc] := Row.new' rfl
  go_enter Try.func76, Try.ntmps76
  go_wp2_with (refine wpList_storecall 7 57 (w.heap.size + 1) [.slice none 0 0, .int .i64 0, .bool false, .int .i64 0, .int .i64 0, .bool false, .int .i64 0, .int .i64 0, .bool false, .int .i64 0, .int .i64 0, .bool false, .int .i64 0, .int .i64 0, .bool false, .int .i64 0, .int .i64 0, .bool false, .int .i64 0, .int .i64 0, .bool false, .int .i64 0, .int .i64 0, .bool false, .int .i64 0, .int .i64 0, .bool false, .int .i64 0, .int .i64 0, .bool false, .int .i64 0, .int .i64 0, .bool false, .int .i64 0, .int .i64 0, .bool false, .int .i64 0, .int .i64 0, .bool false, .int .i64 0, .int .i64 0, .bool false, .int .i64 0, .int .i64 0, .bool false, .int .i64 0, .int .i64 0, .bool false, .int .i64 0, .int .i64 0, .bool false, .int .i64 0, .int .i64 0, .int .i64 3, .int .i64 0, .int .i64 0] rfl rfl rfl litOne ?_)
  refine ⟨_, (Row.new' (by simp)), rfl, ?_⟩
  intro W hrg hfg
  have hrx' : Row W w.heap.size 112 [.int .i64 26, .int .i64 ia, .int .i64 xb, .int .i64 xc, .slice la l.length lc] := hfg.row (hrx.alloc _) (by simp)
  have hfW : Fr Non w W := (hf0.alloc _).then hfg (fun x hx e => by subst e; omega)
  have hsW : w.heap.size + 1 < W.heap.size := hrg.lt
  have zw0 := hfW.cell z0 id
  have zw1 := hfW.cell z1 id
  have zw2 := hfW.cell z2 id
  obtain ⟨x0, x1, x2, x3, x4, xz⟩ := row5 hrx'
  have g2 := hrg.cell (o := 2) rfl
  have g3 := hrg.cell (o := 3) rfl
  have g4 := hrg.cell (o := 4) rfl
  have gz := hrg.frozen
  have hbW : b < W.heap.size := by omega
  have hxW : w.heap.size < W.heap.size := by omega
  have HW := Lib.hid (And.intro hfW (And.intro hrx' hrg))
  clear hfW hrx' hrg hfg hf0 hs0 hrx z0 z1 z2 y1 hyz
  go_wp2_with fail
  have cW := @Mix.cls_drew W [b, w.heap.size]
  refine Mix.wp_region_mix [2, 6] [(0, 0), (0, 1), (1, 2), (0, 3), (0, 4), (0, 5), (1, 6), (0, 7), (0, 8), (2, 9)] (fun V => ∃ g, V = Mix.upon W [b, w.heap.size] g) (by kernel_rfl) (by kernel_rfl) cW ?_
  clear cW
  repeat (first | (refine Mix.S_pure (o := _) rfl rfl ?_; intro K hK; simp only [List.getElem_toArray, List.getElem_cons_zero, List.getElem_cons_succ]; go_big_quiet_op; go_big_quiet_on) | (refine Mix.S_load (o := _) rfl rfl ?_; intro K hK; simp only [List.getElem_toArray, List.getElem_cons_zero, List.getElem_cons_succ]; go_big_quiet_op; go_big_quiet_on) | refine Mix.S_skip0 (o := _) rfl rfl ?_ | refine Mix.S_skip1 (o := _) rfl rfl ?_)
  refine Mix.S_eff (o := _) rfl rfl ?_
  intro K hK
  simp only [List.getElem_toArray, List.getElem_cons_zero, List.getElem_cons_succ]
  go_simp
  refine hK _ _ ⟨Mix.cls_fr (D := fun x => x = w.heap.size + 1) (by exact ((Fr.set3 _ _ _ _ _ _ _ _).drew).drewl) (by simp; omega), ?_⟩
  clear hK K
  repeat (first | (refine Mix.S_pure (o := _) rfl rfl ?_; intro K hK; simp only [List.getElem_toArray, List.getElem_cons_zero, List.getElem_cons_succ]; go_big_quiet_op; go_big_quiet_on) | (refine Mix.S_load (o := _) rfl rfl ?_; intro K hK; simp only [List.getElem_toArray, List.getElem_cons_zero, List.getElem_cons_succ]; go_big_quiet_op; go_big_quiet_on) | refine Mix.S_skip0 (o := _) rfl rfl ?_ | refine Mix.S_skip1 (o := _) rfl rfl ?_)
  refine Mix.S_done ?_
  have hrg4 : Row ((((W.setCell ⟨w.heap.size + 1, 2, none⟩ (.bool rp)).setCell ⟨w.heap.size + 1, 3, none⟩ (.int .i64 ra)).setCell ⟨w.heap.size + 1, 4, none⟩ (.int .i64 rn)).drew) (w.heap.size + 1) 97 (((Cl.new Wd.zero 3 0 0).put ((0 : Nat) : Int) ⟨rp, ra, rn⟩).cs none 0) := by
    rw [← Cl.set_reg (c := Cl.new Wd.zero 3 0 0) rfl none 0 (i := 0) (by omega) ⟨rp, ra, rn⟩]
    exact ((HW.out.2.2.set_same 2 _).set_same 3 _).set_same 4 _
  have hf3 : Fr (fun x => x = w.heap.size + 1) W ((((W.setCell ⟨w.heap.size + 1, 2, none⟩ (.bool rp)).setCell ⟨w.heap.size + 1, 3, none⟩ (.int .i64 ra)).setCell ⟨w.heap.size + 1, 4, none⟩ (.int .i64 rn)).drew) := (Fr.set3 _ _ _ _ _ _ _ _).drew
  have hrx3 := hf3.row HW.out.2.1 (by simp)
  have hfV : Fr Non w ((((W.setCell ⟨w.heap.size + 1, 2, none⟩ (.bool rp)).setCell ⟨w.heap.size + 1, 3, none⟩ (.int .i64 ra)).setCell ⟨w.heap.size + 1, 4, none⟩ (.int .i64 rn)).drew) := HW.out.1.then hf3 (fun x hx e => by subst e; omega)
  generalize (((W.setCell ⟨w.heap.size + 1, 2, none⟩ (.bool rp)).setCell ⟨w.heap.size + 1, 3, none⟩ (.int .i64 ra)).setCell ⟨w.heap.size + 1, 4, none⟩ (.int .i64 rn)).drew = V at *
  obtain ⟨j0, j1, j2, j3, j4, jz⟩ := row5 hrx3
  have hG := Lib.hid (push_m (HH.out.1.frN hfV) HH.out.2.2.2.1 hb0 hb1 ((Cl.new Wd.zero 3 0 0).put ((0 : Nat) : Int) ⟨rp, ra, rn⟩) rfl none 0 0)
  have HV := Lib.hid (And.intro hfV hrg4)
  clear hfV hrg4 hf3 hrx3 x0 x1 x2 x3 x4 xz g2 g3 g4 gz zw0 zw1 zw2 HW
  go_wp2_with (refine wpList_loadcall 7 (w.heap.size + 1) rfl ?_)
  refine ⟨_, HV.out.2, Cl.cs_len rfl none 0, ?_⟩
  go_wp2_with fail
  refine hG.out.mono ?_
  rintro e1 w1 ⟨rfl, haft⟩
  have HE := Lib.hid haft
  clear haft
  go_wp2_with fail
  go_ret
  rw [HR.out, if_neg (by simp), if_neg (by simp), if_neg (by simp), if_pos (by first | trivial | rfl | simp)]
  exact ⟨_, rfl, Or.inl ⟨rfl, rfl⟩, Aft.ahead HV.out.1 HE.out⟩

end

end Go.Proofs.Ytlbomnbpahmphaa

/- Walks: 'words', 'reckons', 'outside', 'calls' at whatever instruction may stand there. Conditions: what a checked program's instruction is. -/
namespace Go.Proofs.Ytlbomnbpahmphaa
open Go.RowKit

def Reg (i : Int) : Prop := 0 ≤ i ∧ i < 16
/-- What is known of an instruction of a program that may be run; 'n' is its function's length. -/
structure InOk (P : Pr) (n : Nat) (x : In) : Prop where
  op0 : 0 ≤ x.op
  op1 : x.op ≤ 29
  ra : x.op ∈ [0, 1, 2, 3, 4, 5, 6, 7, 8, 9, 10, 11, 12, 14, 15, 16, 17, 18, 19, 20, 21, 22, 23, 24, 25, (26 : Int)] → Reg x.a
  rb : x.op ∈ [2, 3, 4, 5, 6, 8, 9, 10, 11, 12, 21, (24 : Int)] → Reg x.b
  rc : x.op ∈ [8, 9, 10, 11, (12 : Int)] → Reg x.c
  lab : x.op ∈ [8, 9, 10, 13, 14, 15, 23, (24 : Int)] → 0 < x.l.length
  to : ∀ j ∈ x.l, 0 ≤ j ∧ j < (n : Int)
  co : x.op = 22 → 0 ≤ x.b ∧ x.b < P.cos.length
  fn : x.op = 26 → 0 ≤ x.b ∧ x.b < P.funs.length

section
variable {base : Nat} {P : Pr} {A : Nat → Prop} {w : World} {m : Nat} {S : St} {L : Lay} {b : Nat} {bs : List Nat} {c : Cl} {cs : List Cl}

theorem Reg.nat {i : Int} (h : Reg i) : ∃ k : Nat, i = k ∧ k < 16 := by
  obtain ⟨k, rfl⟩ := Int.eq_ofNat_of_zero_le h.1
  have := h.2
  exact ⟨k, rfl, by omega⟩

theorem words_m (h : ML base P A w m S L) (hb : L.bl = b :: bs) (hs : S.stack = c :: cs) {n : Nat} {x : In} (hx : InOk P n x) (hop : x.op ≤ 7 ∨ x.op = 16 ∨ x.op = 17 ∨ x.op = 22) (hB : S.mem.blocks.length < 1000000000000) (la : Option Addr) (lc : Nat) :
    WordsC base P A w m S b c x la lc := by
  obtain ⟨op, a, xb, xc, l⟩ := x
  obtain ⟨h0, h1, ra, rb, rc, lab, to, co, fn⟩ := hx
  simp only at *
  have hc : op = 0 ∨ op = 1 ∨ op = 2 ∨ op = 3 ∨ op = 4 ∨ op = 5 ∨ op = 6 ∨ op = 7 ∨ op = 16 ∨ op = 17 ∨ op = 22 := by omega
  obtain ⟨ia, rfl, hia⟩ := (ra (by rcases hc with rfl | rfl | rfl | rfl | rfl | rfl | rfl | rfl | rfl | rfl | rfl <;> simp)).nat
  rcases hc with rfl | rfl | rfl | rfl | rfl | rfl | rfl | rfl | rfl | rfl | rfl
  · exact words_0 h hb hs hia xb xc l la lc
  · exact words_1 h hb hs hia xb xc l la lc
  · obtain ⟨ib, rfl, hib⟩ := (rb (by simp)).nat
    exact words_2 h hb hs hia hib xc l la lc
  · obtain ⟨ib, rfl, hib⟩ := (rb (by simp)).nat
    exact words_3 h hb hs hia hib xc l la lc
  · obtain ⟨ib, rfl, hib⟩ := (rb (by simp)).nat
    exact words_4 h hb hs hia hib xc l la lc
  · obtain ⟨ib, rfl, hib⟩ := (rb (by simp)).nat
    exact words_5 h hb hs hia hib xc l la lc
  · obtain ⟨ib, rfl, hib⟩ := (rb (by simp)).nat
    exact words_6 h hb hs hia hib xc l la lc
  · exact words_7 h hb hs hia xb xc l la lc
  · exact words_16 h hb hs hia hB xb xc l la lc
  · exact words_17 h hb hs hia xb xc l la lc
  · exact words_22 h hb hs hia hB (co rfl).1 (co rfl).2 xc l la lc

theorem reckons_m (h : ML base P A w m S L) (hb : L.bl = b :: bs) (hs : S.stack = c :: cs) {n : Nat} {x : In} (hx : InOk P n x) (hop : 8 ≤ x.op ∧ x.op ≤ 15) (la : Option Addr) (lc : Nat) (hl : IntsAt base w la x.l) :
    ReckC base P A w m S b c x la lc := by
  obtain ⟨op, a, xb, xc, l⟩ := x
  obtain ⟨h0, h1, ra, rb, rc, lab, to, co, fn⟩ := hx
  simp only at *
  have hc : op = 8 ∨ op = 9 ∨ op = 10 ∨ op = 11 ∨ op = 12 ∨ op = 13 ∨ op = 14 ∨ op = 15 := by omega
  rcases hc with rfl | rfl | rfl | rfl | rfl | rfl | rfl | rfl
  · obtain ⟨ia, rfl, hia⟩ := (ra (by simp)).nat
    obtain ⟨ib, rfl, hib⟩ := (rb (by simp)).nat
    obtain ⟨ic, rfl, hic⟩ := (rc (by simp)).nat
    exact reckons_ar h hb hs hia hib hic (by simp) (by simp) (by simp) (by simp) (by simp) l la lc (lab (by simp)) hl
  · obtain ⟨ia, rfl, hia⟩ := (ra (by simp)).nat
    obtain ⟨ib, rfl, hib⟩ := (rb (by simp)).nat
    obtain ⟨ic, rfl, hic⟩ := (rc (by simp)).nat
    exact reckons_ar h hb hs hia hib hic (by simp) (by simp) (by simp) (by simp) (by simp) l la lc (lab (by simp)) hl
  · obtain ⟨ia, rfl, hia⟩ := (ra (by simp)).nat
    obtain ⟨ib, rfl, hib⟩ := (rb (by simp)).nat
    obtain ⟨ic, rfl, hic⟩ := (rc (by simp)).nat
    exact reckons_ar h hb hs hia hib hic (by simp) (by simp) (by simp) (by simp) (by simp) l la lc (lab (by simp)) hl
  · obtain ⟨ia, rfl, hia⟩ := (ra (by simp)).nat
    obtain ⟨ib, rfl, hib⟩ := (rb (by simp)).nat
    obtain ⟨ic, rfl, hic⟩ := (rc (by simp)).nat
    exact reckons_11 h hb hs hia hib hic l la lc
  · obtain ⟨ia, rfl, hia⟩ := (ra (by simp)).nat
    obtain ⟨ib, rfl, hib⟩ := (rb (by simp)).nat
    obtain ⟨ic, rfl, hic⟩ := (rc (by simp)).nat
    exact reckons_12 h hb hs hia hib hic l la lc
  · exact reckons_13 h hb hs a xb xc l la lc (lab (by simp)) hl
  · obtain ⟨ia, rfl, hia⟩ := (ra (by simp)).nat
    exact reckons_14 h hb hs hia xb xc l la lc (lab (by simp)) hl
  · obtain ⟨ia, rfl, hia⟩ := (ra (by simp)).nat
    exact reckons_15 h hb hs hia xb xc l la lc (lab (by simp)) hl

theorem outside_m (h : ML base P A w m S L) (hb : L.bl = b :: bs) (hs : S.stack = c :: cs) (hn : S.stack.length ≤ 1000000000) (ht : S.told.length ≤ 1000000000) (hi : ∀ c ∈ S.stack, c.role = 1 → 0 ≤ c.into ∧ c.into < 16) {n : Nat} {x : In} (hx : InOk P n x) (hop : 18 ≤ x.op ∧ x.op ≤ 21) (la : Option Addr) (lc : Nat) :
    OutsC base P A w m S b c x la lc := by
  obtain ⟨op, a, xb, xc, l⟩ := x
  obtain ⟨h0, h1, ra, rb, rc, lab, to, co, fn⟩ := hx
  simp only at *
  have hc : op = 18 ∨ op = 19 ∨ op = 20 ∨ op = 21 := by omega
  obtain ⟨ia, rfl, hia⟩ := (ra (by rcases hc with rfl | rfl | rfl | rfl <;> simp)).nat
  rcases hc with rfl | rfl | rfl | rfl
  · exact outside_18 h hb hs hn ht hi hia xb xc l la lc
  · exact outside_19 h hb hs hn ht hi hia xb xc l la lc
  · exact outside_20 h hb hs hn ht hi hia xb xc l la lc
  · obtain ⟨ib, rfl, hib⟩ := (rb (by simp)).nat
    exact outside_21 h hb hs hn ht hi hia hib xc l la lc

theorem calls_m (h : ML base P A w m S L) (hb : L.bl = b :: bs) (hs : S.stack = c :: cs) (hn : S.stack.length ≤ 1000000000) (hP : PrOk P) (hi : ∀ c ∈ S.stack, c.role = 1 → 0 ≤ c.into ∧ c.into < 16) {n : Nat} {x : In} (hx : InOk P n x) (hop : 23 ≤ x.op) (la : Option Addr) (lc : Nat) (hl : IntsAt base w la x.l) :
    CallsC base P A w m S b c x la lc := by
  obtain ⟨op, a, xb, xc, l⟩ := x
  obtain ⟨h0, h1, ra, rb, rc, lab, to, co, fn⟩ := hx
  simp only at *
  have hc : op = 23 ∨ op = 24 ∨ op = 25 ∨ op = 26 ∨ op = 27 ∨ op = 28 ∨ op = 29 := by omega
  have hic := hi c (by rw [hs]; exact List.mem_cons_self)
  rcases hc with rfl | rfl | rfl | rfl | rfl | rfl | rfl
  · obtain ⟨ia, rfl, hia⟩ := (ra (by simp)).nat
    exact calls_23 h hb hs hn hP hia xb xc l la lc (lab (by simp)) hl
  · obtain ⟨ia, rfl, hia⟩ := (ra (by simp)).nat
    obtain ⟨ib, rfl, hib⟩ := (rb (by simp)).nat
    exact calls_24 h hb hs hn hP hia hib xc l la lc (lab (by simp)) hl
  · obtain ⟨ia, rfl, hia⟩ := (ra (by simp)).nat
    exact calls_25 h hb hs hn hP hia xb xc l la lc
  · obtain ⟨ia, rfl, hia⟩ := (ra (by simp)).nat
    exact calls_26 h hb hs hn hP hia (fn rfl).1 (fn rfl).2 xc l la lc
  · exact calls_27 h hb hs hn hP a xb xc l la lc hic
  · exact calls_28 h hb hs hn hP a xb xc l la lc hic
  · exact calls_29 h hb hs hn hP a xb xc l la lc
end

end Go.Proofs.Ytlbomnbpahmphaa
