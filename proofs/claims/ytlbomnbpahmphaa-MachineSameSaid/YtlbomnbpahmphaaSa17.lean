/- Walks: the laws of layer 3: an act on a machine ('one'). Conditions: the program is checked; fuel, events and blocks are few; the act's arguments lie ahead of the machine. -/
import Derived.Test.YtlbomnbpahmphaaSa16
import Derived.Test.YtlbomnbpahmphaaSa06
namespace Go.Proofs.Ytlbomnbpahmphaa
open Go.RowKit

/-- An act: what comes out, and the machine behind it. -/
def actS (P : Pr) (S : St) (k a n : Int) (l : List Int) (fuel : Int) : (Int × Int) × St :=
  if k.tmod 4 = 0 then ((startS P S a l).2.2, (startS P S a l).1)
  else if k.tmod 4 = 1 then pollS P S ⟨true, wrap64 (a + 1), 0⟩ 1 fuel
  else if k.tmod 4 = 2 then cancelS P S ⟨true, wrap64 (a + 1), 0⟩ 1 fuel
  else if k.tmod 4 = 3 then ((0, 0), completeS S a n)
  else ((0, 0), S)

section
variable {base : Nat} {P : Pr} {kinds : List Int} {A : Nat → Prop} {w : World} {m : Nat} {S : St}

theorem start_i (h : MInv base P A w m S) (hB : S.mem.blocks.length < 1000000) (co : Int) (l : List Int) (hl : ∀ x ∈ P.cos, x.args ≤ 1000000000) (ao : Option Addr) (cap : Nat) (hc : IntsAt base w ao l) :
    Calls Try.prog 12 #[.pointer (some ⟨m, 0, none⟩), .int .i64 co, .slice ao l.length cap] w fun e w' =>
      e = .returned (.tuple #[.agg #[.bool (startS P S co l).2.1.p, .int .i64 (startS P S co l).2.1.a, .int .i64 (startS P S co l).2.1.n], .agg #[.int .i64 (startS P S co l).2.2.1, .int .i64 (startS P S co l).2.2.2]]) ∧ Aft base P A w w' m (startS P S co l).1 := by
  refine start_m h hB co l (Or.inr hl) ao cap (fun i n hn => ?_) (fun hl0 a ha => ?_)
  · obtain ⟨b, o, e, hcb⟩ := hc i n hn
    exact ⟨b, o, e, hcb.2⟩
  · obtain ⟨b, o, e, hcb⟩ := hc 0 _ (List.getElem?_eq_getElem hl0)
    rw [ha] at e
    cases e
    obtain ⟨L, hL⟩ := h
    refine ⟨fun e => ?_, ?_⟩
    · have h1 : base ≤ b := hL.high _ e
      have h2 := hcb.1
      omega
    · have h1 := hL.base_le
      have h2 := hcb.1
      show b < w.heap.size
      omega

set_option maxRecDepth 100000 in
set_option maxHeartbeats 1000000 in
theorem lone_m (h : MInv base P A w m S) (hP : PrGood P kinds) (hargs : ∀ x ∈ P.cos, x.args ≤ 1000000000) (k a n : Int) (la : Option Addr) (lc : Nat) (l : List Int) (hc : IntsAt base w la l) (fuel : Int) (hfew : FewB S fuel) :
    Calls Try.prog 20 #[.pointer (some ⟨m, 0, none⟩), .agg #[.int .i64 k, .int .i64 a, .int .i64 n, .slice la l.length lc], .int .i64 fuel] w fun e w' =>
      e = .returned (.agg #[.int .i64 (actS P S k a n l fuel).1.1, .int .i64 (actS P S k a n l fuel).1.2]) ∧ Aft base P A w w' m (actS P S k a n l fuel).2 := by
  obtain ⟨L, hL⟩ := h
  have hlt := hL.lt
  have hb := hL.base_le
  have hm := hL.mlt
  obtain ⟨R, hR⟩ : ∃ R, R = actS P S k a n l fuel := ⟨_, rfl⟩
  rw [← hR]
  unfold actS at hR
  have hB : S.mem.blocks.length < 1000000 := by have := hfew.2.1; omega
  have HH := Lib.hid (And.intro hL (And.intro hP (And.intro hargs (And.intro hc (And.intro hfew (And.intro hR (And.intro hlt hB)))))))
  clear hL hP hargs hc hfew hR hlt hB
  have hk : (k.tmod 4 = 0 ∧ (k.tmod 4 == 0) = true) ∨ (k.tmod 4 = 1 ∧ (k.tmod 4 == 0) = false ∧ (k.tmod 4 == 1) = true) ∨ (k.tmod 4 = 2 ∧ (k.tmod 4 == 0) = false ∧ (k.tmod 4 == 1) = false ∧ (k.tmod 4 == 2) = true) ∨
      (k.tmod 4 = 3 ∧ (k.tmod 4 == 0) = false ∧ (k.tmod 4 == 1) = false ∧ (k.tmod 4 == 2) = false ∧ (k.tmod 4 == 3) = true) ∨ (k.tmod 4 ≠ 0 ∧ k.tmod 4 ≠ 1 ∧ k.tmod 4 ≠ 2 ∧ k.tmod 4 ≠ 3 ∧ (k.tmod 4 == 0) = false ∧ (k.tmod 4 == 1) = false ∧ (k.tmod 4 == 2) = false ∧ (k.tmod 4 == 3) = false) := by
    by_cases e0 : k.tmod 4 = 0
    · simp [e0]
    by_cases e1 : k.tmod 4 = 1
    · simp [e1]
    by_cases e2 : k.tmod 4 = 2
    · simp [e2]
    by_cases e3 : k.tmod 4 = 3
    · simp [e3]
    simp [e0, e1, e2, e3]
  rcases hk with ⟨hk, d0⟩ | ⟨hk, d0, d1⟩ | ⟨hk, d0, d1, d2⟩ | ⟨hk, d0, d1, d2, d3⟩ | ⟨n0, n1, n2, n3, d0, d1, d2, d3⟩
  · have hR : R = ((startS P S a l).2.2, (startS P S a l).1) := by rw [HH.out.2.2.2.2.2.1, if_pos hk]
    have HR := Lib.hid hR
    clear hk hR
    go_enter Try.func20, Try.ntmps20
    go_wp2_with fail
    have hfW : Fr Non w ((((w.alloc (.cells #[.int .i64 k, .int .i64 a, .int .i64 n, .slice la l.length lc] 36)).alloc (.cells #[.int .i64 0, .int .i64 0] 41)).alloc (.cells #[.bool true, .int .i64 (wrap64 (a + 1)), .int .i64 0] 38)).alloc (.cells #[.int .i64 0, .int .i64 0] 41)) := by exact (by repeat (first | exact Fr.refl _ _ | assumption | refine Fr.drewN ?_ _ | refine Fr.drew ?_ | refine Fr.drewl ?_ | refine Fr.drewNl ?_ _ | refine Fr.alloc ?_ _))
    have r6 : Row ((((w.alloc (.cells #[.int .i64 k, .int .i64 a, .int .i64 n, .slice la l.length lc] 36)).alloc (.cells #[.int .i64 0, .int .i64 0] 41)).alloc (.cells #[.bool true, .int .i64 (wrap64 (a + 1)), .int .i64 0] 38)).alloc (.cells #[.int .i64 0, .int .i64 0] 41)) (w.heap.size + 1) 41 [.int .i64 0, .int .i64 0] := ((Row.new' (by simp)).alloc _).alloc _
    have r8 : Row ((((w.alloc (.cells #[.int .i64 k, .int .i64 a, .int .i64 n, .slice la l.length lc] 36)).alloc (.cells #[.int .i64 0, .int .i64 0] 41)).alloc (.cells #[.bool true, .int .i64 (wrap64 (a + 1)), .int .i64 0] 38)).alloc (.cells #[.int .i64 0, .int .i64 0] 41)) (w.heap.size + 1 + 1 + 1) 41 [.int .i64 0, .int .i64 0] := Row.new' (by simp)
    have hsW : ((((w.alloc (.cells #[.int .i64 k, .int .i64 a, .int .i64 n, .slice la l.length lc] 36)).alloc (.cells #[.int .i64 0, .int .i64 0] 41)).alloc (.cells #[.bool true, .int .i64 (wrap64 (a + 1)), .int .i64 0] 38)).alloc (.cells #[.int .i64 0, .int .i64 0] 41)).heap.size = w.heap.size + 1 + 1 + 1 + 1 := by simp
    generalize ((((w.alloc (.cells #[.int .i64 k, .int .i64 a, .int .i64 n, .slice la l.length lc] 36)).alloc (.cells #[.int .i64 0, .int .i64 0] 41)).alloc (.cells #[.bool true, .int .i64 (wrap64 (a + 1)), .int .i64 0] 38)).alloc (.cells #[.int .i64 0, .int .i64 0] 41)) = W at *
    have HW := Lib.hid (And.intro hfW (And.intro (HH.out.1.frN hfW) (HH.out.2.2.2.1.fr hfW (high_non _))))
    have nA1 : ¬ A (w.heap.size + 1) := fun e => by have := HH.out.2.2.2.2.2.2.1 _ e; omega
    have nA3 : ¬ A (w.heap.size + 1 + 1 + 1) := fun e => by have := HH.out.2.2.2.2.2.2.1 _ e; omega
    clear hfW
    refine (start_i ⟨L, HW.out.2.1⟩ HH.out.2.2.2.2.2.2.2 a l HH.out.2.2.1 la lc HW.out.2.2).mono ?_
    rintro e1 w1 ⟨rfl, hAf⟩
    obtain ⟨A', hI', hA', hF'⟩ := id hAf
    obtain ⟨q0, q1, qz⟩ := row2 (hF'.row r6 nA1)
    obtain ⟨p0, p1, pz⟩ := row2 (hF'.row r8 nA3)
    have hs1 := hF'.size
    clear hI' hA' hF' r6 r8 nA1 nA3
    have hAf := Lib.hid hAf
    go_wp2_with fail
    refine bodyPost_ret (v := .agg #[.int .i64 (((startS P S a l).2.2, (startS P S a l).1)).1.1, .int .i64 (((startS P S a l).2.2, (startS P S a l).1)).1.2]) (by simp [results, Try.results20, go_sem, q0, q1, qz, p0, p1, pz]) rfl ?_
    rw [HR.out]
    exact ⟨rfl, Aft.box HW.out.1 hAf.out ((by exact (((Fr.set1 _ _ _ _).trans (Fr.set1 _ _ _ _)).mono fun x _ h => Or.inl h).trans (((Fr.set1 _ _ _ _).trans (Fr.set1 _ _ _ _)).mono fun x _ h => Or.inr h) : Fr (fun x => x = w.heap.size + 1 + 1 + 1 ∨ x = w.heap.size + 1) w1 _)) (fun x hx => by rw [hsW]; omega) HH.out.2.2.2.2.2.2.1 hb⟩
  · have hR : R = pollS P S ⟨true, wrap64 (a + 1), 0⟩ 1 fuel := by rw [HH.out.2.2.2.2.2.1, if_neg (by omega), if_pos hk]
    have HR := Lib.hid hR
    clear hk hR
    go_enter Try.func20, Try.ntmps20
    go_wp2_with fail
    have hfW : Fr Non w ((((w.alloc (.cells #[.int .i64 k, .int .i64 a, .int .i64 n, .slice la l.length lc] 36)).alloc (.cells #[.int .i64 0, .int .i64 0] 41)).alloc (.cells #[.bool true, .int .i64 (wrap64 (a + 1)), .int .i64 0] 38)).alloc (.cells #[.int .i64 0, .int .i64 0] 41)) := by exact (by repeat (first | exact Fr.refl _ _ | assumption | refine Fr.drewN ?_ _ | refine Fr.drew ?_ | refine Fr.drewl ?_ | refine Fr.drewNl ?_ _ | refine Fr.alloc ?_ _))
    have r6 : Row ((((w.alloc (.cells #[.int .i64 k, .int .i64 a, .int .i64 n, .slice la l.length lc] 36)).alloc (.cells #[.int .i64 0, .int .i64 0] 41)).alloc (.cells #[.bool true, .int .i64 (wrap64 (a + 1)), .int .i64 0] 38)).alloc (.cells #[.int .i64 0, .int .i64 0] 41)) (w.heap.size + 1) 41 [.int .i64 0, .int .i64 0] := ((Row.new' (by simp)).alloc _).alloc _
    have r8 : Row ((((w.alloc (.cells #[.int .i64 k, .int .i64 a, .int .i64 n, .slice la l.length lc] 36)).alloc (.cells #[.int .i64 0, .int .i64 0] 41)).alloc (.cells #[.bool true, .int .i64 (wrap64 (a + 1)), .int .i64 0] 38)).alloc (.cells #[.int .i64 0, .int .i64 0] 41)) (w.heap.size + 1 + 1 + 1) 41 [.int .i64 0, .int .i64 0] := Row.new' (by simp)
    have hsW : ((((w.alloc (.cells #[.int .i64 k, .int .i64 a, .int .i64 n, .slice la l.length lc] 36)).alloc (.cells #[.int .i64 0, .int .i64 0] 41)).alloc (.cells #[.bool true, .int .i64 (wrap64 (a + 1)), .int .i64 0] 38)).alloc (.cells #[.int .i64 0, .int .i64 0] 41)).heap.size = w.heap.size + 1 + 1 + 1 + 1 := by simp
    generalize ((((w.alloc (.cells #[.int .i64 k, .int .i64 a, .int .i64 n, .slice la l.length lc] 36)).alloc (.cells #[.int .i64 0, .int .i64 0] 41)).alloc (.cells #[.bool true, .int .i64 (wrap64 (a + 1)), .int .i64 0] 38)).alloc (.cells #[.int .i64 0, .int .i64 0] 41)) = W at *
    have HW := Lib.hid (And.intro hfW (And.intro (HH.out.1.frN hfW) (HH.out.2.2.2.1.fr hfW (high_non _))))
    have nA1 : ¬ A (w.heap.size + 1) := fun e => by have := HH.out.2.2.2.2.2.2.1 _ e; omega
    have nA3 : ¬ A (w.heap.size + 1 + 1 + 1) := fun e => by have := HH.out.2.2.2.2.2.2.1 _ e; omega
    clear hfW
    refine (poll_m ⟨L, HW.out.2.1⟩ HH.out.2.1 true (wrap64 (a + 1)) 0 1 fuel HH.out.2.2.2.2.1).mono ?_
    rintro e1 w1 ⟨rfl, hAf⟩
    obtain ⟨A', hI', hA', hF'⟩ := id hAf
    obtain ⟨q0, q1, qz⟩ := row2 (hF'.row r6 nA1)
    obtain ⟨p0, p1, pz⟩ := row2 (hF'.row r8 nA3)
    have hs1 := hF'.size
    clear hI' hA' hF' r6 r8 nA1 nA3
    have hAf := Lib.hid hAf
    go_wp2_with fail
    refine bodyPost_ret (v := .agg #[.int .i64 (pollS P S ⟨true, wrap64 (a + 1), 0⟩ 1 fuel).1.1, .int .i64 (pollS P S ⟨true, wrap64 (a + 1), 0⟩ 1 fuel).1.2]) (by simp [results, Try.results20, go_sem, q0, q1, qz, p0, p1, pz]) rfl ?_
    rw [HR.out]
    exact ⟨rfl, Aft.box HW.out.1 hAf.out ((by exact (((Fr.set1 _ _ _ _).trans (Fr.set1 _ _ _ _)).mono fun x _ h => Or.inl h).trans (((Fr.set1 _ _ _ _).trans (Fr.set1 _ _ _ _)).mono fun x _ h => Or.inr h) : Fr (fun x => x = w.heap.size + 1 + 1 + 1 ∨ x = w.heap.size + 1) w1 _)) (fun x hx => by rw [hsW]; omega) HH.out.2.2.2.2.2.2.1 hb⟩
  · have hR : R = cancelS P S ⟨true, wrap64 (a + 1), 0⟩ 1 fuel := by rw [HH.out.2.2.2.2.2.1, if_neg (by omega), if_neg (by omega), if_pos hk]
    have HR := Lib.hid hR
    clear hk hR
    go_enter Try.func20, Try.ntmps20
    go_wp2_with fail
    have hfW : Fr Non w ((((w.alloc (.cells #[.int .i64 k, .int .i64 a, .int .i64 n, .slice la l.length lc] 36)).alloc (.cells #[.int .i64 0, .int .i64 0] 41)).alloc (.cells #[.bool true, .int .i64 (wrap64 (a + 1)), .int .i64 0] 38)).alloc (.cells #[.int .i64 0, .int .i64 0] 41)) := by exact (by repeat (first | exact Fr.refl _ _ | assumption | refine Fr.drewN ?_ _ | refine Fr.drew ?_ | refine Fr.drewl ?_ | refine Fr.drewNl ?_ _ | refine Fr.alloc ?_ _))
    have r6 : Row ((((w.alloc (.cells #[.int .i64 k, .int .i64 a, .int .i64 n, .slice la l.length lc] 36)).alloc (.cells #[.int .i64 0, .int .i64 0] 41)).alloc (.cells #[.bool true, .int .i64 (wrap64 (a + 1)), .int .i64 0] 38)).alloc (.cells #[.int .i64 0, .int .i64 0] 41)) (w.heap.size + 1) 41 [.int .i64 0, .int .i64 0] := ((Row.new' (by simp)).alloc _).alloc _
    have r8 : Row ((((w.alloc (.cells #[.int .i64 k, .int .i64 a, .int .i64 n, .slice la l.length lc] 36)).alloc (.cells #[.int .i64 0, .int .i64 0] 41)).alloc (.cells #[.bool true, .int .i64 (wrap64 (a + 1)), .int .i64 0] 38)).alloc (.cells #[.int .i64 0, .int .i64 0] 41)) (w.heap.size + 1 + 1 + 1) 41 [.int .i64 0, .int .i64 0] := Row.new' (by simp)
    have hsW : ((((w.alloc (.cells #[.int .i64 k, .int .i64 a, .int .i64 n, .slice la l.length lc] 36)).alloc (.cells #[.int .i64 0, .int .i64 0] 41)).alloc (.cells #[.bool true, .int .i64 (wrap64 (a + 1)), .int .i64 0] 38)).alloc (.cells #[.int .i64 0, .int .i64 0] 41)).heap.size = w.heap.size + 1 + 1 + 1 + 1 := by simp
    generalize ((((w.alloc (.cells #[.int .i64 k, .int .i64 a, .int .i64 n, .slice la l.length lc] 36)).alloc (.cells #[.int .i64 0, .int .i64 0] 41)).alloc (.cells #[.bool true, .int .i64 (wrap64 (a + 1)), .int .i64 0] 38)).alloc (.cells #[.int .i64 0, .int .i64 0] 41)) = W at *
    have HW := Lib.hid (And.intro hfW (And.intro (HH.out.1.frN hfW) (HH.out.2.2.2.1.fr hfW (high_non _))))
    have nA1 : ¬ A (w.heap.size + 1) := fun e => by have := HH.out.2.2.2.2.2.2.1 _ e; omega
    have nA3 : ¬ A (w.heap.size + 1 + 1 + 1) := fun e => by have := HH.out.2.2.2.2.2.2.1 _ e; omega
    clear hfW
    refine (cancel_m ⟨L, HW.out.2.1⟩ HH.out.2.1 true (wrap64 (a + 1)) 0 1 fuel HH.out.2.2.2.2.1).mono ?_
    rintro e1 w1 ⟨rfl, hAf⟩
    obtain ⟨A', hI', hA', hF'⟩ := id hAf
    obtain ⟨q0, q1, qz⟩ := row2 (hF'.row r6 nA1)
    obtain ⟨p0, p1, pz⟩ := row2 (hF'.row r8 nA3)
    have hs1 := hF'.size
    clear hI' hA' hF' r6 r8 nA1 nA3
    have hAf := Lib.hid hAf
    go_wp2_with fail
    refine bodyPost_ret (v := .agg #[.int .i64 (cancelS P S ⟨true, wrap64 (a + 1), 0⟩ 1 fuel).1.1, .int .i64 (cancelS P S ⟨true, wrap64 (a + 1), 0⟩ 1 fuel).1.2]) (by simp [results, Try.results20, go_sem, q0, q1, qz, p0, p1, pz]) rfl ?_
    rw [HR.out]
    exact ⟨rfl, Aft.box HW.out.1 hAf.out ((by exact (((Fr.set1 _ _ _ _).trans (Fr.set1 _ _ _ _)).mono fun x _ h => Or.inl h).trans (((Fr.set1 _ _ _ _).trans (Fr.set1 _ _ _ _)).mono fun x _ h => Or.inr h) : Fr (fun x => x = w.heap.size + 1 + 1 + 1 ∨ x = w.heap.size + 1) w1 _)) (fun x hx => by rw [hsW]; omega) HH.out.2.2.2.2.2.2.1 hb⟩
  · have hR : R = ((0, 0), completeS S a n) := by rw [HH.out.2.2.2.2.2.1, if_neg (by omega), if_neg (by omega), if_neg (by omega), if_pos hk]
    have HR := Lib.hid hR
    clear hk hR
    go_enter Try.func20, Try.ntmps20
    go_wp2_with fail
    have hfW : Fr Non w ((((w.alloc (.cells #[.int .i64 k, .int .i64 a, .int .i64 n, .slice la l.length lc] 36)).alloc (.cells #[.int .i64 0, .int .i64 0] 41)).alloc (.cells #[.bool true, .int .i64 (wrap64 (a + 1)), .int .i64 0] 38)).alloc (.cells #[.int .i64 0, .int .i64 0] 41)) := by exact (by repeat (first | exact Fr.refl _ _ | assumption | refine Fr.drewN ?_ _ | refine Fr.drew ?_ | refine Fr.drewl ?_ | refine Fr.drewNl ?_ _ | refine Fr.alloc ?_ _))
    have r6 : Row ((((w.alloc (.cells #[.int .i64 k, .int .i64 a, .int .i64 n, .slice la l.length lc] 36)).alloc (.cells #[.int .i64 0, .int .i64 0] 41)).alloc (.cells #[.bool true, .int .i64 (wrap64 (a + 1)), .int .i64 0] 38)).alloc (.cells #[.int .i64 0, .int .i64 0] 41)) (w.heap.size + 1) 41 [.int .i64 0, .int .i64 0] := ((Row.new' (by simp)).alloc _).alloc _
    have r8 : Row ((((w.alloc (.cells #[.int .i64 k, .int .i64 a, .int .i64 n, .slice la l.length lc] 36)).alloc (.cells #[.int .i64 0, .int .i64 0] 41)).alloc (.cells #[.bool true, .int .i64 (wrap64 (a + 1)), .int .i64 0] 38)).alloc (.cells #[.int .i64 0, .int .i64 0] 41)) (w.heap.size + 1 + 1 + 1) 41 [.int .i64 0, .int .i64 0] := Row.new' (by simp)
    have hsW : ((((w.alloc (.cells #[.int .i64 k, .int .i64 a, .int .i64 n, .slice la l.length lc] 36)).alloc (.cells #[.int .i64 0, .int .i64 0] 41)).alloc (.cells #[.bool true, .int .i64 (wrap64 (a + 1)), .int .i64 0] 38)).alloc (.cells #[.int .i64 0, .int .i64 0] 41)).heap.size = w.heap.size + 1 + 1 + 1 + 1 := by simp
    generalize ((((w.alloc (.cells #[.int .i64 k, .int .i64 a, .int .i64 n, .slice la l.length lc] 36)).alloc (.cells #[.int .i64 0, .int .i64 0] 41)).alloc (.cells #[.bool true, .int .i64 (wrap64 (a + 1)), .int .i64 0] 38)).alloc (.cells #[.int .i64 0, .int .i64 0] 41)) = W at *
    have HW := Lib.hid (And.intro hfW (And.intro (HH.out.1.frN hfW) (HH.out.2.2.2.1.fr hfW (high_non _))))
    have nA1 : ¬ A (w.heap.size + 1) := fun e => by have := HH.out.2.2.2.2.2.2.1 _ e; omega
    have nA3 : ¬ A (w.heap.size + 1 + 1 + 1) := fun e => by have := HH.out.2.2.2.2.2.2.1 _ e; omega
    clear hfW
    refine (complete_m ⟨L, HW.out.2.1⟩ a n).mono ?_
    rintro e1 w1 ⟨rfl, hAf⟩
    obtain ⟨A', hI', hA', hF'⟩ := id hAf
    obtain ⟨q0, q1, qz⟩ := row2 (hF'.row r6 nA1)
    obtain ⟨p0, p1, pz⟩ := row2 (hF'.row r8 nA3)
    have hs1 := hF'.size
    clear hI' hA' hF' r6 r8 nA1 nA3
    have hAf := Lib.hid hAf
    go_wp2_with fail
    refine bodyPost_ret (v := .agg #[.int .i64 0, .int .i64 0]) (by simp [results, Try.results20, go_sem, q0, q1, qz, p0, p1, pz]) rfl ?_
    rw [HR.out]
    exact ⟨rfl, Aft.box HW.out.1 hAf.out ((by exact (Fr.set1 _ _ _ _).trans (Fr.set1 _ _ _ _) : Fr (fun x => x = w.heap.size + 1) w1 _)) (fun x hx => by rw [hsW]; omega) HH.out.2.2.2.2.2.2.1 hb⟩
  · have hR : R = ((0, 0), S) := by rw [HH.out.2.2.2.2.2.1, if_neg n0, if_neg n1, if_neg n2, if_neg n3]
    have HR := Lib.hid hR
    clear hR n0 n1 n2 n3
    go_enter Try.func20, Try.ntmps20
    go_wp2_with fail
    refine bodyPost_ret (v := .agg #[.int .i64 0, .int .i64 0]) (by simp [results, Try.results20, go_sem]) rfl ?_
    rw [HR.out]
    exact ⟨rfl, HH.out.1.aftN (by exact (by repeat (first | exact Fr.refl _ _ | assumption | refine Fr.drewN ?_ _ | refine Fr.drew ?_ | refine Fr.drewl ?_ | refine Fr.drewNl ?_ _ | refine Fr.alloc ?_ _ | (refine Fr.setCell ?_ (Or.inr (by simp)) _) | refine Fr.trans ?_ (by assumption))))⟩
end

end Go.Proofs.Ytlbomnbpahmphaa

/- Up to three machines of the same code, side by side: each has blocks of its own. No condition. -/
namespace Go.Proofs.Ytlbomnbpahmphaa
open Go.RowKit

abbrev Mo := Option (Nat × St)
def MOpt (base : Nat) (P : Pr) (A : Nat → Prop) (w : World) : Mo → Prop
  | none => ∀ x, ¬ A x
  | some (m, S) => MInv base P A w m S

section
variable {base : Nat} {P : Pr} {kinds : List Int} {A E : Nat → Prop} {w w' : World} {m : Nat} {S : St} {a b c : Mo} {U : Nat → Prop}

theorem MInv.high (h : MInv base P A w m S) : High base A := by obtain ⟨L, h⟩ := h; exact h.high
theorem MInv.lt (h : MInv base P A w m S) : ∀ x, A x → x < w.heap.size := by obtain ⟨L, h⟩ := h; exact h.lt
theorem MInv.om (h : MInv base P A w m S) : A m := by obtain ⟨L, h⟩ := h; exact h.om
theorem MInv.frE (h : MInv base P A w m S) (f : Fr E w w') (hE : High base E) (hd : ∀ x, A x → ¬ E x) : MInv base P A w' m S := by obtain ⟨L, h⟩ := h; exact ⟨L, h.frE f hE hd⟩
theorem MOpt.frE (h : MOpt base P A w a) (f : Fr E w w') (hE : High base E) (hd : ∀ x, A x → ¬ E x) : MOpt base P A w' a := by
  match a, h with
  | none, h => exact h
  | some (m, S), h => exact MInv.frE (m := m) (S := S) h f hE hd
theorem MOpt.high (h : MOpt base P A w a) : High base A := by
  match a, h with
  | none, h => exact fun x hx => (h x hx).elim
  | some (m, S), h => exact MInv.high (m := m) (S := S) h
theorem MOpt.lt (h : MOpt base P A w a) : ∀ x, A x → x < w.heap.size := by
  match a, h with
  | none, h => exact fun x hx => (h x hx).elim
  | some (m, S), h => exact MInv.lt (m := m) (S := S) h

/-- Machines, all in blocks of U. -/
def Mach (base : Nat) (P : Pr) (U : Nat → Prop) (w : World) (a b c : Mo) : Prop :=
  ∃ Aa Ab Ac : Nat → Prop, MOpt base P Aa w a ∧ MOpt base P Ab w b ∧ MOpt base P Ac w c ∧ (∀ x, Aa x → ¬ Ab x) ∧ (∀ x, Aa x → ¬ Ac x) ∧ (∀ x, Ab x → ¬ Ac x) ∧ (∀ x, U x ↔ Aa x ∨ Ab x ∨ Ac x)
/-- Behind a step of one of them. -/
def AftM (base : Nat) (P : Pr) (U : Nat → Prop) (w w' : World) (a b c : Mo) : Prop := ∃ U', Mach base P U' w' a b c ∧ (∀ x, U' x → U x ∨ w.heap.size ≤ x) ∧ Fr U w w'

theorem Mach.rot (h : Mach base P U w a b c) : Mach base P U w b c a := by
  obtain ⟨Aa, Ab, Ac, h1, h2, h3, h4, h5, h6, h7⟩ := h
  exact ⟨Ab, Ac, Aa, h2, h3, h1, h6, fun x hx e => h4 x e hx, fun x hx e => h5 x e hx, fun x => by rw [h7]; constructor <;> (rintro (h | h | h) <;> simp [h])⟩
theorem AftM.rot (h : AftM base P U w w' a b c) : AftM base P U w w' b c a := by
  obtain ⟨U', h1, h2, h3⟩ := h
  exact ⟨U', h1.rot, h2, h3⟩
theorem Mach.high (h : Mach base P U w a b c) : High base U := by
  obtain ⟨Aa, Ab, Ac, h1, h2, h3, h4, h5, h6, h7⟩ := h
  intro x hx
  rcases (h7 x).1 hx with h | h | h
  · exact h1.high x h
  · exact h2.high x h
  · exact h3.high x h
theorem Mach.lt (h : Mach base P U w a b c) : ∀ x, U x → x < w.heap.size := by
  obtain ⟨Aa, Ab, Ac, h1, h2, h3, h4, h5, h6, h7⟩ := h
  intro x hx
  rcases (h7 x).1 hx with h | h | h
  · exact h1.lt x h
  · exact h2.lt x h
  · exact h3.lt x h
theorem Mach.frE (h : Mach base P U w a b c) (f : Fr E w w') (hE : High base E) (hd : ∀ x, U x → ¬ E x) : Mach base P U w' a b c := by
  obtain ⟨Aa, Ab, Ac, h1, h2, h3, h4, h5, h6, h7⟩ := h
  exact ⟨Aa, Ab, Ac, h1.frE f hE fun x hx => hd x ((h7 x).2 (Or.inl hx)), h2.frE f hE fun x hx => hd x ((h7 x).2 (Or.inr (Or.inl hx))), h3.frE f hE fun x hx => hd x ((h7 x).2 (Or.inr (Or.inr hx))), h4, h5, h6, h7⟩
theorem Mach.frN (h : Mach base P U w a b c) (f : Fr Non w w') : Mach base P U w' a b c := h.frE f (high_non _) fun _ _ h => h

/-- A step of the first one. -/
theorem Mach.step (h : Mach base P U w (some (m, S)) b c) {S' : St} {f : FuncId} {args : Array Value} {Q : Ending → Prop} (hc : ∀ A, MInv base P A w m S → Calls Try.prog f args w fun e w' => Q e ∧ Aft base P A w w' m S') :
    Calls Try.prog f args w fun e w' => Q e ∧ AftM base P U w w' (some (m, S')) b c := by
  obtain ⟨Aa, Ab, Ac, h1, h2, h3, h4, h5, h6, h7⟩ := h
  refine (hc Aa h1).mono fun e w' ⟨he, A', k1, k2, k3⟩ => ⟨he, fun x => A' x ∨ Ab x ∨ Ac x, ?_, ?_, ?_⟩
  · have hH : High base Aa := MInv.high h1
    refine ⟨A', Ab, Ac, k1, h2.frE k3 hH fun x hx e => h4 x e hx, h3.frE k3 hH fun x hx e => h5 x e hx, fun x hx e => ?_, fun x hx e => ?_, h6, fun x => Iff.rfl⟩
    · rcases k2 x hx with g | g
      · exact h4 x g e
      · have := h2.lt x e; omega
    · rcases k2 x hx with g | g
      · exact h5 x g e
      · have := h3.lt x e; omega
  · rintro x (hx | hx)
    · rcases k2 x hx with g | g
      · exact Or.inl ((h7 x).2 (Or.inl g))
      · exact Or.inr g
    · exact Or.inl ((h7 x).2 (Or.inr hx))
  · exact k3.mono fun x _ hx => (h7 x).2 (Or.inl hx)

/-- What the first one told is taken. -/
theorem Mach.told (h : Mach base P U w (some (m, S)) b c) :
    Calls Try.prog 17 #[.pointer (some ⟨m, 0, none⟩)] w fun e w' => ∃ tv U', e = .returned tv ∧ Own w' tv 63 4 S.told.length (evs S.told) ∧ Mach base P U' w' (some (m, { S with told := [] })) b c ∧ (∀ x, U' x → U x ∧ tv.ownBlock ≠ some x) ∧ (∀ x, tv.ownBlock = some x → U x) ∧ Fr (fun x => x = m) w w' := by
  obtain ⟨Aa, Ab, Ac, h1, h2, h3, h4, h5, h6, h7⟩ := h
  have hm : Aa m := MInv.om h1
  have hH : High base (fun x => x = m) := fun x e => by subst e; exact MInv.high h1 _ hm
  refine (told_m h1).mono ?_
  rintro e w' ⟨tv, A', rfl, ho, hi, hA, htv, hf⟩
  refine ⟨tv, fun x => A' x ∨ Ab x ∨ Ac x, rfl, ho, ⟨A', Ab, Ac, hi, h2.frE hf hH fun x hx e => h4 m hm (e ▸ hx), h3.frE hf hH fun x hx e => h5 m hm (e ▸ hx), fun x hx => h4 x (hA x hx).1, fun x hx => h5 x (hA x hx).1, h6, fun x => Iff.rfl⟩, ?_, fun x hx => (h7 x).2 (Or.inl (htv x hx)), hf⟩
  rintro x (hx | hx | hx)
  · exact ⟨(h7 x).2 (Or.inl (hA x hx).1), (hA x hx).2⟩
  · exact ⟨(h7 x).2 (Or.inr (Or.inl hx)), fun e => h4 x (htv x e) hx⟩
  · exact ⟨(h7 x).2 (Or.inr (Or.inr hx)), fun e => h5 x (htv x e) hx⟩

theorem Mach.live (h : Mach base P U w (some (m, S)) b c) : Calls Try.prog 19 #[.pointer (some ⟨m, 0, none⟩)] w fun e w' => e = .returned (.int .i64 (live S.mem.blocks)) ∧ Fr Non w w' := by
  obtain ⟨Aa, Ab, Ac, h1, _⟩ := h
  exact live_m h1

/-- A machine more. -/
theorem Mach.add (h : Mach base P U w a b none) (hi : MInv base P A w m S) (hA : ∀ x, U x → ¬ A x) : Mach base P (fun x => U x ∨ A x) w a b (some (m, S)) := by
  obtain ⟨Aa, Ab, Ac, h1, h2, h3, h4, h5, h6, h7⟩ := h
  have h3' : ∀ x, ¬ Ac x := h3
  refine ⟨Aa, Ab, A, h1, h2, hi, h4, fun x hx => hA x ((h7 x).2 (Or.inl hx)), fun x hx => hA x ((h7 x).2 (Or.inr (Or.inl hx))), fun x => ?_⟩
  show (U x ∨ A x) ↔ _
  rw [h7]
  constructor
  · rintro ((h | h | h) | h)
    · exact Or.inl h
    · exact Or.inr (Or.inl h)
    · exact (h3' x h).elim
    · exact Or.inr (Or.inr h)
  · rintro (h | h | h)
    · exact Or.inl (Or.inl h)
    · exact Or.inl (Or.inr (Or.inl h))
    · exact Or.inr h
theorem Mach.none (base : Nat) (P : Pr) (w : World) : Mach base P Non w none none none := ⟨Non, Non, Non, fun _ h => h, fun _ h => h, fun _ h => h, fun _ _ h => h, fun _ _ h => h, fun _ _ h => h, fun x => by simp [Non]⟩

/-- Boxes are made; a step; then the boxes change. -/
theorem AftM.ahead {w1 : World} (f : Fr Non w w1) (k : AftM base P U w1 w' a b c) : AftM base P U w w' a b c := by
  obtain ⟨A2, k1, k2, k3⟩ := k
  exact ⟨A2, k1, fun x hx => (k2 x hx).imp id fun e => Nat.le_trans f.size e, (f.mono fun _ _ h => h.elim).trans k3⟩
end

end Go.Proofs.Ytlbomnbpahmphaa

/- What the checker of code computes, as plain Lean: no program in sight. No condition. -/
namespace Go.Proofs.Ytlbomnbpahmphaa

/-- An instruction's three fields, its labels, and is there such a one. -/
structure Shp where
  a : Int
  b : Int
  c : Int
  l : Int
  ok : Bool

def shapeS (op : Int) : Shp :=
  if op = 0 then ⟨2, 3, 0, 0, true⟩ else if op = 1 then ⟨2, 4, 0, 0, true⟩ else if op = 2 then ⟨2, 1, 4, 0, true⟩ else if op = 3 ∨ op = 21 then ⟨2, 1, 0, 0, true⟩
  else if op = 24 then ⟨2, 1, 0, 1, true⟩ else if op = 4 then ⟨1, 1, 0, 0, true⟩ else if op = 5 ∨ op = 6 then ⟨1, 1, 4, 0, true⟩ else if op = 7 then ⟨1, 0, 4, 0, true⟩
  else if op = 16 then ⟨2, 0, 4, 0, true⟩ else if op = 8 ∨ op = 9 ∨ op = 10 then ⟨2, 1, 1, 1, true⟩ else if op = 11 ∨ op = 12 then ⟨2, 1, 1, 0, true⟩ else if op = 13 then ⟨0, 0, 0, 1, true⟩
  else if op = 14 ∨ op = 23 then ⟨1, 0, 0, 1, true⟩ else if op = 15 then ⟨1, 0, 0, -1, true⟩ else if op = 17 ∨ op = 18 ∨ op = 20 ∨ op = 25 then ⟨1, 0, 0, 0, true⟩ else if op = 19 then ⟨1, 5, 0, 0, true⟩
  else if op = 22 then ⟨2, 7, 0, 0, true⟩ else if op = 26 then ⟨1, 6, 0, 0, true⟩ else if op = 27 ∨ op = 28 ∨ op = 29 then ⟨0, 0, 0, 0, true⟩ else ⟨0, 0, 0, 0, false⟩

def withinS (n most : Int) : Bool := decide (0 ≤ n) && decide (n < most)
def readsS (x : In) : List Int := (if (shapeS x.op).a == 1 then [x.a] else []) ++ ((if (shapeS x.op).b == 1 then [x.b] else []) ++ (if (shapeS x.op).c == 1 then [x.c] else []))
def writesS (x : In) : Int × Bool := if (shapeS x.op).a == 2 then (x.a, true) else (0, false)
def fallsS (op : Int) : Bool := if op = 13 ∨ op = 15 ∨ op = 27 ∨ op = 28 ∨ op = 29 then false else (shapeS op).ok

def markS (l : List Int) (at_ kind : Int) : List Int := if withinS at_ l.length then l.set at_.toNat kind else l
def kindsS (P : Pr) : List Int := P.cos.foldl (fun l c => markS l c.resume 1) (P.cos.foldl (fun l c => markS l c.cancel 2) (List.replicate P.funs.length 0))

def fieldS (kinds : List Int) (ncos : Nat) (f n : Int) : Bool :=
  if f = 1 ∨ f = 2 then withinS n 16 else if f = 3 then true else if f = 4 then withinS n 1048577 else if f = 5 then decide (0 ≤ n)
  else if f = 6 then (withinS n kinds.length && kinds.getD n.toNat 0 == 0) else if f = 7 then withinS n ncos else n == 0
def allowedS (kind op : Int) : Bool :=
  if op = 1 then kind != 0 else if op = 20 ∨ op = 21 ∨ op = 23 ∨ op = 24 ∨ op = 27 ∨ op = 28 then kind == 1 else if op = 29 then kind != 1 else true
def oneS (kinds : List Int) (ncos : Nat) (n : Nat) (kind : Int) (x : In) : Bool :=
  if (!(shapeS x.op).ok || !fieldS kinds ncos (shapeS x.op).a x.a || !fieldS kinds ncos (shapeS x.op).b x.b || !fieldS kinds ncos (shapeS x.op).c x.c || !allowedS kind x.op) then false
  else if ((decide (0 ≤ (shapeS x.op).l) && ((x.l.length : Int) != (shapeS x.op).l)) || (decide ((shapeS x.op).l < 0) && ((x.l.length : Int) == 0))) then false
  else x.l.all fun j => withinS j n

/-- The operations of the marks, as the walk spells them. -/
def andU (a b : Int) : Int := bits .and .u32 a b
def orU (a b : Int) : Int := bits .or .u32 a b
def shlU (r : Int) : Int := 2 ^ r.toNat % 4294967296
def setS : List (Int × Int) → Int → Int → List (Int × Int)
  | [], k, v => [(k, v)]
  | x :: l, k, v => if x.1 == k then (k, v) :: l else x :: setS l k v
/-- The marks of the labels, met with what is written now. -/
def meetS : List (Int × Int) → List Int → Int → List Int → List (Int × Int) × List Int
  | W, st, _, [] => (W, st)
  | W, st, now, n :: l =>
    match evOf W n with
    | some was => if andU was now == was then meetS W st now l else meetS (setS W n (andU was now)) (n :: st) now l
    | none => meetS (setS W n now) (n :: st) now l
def nowS (x : In) (now : Int) : Int := if (writesS x).2 then orU now (shlU (writesS x).1) else now
def nextS (x : In) (at_ : Int) : List Int := if fallsS x.op then x.l ++ [at_ + 1] else x.l
/-- The ways from what is still to do; 'k' rounds at most. -/
def waysF (f : List In) : Nat → List (Int × Int) → List Int → Bool
  | _, _, [] => true
  | 0, _, _ :: _ => true
  | k + 1, W, at_ :: st =>
    if (readsS (f.getD at_.toNat In.zero)).any (fun r => andU ((evOf W at_).getD 0) (shlU r) == 0) then false
    else waysF f k (meetS W st (nowS (f.getD at_.toNat In.zero) ((evOf W at_).getD 0)) (nextS (f.getD at_.toNat In.zero) at_)).1
      (meetS W st (nowS (f.getD at_.toNat In.zero) ((evOf W at_).getD 0)) (nextS (f.getD at_.toNat In.zero) at_)).2
def waysN (n : Nat) : Nat := 2 * (n * 33) + 1
def waysS (f : List In) (kind : Int) : Bool := waysF f (waysN f.length) [(0, if kind = 0 then 1 else 0)] [0]
def rightS (kinds : List Int) (ncos : Nat) (kind : Int) (f : List In) : Bool :=
  if f.length < 1 ∨ 65536 < f.length ∨ fallsS (f.getD (f.length - 1) In.zero).op then false else if f.all (oneS kinds ncos f.length kind) then waysS f kind else false
def coroutineS (kinds : List Int) (c : Cr) : Bool :=
  if (!withinS c.resume kinds.length || !withinS c.cancel kinds.length || kinds.getD c.cancel.toNat 0 != 2) then false
  else decide (3 ≤ c.words) && decide (c.words ≤ 1048576) && withinS c.args (c.words - 3 + 1)
def rightsS (kinds : List Int) (ncos : Nat) : Nat → List (List In) → Bool
  | _, [] => true
  | i, f :: l => rightS kinds ncos (kinds.getD i 0) f && rightsS kinds ncos (i + 1) l
def validS (P : Pr) : Bool :=
  if 65536 < P.funs.length ∨ 65536 < P.cos.length then false else P.cos.all (coroutineS (kindsS P)) && rightsS (kindsS P) P.cos.length 0 P.funs

end Go.Proofs.Ytlbomnbpahmphaa

/- Walks: the checker's 'within' and 'shapeOf'. No condition. -/
namespace Go.Proofs.Ytlbomnbpahmphaa
open Go.RowKit

def In.cs (x : In) (la : Option Addr) (lc : Nat) : List Value := [.int .i64 x.op, .int .i64 x.a, .int .i64 x.b, .int .i64 x.c, .slice la x.l.length lc]

theorem within_c (w : World) (n most : Int) : Calls Try.prog 66 #[.int .i64 n, .int .i64 most] w fun e w' => e = .returned (.bool (withinS n most)) ∧ Fr Non w w' := by
  obtain ⟨r, hr⟩ : ∃ r, r = withinS n most := ⟨_, rfl⟩
  rw [← hr]
  unfold withinS at hr
  have HR := Lib.hid hr
  clear hr
  by_cases h0 : 0 ≤ n
  · have hd : decide (0 ≤ n) = true := decide_eq_true h0
    go_enter Try.func66, Try.ntmps66
    go_wp2
    go_ret
    exact ⟨by rw [HR.out, hd]; simp, by exact (by repeat (first | exact Fr.refl _ _ | assumption | refine Fr.drewN ?_ _ | refine Fr.drew ?_ | refine Fr.drewl ?_ | refine Fr.drewNl ?_ _ | refine Fr.alloc ?_ _))⟩
  · have hd : decide (0 ≤ n) = false := decide_eq_false h0
    go_enter Try.func66, Try.ntmps66
    go_wp2
    go_ret
    exact ⟨by rw [HR.out, hd]; simp, by exact (by repeat (first | exact Fr.refl _ _ | assumption | refine Fr.drewN ?_ _ | refine Fr.drew ?_ | refine Fr.drewl ?_ | refine Fr.drewNl ?_ _ | refine Fr.alloc ?_ _))⟩

set_option maxRecDepth 100000 in
set_option maxHeartbeats 4000000 in
theorem shapeOf_c (w : World) (x : In) (la : Option Addr) (lc : Nat) : Calls Try.prog 82 #[.agg #[.int .i64 x.op, .int .i64 x.a, .int .i64 x.b, .int .i64 x.c, .slice la x.l.length lc]] w fun e w' =>
    e = .returned (.tuple #[.agg #[.int .i64 (shapeS x.op).a, .int .i64 (shapeS x.op).b, .int .i64 (shapeS x.op).c, .int .i64 (shapeS x.op).l], .bool (shapeS x.op).ok]) ∧ Fr Non w w' := by
  obtain ⟨op, a, b, c, l⟩ := x
  simp only
  obtain ⟨r, hr⟩ : ∃ r, r = shapeS op := ⟨_, rfl⟩
  rw [← hr]
  by_cases h : 0 ≤ op ∧ op ≤ 29
  · have hc : op = 0 ∨ op = 1 ∨ op = 2 ∨ op = 3 ∨ op = 4 ∨ op = 5 ∨ op = 6 ∨ op = 7 ∨ op = 8 ∨ op = 9 ∨ op = 10 ∨ op = 11 ∨ op = 12 ∨ op = 13 ∨ op = 14 ∨ op = 15 ∨ op = 16 ∨ op = 17 ∨ op = 18 ∨ op = 19 ∨ op = 20 ∨ op = 21 ∨ op = 22 ∨ op = 23 ∨ op = 24 ∨ op = 25 ∨ op = 26 ∨ op = 27 ∨ op = 28 ∨ op = 29 := by omega
    rcases hc with rfl | rfl | rfl | rfl | rfl | rfl | rfl | rfl | rfl | rfl | rfl | rfl | rfl | rfl | rfl | rfl | rfl | rfl | rfl | rfl | rfl | rfl | rfl | rfl | rfl | rfl | rfl | rfl | rfl | rfl
    all_goals simp [shapeS] at hr
    all_goals subst hr
    all_goals clear h
    all_goals go_enter Try.func82, Try.ntmps82
    all_goals go_wp2
    all_goals exact bodyPost_ret (by simp [results, Try.results82, go_sem]) rfl ⟨rfl, by exact (by repeat (first | exact Fr.refl _ _ | assumption | refine Fr.drewN ?_ _ | refine Fr.drew ?_ | refine Fr.drewl ?_ | refine Fr.drewNl ?_ _ | refine Fr.alloc ?_ _))⟩
  · rw [show shapeS op = ⟨0, 0, 0, 0, false⟩ from by unfold shapeS; rw [if_neg (by omega), if_neg (by omega), if_neg (by omega), if_neg (by omega), if_neg (by omega), if_neg (by omega), if_neg (by omega), if_neg (by omega), if_neg (by omega), if_neg (by omega), if_neg (by omega), if_neg (by omega), if_neg (by omega), if_neg (by omega), if_neg (by omega), if_neg (by omega), if_neg (by omega), if_neg (by omega), if_neg (by omega)]] at hr
    subst hr
    have b0 : (op == 0) = false := beq_false_of_ne (by omega)
    have b1 : (op == 1) = false := beq_false_of_ne (by omega)
    have b2 : (op == 2) = false := beq_false_of_ne (by omega)
    have b3 : (op == 3) = false := beq_false_of_ne (by omega)
    have b4 : (op == 4) = false := beq_false_of_ne (by omega)
    have b5 : (op == 5) = false := beq_false_of_ne (by omega)
    have b6 : (op == 6) = false := beq_false_of_ne (by omega)
    have b7 : (op == 7) = false := beq_false_of_ne (by omega)
    have b8 : (op == 8) = false := beq_false_of_ne (by omega)
    have b9 : (op == 9) = false := beq_false_of_ne (by omega)
    have b10 : (op == 10) = false := beq_false_of_ne (by omega)
    have b11 : (op == 11) = false := beq_false_of_ne (by omega)
    have b12 : (op == 12) = false := beq_false_of_ne (by omega)
    have b13 : (op == 13) = false := beq_false_of_ne (by omega)
    have b14 : (op == 14) = false := beq_false_of_ne (by omega)
    have b15 : (op == 15) = false := beq_false_of_ne (by omega)
    have b16 : (op == 16) = false := beq_false_of_ne (by omega)
    have b17 : (op == 17) = false := beq_false_of_ne (by omega)
    have b18 : (op == 18) = false := beq_false_of_ne (by omega)
    have b19 : (op == 19) = false := beq_false_of_ne (by omega)
    have b20 : (op == 20) = false := beq_false_of_ne (by omega)
    have b21 : (op == 21) = false := beq_false_of_ne (by omega)
    have b22 : (op == 22) = false := beq_false_of_ne (by omega)
    have b23 : (op == 23) = false := beq_false_of_ne (by omega)
    have b24 : (op == 24) = false := beq_false_of_ne (by omega)
    have b25 : (op == 25) = false := beq_false_of_ne (by omega)
    have b26 : (op == 26) = false := beq_false_of_ne (by omega)
    have b27 : (op == 27) = false := beq_false_of_ne (by omega)
    have b28 : (op == 28) = false := beq_false_of_ne (by omega)
    have b29 : (op == 29) = false := beq_false_of_ne (by omega)
    clear h
    go_enter Try.func82, Try.ntmps82
    go_wp2
    exact bodyPost_ret (v := .tuple #[.agg #[.int .i64 0, .int .i64 0, .int .i64 0, .int .i64 0], .bool false]) (by simp [results, Try.results82, go_sem]) rfl ⟨rfl, by exact (by repeat (first | exact Fr.refl _ _ | assumption | refine Fr.drewN ?_ _ | refine Fr.drew ?_ | refine Fr.drewl ?_ | refine Fr.drewNl ?_ _ | refine Fr.alloc ?_ _))⟩


end Go.Proofs.Ytlbomnbpahmphaa

/- Walks: the checker's small functions. No condition. -/
namespace Go.Proofs.Ytlbomnbpahmphaa
open Go.RowKit

theorem writes_c (w : World) (x : In) (la : Option Addr) (lc : Nat) : Calls Try.prog 88 #[.agg #[.int .i64 x.op, .int .i64 x.a, .int .i64 x.b, .int .i64 x.c, .slice la x.l.length lc]] w fun e w' =>
    e = .returned (.tuple #[.int .i64 (writesS x).1, .bool (writesS x).2]) ∧ Fr Non w w' := by
  have hS := Lib.hid fun w1 => shapeOf_c w1 x la lc
  obtain ⟨r, hr⟩ : ∃ r, r = writesS x := ⟨_, rfl⟩
  rw [← hr]
  unfold writesS at hr
  obtain ⟨op, a, b, c, l⟩ := x
  simp only at hS hr ⊢
  generalize shapeS op = sh at *
  obtain ⟨sa, sb, sc, sl, ok⟩ := sh
  simp only at hS hr
  have HR := Lib.hid hr
  clear hr
  cases h2 : (sa == 2)
  all_goals go_enter Try.func88, Try.ntmps88
  all_goals go_wp2_with fail
  all_goals refine (hS.out _).mono ?_
  all_goals rintro e1 w1 ⟨rfl, hf⟩
  all_goals have hf1 : Fr Non w w1 := Fr.trans (by exact (by repeat (first | exact Fr.refl _ _ | assumption | refine Fr.drewN ?_ _ | refine Fr.drew ?_ | refine Fr.drewl ?_ | refine Fr.drewNl ?_ _ | refine Fr.alloc ?_ _))) hf
  all_goals have rx : Row w1 w.heap.size 112 [.int .i64 op, .int .i64 a, .int .i64 b, .int .i64 c, .slice la l.length lc] := hf.row (by exact Row.new' rfl) id
  all_goals obtain ⟨x0, x1, x2, x3, x4, xz⟩ := row5 rx
  all_goals have hxl := rx.lt
  all_goals clear hf rx
  all_goals go_wp2_with fail
  all_goals go_ret2
  all_goals exact ⟨by rw [HR.out, h2]; rfl, by exact (by repeat (first | exact Fr.refl _ _ | assumption | refine Fr.drewN ?_ _ | refine Fr.drew ?_ | refine Fr.drewl ?_ | refine Fr.drewNl ?_ _ | refine Fr.alloc ?_ _))⟩

theorem falls_c (w : World) (x : In) (la : Option Addr) (lc : Nat) : Calls Try.prog 67 #[.agg #[.int .i64 x.op, .int .i64 x.a, .int .i64 x.b, .int .i64 x.c, .slice la x.l.length lc]] w fun e w' =>
    e = .returned (.bool (fallsS x.op)) ∧ Fr Non w w' := by
  have hS := Lib.hid fun w1 => shapeOf_c w1 x la lc
  obtain ⟨r, hr⟩ : ∃ r, r = fallsS x.op := ⟨_, rfl⟩
  rw [← hr]
  unfold fallsS at hr
  obtain ⟨op, a, b, c, l⟩ := x
  simp only at hS hr ⊢
  generalize shapeS op = sh at *
  obtain ⟨sa, sb, sc, sl, ok⟩ := sh
  simp only at hS hr
  by_cases h : op = 13 ∨ op = 15 ∨ op = 27 ∨ op = 28 ∨ op = 29
  · rw [if_pos h] at hr
    subst hr
    clear hS
    rcases h with rfl | rfl | rfl | rfl | rfl
    all_goals go_enter Try.func67, Try.ntmps67
    all_goals go_wp2_with fail
    all_goals go_ret
    all_goals exact ⟨rfl, by exact (by repeat (first | exact Fr.refl _ _ | assumption | refine Fr.drewN ?_ _ | refine Fr.drew ?_ | refine Fr.drewl ?_ | refine Fr.drewNl ?_ _ | refine Fr.alloc ?_ _))⟩
  · rw [if_neg h] at hr
    subst hr
    have b13 : (op == 13) = false := beq_false_of_ne (by omega)
    have b15 : (op == 15) = false := beq_false_of_ne (by omega)
    have b27 : (op == 27) = false := beq_false_of_ne (by omega)
    have b28 : (op == 28) = false := beq_false_of_ne (by omega)
    have b29 : (op == 29) = false := beq_false_of_ne (by omega)
    clear h
    go_enter Try.func67, Try.ntmps67
    go_wp2_with fail
    refine (hS.out _).mono ?_
    rintro e1 w1 ⟨rfl, hf⟩
    have hf1 : Fr Non w w1 := Fr.trans (by exact (by repeat (first | exact Fr.refl _ _ | assumption | refine Fr.drewN ?_ _ | refine Fr.drew ?_ | refine Fr.drewl ?_ | refine Fr.drewNl ?_ _ | refine Fr.alloc ?_ _))) hf
    clear hf
    go_wp2_with fail
    go_ret
    exact ⟨rfl, by exact (by repeat (first | exact Fr.refl _ _ | assumption | refine Fr.drewN ?_ _ | refine Fr.drew ?_ | refine Fr.drewl ?_ | refine Fr.drewNl ?_ _ | refine Fr.alloc ?_ _))⟩

/-- The checker of a function: its program, its kinds, the function, its kind. -/
structure Chk (base : Nat) (P : Pr) (kinds : List Int) (f : List In) (kind : Int) (w : World) (c : Nat) : Prop where
  row : ∃ fo fc co cc kb kc io ic, Row w c 117 [.slice fo P.funs.length fc, .slice co P.cos.length cc, .slice (some ⟨kb, 0, none⟩) kinds.length kc, .slice io f.length ic, .int .i64 kind] ∧
    (∃ arr, Row w kb 3 arr ∧ ∀ (i : Nat) (n : Int), kinds[i]? = some n → arr[i]? = some (.int .i64 n)) ∧ InsAt base w io f
theorem Chk.fr {base : Nat} {P : Pr} {kinds : List Int} {f : List In} {kind : Int} {w w' : World} {c : Nat} (h : Chk base P kinds f kind w c) (g : Fr Non w w') : Chk base P kinds f kind w' c := by
  obtain ⟨fo, fc, co, cc, kb, kc, io, ic, h1, ⟨arr, h2, h3⟩, h4⟩ := h
  exact ⟨fo, fc, co, cc, kb, kc, io, ic, g.row h1 id, ⟨arr, g.row h2 id, h3⟩, h4.fr g (high_non _)⟩

section
variable {base : Nat} {P : Pr} {kinds : List Int} {f : List In} {kind : Int} {w : World} {c : Nat}

set_option maxRecDepth 100000 in
set_option maxHeartbeats 400000 in
theorem field_c (h : Chk base P kinds f kind w c) (fd n : Int) : Calls Try.prog 83 #[.pointer (some ⟨c, 0, none⟩), .int .i64 fd, .int .i64 n] w fun e w' => e = .returned (.bool (fieldS kinds P.cos.length fd n)) ∧ Fr Non w w' := by
  obtain ⟨fo, fc, co, cc, kb, kc, io, ic, h1, ⟨arr, h2, h3⟩, h4⟩ := h
  have c1 := h1.cell (o := 1) rfl
  have c2 := h1.cell (o := 2) rfl
  have hcl := h1.lt
  have hkl := h2.lt
  obtain ⟨r, hr⟩ : ∃ r, r = fieldS kinds P.cos.length fd n := ⟨_, rfl⟩
  rw [← hr]
  unfold fieldS at hr
  have HR := Lib.hid hr
  have HK := Lib.hid (And.intro h2 h3)
  clear hr h1 h2 h3 h4
  have hW := Lib.hid fun w1 k => within_c w1 n k
  have hkk : Hid (∀ i : Nat, i < kinds.length → w.cell? ⟨kb, i, none⟩ = some (.int .i64 (kinds.getD i 0))) := Lib.hid fun i hi => HK.out.1.cell (HK.out.2 i _ (by rw [List.getD_eq_getElem?_getD, List.getElem?_eq_getElem hi]; rfl))
  generalize kinds.length = kl at *
  by_cases h1 : fd = 1 ∨ fd = 2
  · rcases h1 with rfl | rfl
    all_goals go_enter Try.func83, Try.ntmps83
    all_goals go_wp2_with fail
    all_goals refine (hW.out _ _).mono ?_
    all_goals rintro e1 w1 ⟨rfl, hf⟩
    all_goals go_wp2_with fail
    all_goals go_ret
    all_goals exact ⟨by rw [HR.out, if_pos (by simp)]; rfl, hf⟩
  · have b1 : (fd == 1) = false := beq_false_of_ne (by omega)
    have b2 : (fd == 2) = false := beq_false_of_ne (by omega)
    by_cases h3 : fd = 3
    · subst h3
      go_enter Try.func83, Try.ntmps83
      go_wp2_with fail
      go_ret
      exact ⟨by rw [HR.out, if_neg (by first | omega | simp | (simp; omega)), if_pos (by first | trivial | rfl | simp)]; rfl, by exact (by repeat (first | exact Fr.refl _ _ | assumption | refine Fr.drewN ?_ _ | refine Fr.drew ?_ | refine Fr.drewl ?_ | refine Fr.drewNl ?_ _ | refine Fr.alloc ?_ _))⟩
    have b3 : (fd == 3) = false := beq_false_of_ne h3
    by_cases h4 : fd = 4
    · subst h4
      go_enter Try.func83, Try.ntmps83
      go_wp2_with fail
      refine (hW.out _ _).mono ?_
      rintro e1 w1 ⟨rfl, hf⟩
      go_wp2_with fail
      go_ret
      exact ⟨by rw [HR.out, if_neg (by first | omega | simp | (simp; omega)), if_neg (by first | omega | simp | (simp; omega)), if_pos (by first | trivial | rfl | simp)]; rfl, hf⟩
    have b4 : (fd == 4) = false := beq_false_of_ne h4
    by_cases h5 : fd = 5
    · subst h5
      go_enter Try.func83, Try.ntmps83
      go_wp2_with fail
      go_ret
      exact ⟨by rw [HR.out, if_neg (by first | omega | simp | (simp; omega)), if_neg (by first | omega | simp | (simp; omega)), if_neg (by first | omega | simp | (simp; omega)), if_pos (by first | trivial | rfl | simp)]; rfl, by exact (by repeat (first | exact Fr.refl _ _ | assumption | refine Fr.drewN ?_ _ | refine Fr.drew ?_ | refine Fr.drewl ?_ | refine Fr.drewNl ?_ _ | refine Fr.alloc ?_ _))⟩
    have b5 : (fd == 5) = false := beq_false_of_ne h5
    by_cases h6 : fd = 6
    · subst h6
      cases hwi : withinS n kl with
      | false =>
        go_enter Try.func83, Try.ntmps83
        go_wp2_with fail
        refine (hW.out _ _).mono ?_
        rintro e1 w1 ⟨rfl, hf⟩
        rw [hwi]
        go_wp2_with fail
        go_ret
        exact ⟨by rw [HR.out, if_neg (by first | omega | simp | (simp; omega)), if_neg (by first | omega | simp | (simp; omega)), if_neg (by first | omega | simp | (simp; omega)), if_neg (by first | omega | simp | (simp; omega)), if_pos (by first | trivial | rfl | simp), hwi]; rfl, hf⟩
      | true =>
        have hwi2 := hwi
        unfold withinS at hwi2
        simp only [Bool.and_eq_true, decide_eq_true_eq] at hwi2
        obtain ⟨i, rfl⟩ := Int.eq_ofNat_of_zero_le hwi2.1
        have hi0 : (0 : Int) ≤ (i : Int) := hwi2.1
        have hi1 : (i : Int) < (kl : Int) := hwi2.2
        have hki := hkk.out i (by omega)
        generalize hkg : kinds.getD i 0 = kg at *
        go_enter Try.func83, Try.ntmps83
        go_wp2_with fail
        refine (hW.out _ _).mono ?_
        rintro e1 w1 ⟨rfl, hf⟩
        rw [hwi]
        have hki1 := hf.cell hki id
        have c21 := hf.cell c2 id
        go_wp2_with fail
        go_ret
        exact ⟨by rw [HR.out, if_neg (by first | omega | simp | (simp; omega)), if_neg (by first | omega | simp | (simp; omega)), if_neg (by first | omega | simp | (simp; omega)), if_neg (by first | omega | simp | (simp; omega)), if_pos (by first | trivial | rfl | simp), hwi, Int.toNat_natCast, hkg]; simp, hf⟩
    have b6 : (fd == 6) = false := beq_false_of_ne h6
    by_cases h7 : fd = 7
    · subst h7
      go_enter Try.func83, Try.ntmps83
      go_wp2_with fail
      refine (hW.out _ _).mono ?_
      rintro e1 w1 ⟨rfl, hf⟩
      go_wp2_with fail
      go_ret
      exact ⟨by rw [HR.out, if_neg (by first | omega | simp | (simp; omega)), if_neg (by first | omega | simp | (simp; omega)), if_neg (by first | omega | simp | (simp; omega)), if_neg (by first | omega | simp | (simp; omega)), if_neg (by first | omega | simp | (simp; omega)), if_pos (by first | trivial | rfl | simp)]; rfl, hf⟩
    have b7 : (fd == 7) = false := beq_false_of_ne h7
    go_enter Try.func83, Try.ntmps83
    go_wp2_with fail
    go_ret
    exact ⟨by rw [HR.out, if_neg (by first | omega | simp | (simp; omega)), if_neg (by first | omega | simp | (simp; omega)), if_neg (by first | omega | simp | (simp; omega)), if_neg (by first | omega | simp | (simp; omega)), if_neg (by first | omega | simp | (simp; omega)), if_neg (by first | omega | simp | (simp; omega))]; rfl, by exact (by repeat (first | exact Fr.refl _ _ | assumption | refine Fr.drewN ?_ _ | refine Fr.drew ?_ | refine Fr.drewl ?_ | refine Fr.drewNl ?_ _ | refine Fr.alloc ?_ _))⟩

theorem allowed_c (h : Chk base P kinds f kind w c) (x : In) (la : Option Addr) (lc : Nat) : Calls Try.prog 84 #[.pointer (some ⟨c, 0, none⟩), .agg #[.int .i64 x.op, .int .i64 x.a, .int .i64 x.b, .int .i64 x.c, .slice la x.l.length lc]] w fun e w' =>
    e = .returned (.bool (allowedS kind x.op)) ∧ Fr Non w w' := by
  obtain ⟨fo, fc, co, cc, kb, kc, io, ic, h1, h2, h3⟩ := h
  have c4 := h1.cell (o := 4) rfl
  have hcl := h1.lt
  obtain ⟨op, a, b, c', l⟩ := x
  obtain ⟨r, hr⟩ : ∃ r, r = allowedS kind op := ⟨_, rfl⟩
  simp only
  rw [← hr]
  unfold allowedS at hr
  have HR := Lib.hid hr
  clear hr h1 h2 h3
  by_cases h1 : op = 1
  · subst h1
    go_enter Try.func84, Try.ntmps84
    go_wp2_with fail
    go_ret
    exact ⟨by rw [HR.out, if_pos (by first | trivial | rfl | simp)]; rfl, by exact (by repeat (first | exact Fr.refl _ _ | assumption | refine Fr.drewN ?_ _ | refine Fr.drew ?_ | refine Fr.drewl ?_ | refine Fr.drewNl ?_ _ | refine Fr.alloc ?_ _))⟩
  have b1 : (op == 1) = false := beq_false_of_ne h1
  by_cases h2 : op = 20 ∨ op = 21 ∨ op = 23 ∨ op = 24 ∨ op = 27 ∨ op = 28
  · rcases h2 with rfl | rfl | rfl | rfl | rfl | rfl
    all_goals go_enter Try.func84, Try.ntmps84
    all_goals go_wp2_with fail
    all_goals go_ret
    all_goals exact ⟨by rw [HR.out, if_neg (by simp), if_pos (by simp)]; rfl, by exact (by repeat (first | exact Fr.refl _ _ | assumption | refine Fr.drewN ?_ _ | refine Fr.drew ?_ | refine Fr.drewl ?_ | refine Fr.drewNl ?_ _ | refine Fr.alloc ?_ _))⟩
  have b20 : (op == 20) = false := beq_false_of_ne (by omega)
  have b21 : (op == 21) = false := beq_false_of_ne (by omega)
  have b23 : (op == 23) = false := beq_false_of_ne (by omega)
  have b24 : (op == 24) = false := beq_false_of_ne (by omega)
  have b27 : (op == 27) = false := beq_false_of_ne (by omega)
  have b28 : (op == 28) = false := beq_false_of_ne (by omega)
  by_cases h3 : op = 29
  · subst h3
    go_enter Try.func84, Try.ntmps84
    go_wp2_with fail
    go_ret
    exact ⟨by rw [HR.out, if_neg (by simp), if_neg (by simp), if_pos (by first | trivial | rfl | simp)]; rfl, by exact (by repeat (first | exact Fr.refl _ _ | assumption | refine Fr.drewN ?_ _ | refine Fr.drew ?_ | refine Fr.drewl ?_ | refine Fr.drewNl ?_ _ | refine Fr.alloc ?_ _))⟩
  have b29 : (op == 29) = false := beq_false_of_ne h3
  go_enter Try.func84, Try.ntmps84
  go_wp2_with fail
  go_ret
  exact ⟨by rw [HR.out, if_neg h1, if_neg h2, if_neg h3]; rfl, by exact (by repeat (first | exact Fr.refl _ _ | assumption | refine Fr.drewN ?_ _ | refine Fr.drew ?_ | refine Fr.drewl ?_ | refine Fr.drewNl ?_ _ | refine Fr.alloc ?_ _))⟩

set_option maxRecDepth 100000 in
set_option maxHeartbeats 400000 in
theorem coroutine_c (w : World) (kb kc : Nat) (ck : ∀ i : Nat, i < kinds.length → w.cell? ⟨kb, i, none⟩ = some (.int .i64 (kinds.getD i 0))) (x : Cr) :
    Calls Try.prog 48 #[.slice (some ⟨kb, 0, none⟩) kinds.length kc, .agg #[.string x.name, .int .i64 x.resume, .int .i64 x.cancel, .int .i64 x.words, .int .i64 x.args]] w fun e w' => e = .returned (.bool (coroutineS kinds x)) ∧ Fr Non w w' := by
  obtain ⟨nm, rs, cn, wd, ar⟩ := x
  obtain ⟨r, hr⟩ : ∃ r, r = coroutineS kinds ⟨nm, rs, cn, wd, ar⟩ := ⟨_, rfl⟩
  rw [← hr]
  unfold coroutineS at hr
  simp only at hr ⊢
  have HR := Lib.hid hr
  have HC := Lib.hid ck
  clear hr ck
  have hW := Lib.hid fun w1 n k => within_c w1 n k
  generalize hkl : kinds.length = kl at *
  cases h1 : withinS rs kl with
  | false =>
    go_enter Try.func48, Try.ntmps48
    go_wp2_with fail
    refine (hW.out _ _ _).mono ?_
    rintro e1 w1 ⟨rfl, hf⟩
    rw [h1]
    have hf1 : Fr Non w w1 := Fr.trans (by exact (by repeat (first | exact Fr.refl _ _ | assumption | refine Fr.drewN ?_ _ | refine Fr.drew ?_ | refine Fr.drewl ?_ | refine Fr.drewNl ?_ _ | refine Fr.alloc ?_ _))) hf
    clear hf
    go_wp2_with fail
    go_ret
    exact ⟨by rw [HR.out, h1]; rfl, hf1⟩
  | true =>
    cases h2 : withinS cn kl with
    | false =>
      go_enter Try.func48, Try.ntmps48
      go_wp2_with fail
      refine (hW.out _ _ _).mono ?_
      rintro e1 w1 ⟨rfl, hf⟩
      rw [h1]
      have hf1 : Fr Non w w1 := Fr.trans (by exact (by repeat (first | exact Fr.refl _ _ | assumption | refine Fr.drewN ?_ _ | refine Fr.drew ?_ | refine Fr.drewl ?_ | refine Fr.drewNl ?_ _ | refine Fr.alloc ?_ _))) hf
      have rx : Row w1 w.heap.size 84 [.string nm, .int .i64 rs, .int .i64 cn, .int .i64 wd, .int .i64 ar] := hf.row (by exact Row.new' rfl) id
      obtain ⟨x0, x1, x2, x3, x4, xz⟩ := row5 rx
      clear hf rx
      go_wp2_with fail
      refine (hW.out _ _ _).mono ?_
      rintro e1 w2 ⟨rfl, hf⟩
      rw [h2]
      have hf2 := hf1.trans hf
      clear hf hf1
      go_wp2_with fail
      go_ret
      exact ⟨by rw [HR.out, h1, h2]; rfl, hf2⟩
    | true =>
      have h2' := h2
      unfold withinS at h2'
      simp only [Bool.and_eq_true, decide_eq_true_eq] at h2'
      obtain ⟨i, rfl⟩ := Int.eq_ofNat_of_zero_le h2'.1
      have hi0 : (0 : Int) ≤ (i : Int) := h2'.1
      have hi1 : (i : Int) < (kl : Int) := h2'.2
      have hki := HC.out i (by omega)
      have hR := HR.out
      rw [h1, h2, Int.toNat_natCast] at hR
      clear HR
      generalize kinds.getD i 0 = kg at *
      have HR := Lib.hid hR
      clear hR h2'
      have hcase : (kg = 2 ∧ (kg == 2) = true) ∨ (kg ≠ 2 ∧ (kg == 2) = false) := by by_cases h : kg = 2 <;> simp [h]
      go_enter Try.func48, Try.ntmps48
      go_wp2_with fail
      refine (hW.out _ _ _).mono ?_
      rintro e1 w1 ⟨rfl, hf⟩
      rw [h1]
      have hf1 : Fr Non w w1 := Fr.trans (by exact (by repeat (first | exact Fr.refl _ _ | assumption | refine Fr.drewN ?_ _ | refine Fr.drew ?_ | refine Fr.drewl ?_ | refine Fr.drewNl ?_ _ | refine Fr.alloc ?_ _))) hf
      have rx : Row w1 w.heap.size 84 [.string nm, .int .i64 rs, .int .i64 i, .int .i64 wd, .int .i64 ar] := hf.row (by exact Row.new' rfl) id
      obtain ⟨x0, x1, x2, x3, x4, xz⟩ := row5 rx
      clear hf xz
      go_wp2_with fail
      refine (hW.out _ _ _).mono ?_
      rintro e1 w2 ⟨rfl, hf⟩
      rw [h2]
      have hf2 := hf1.trans hf
      have rx2 := hf.row rx id
      obtain ⟨y0, y1, y2, y3, y4, yz⟩ := row5 rx2
      have hki2 := hf2.cell hki id
      clear hf hf1 rx x0 x1 x2 x3 x4 yz hki
      rcases hcase with ⟨rfl, hk⟩ | ⟨hk0, hk⟩
      · have hw3 : (3 ≤ wd ∧ decide (3 ≤ wd) = true) ∨ (¬ 3 ≤ wd ∧ decide (3 ≤ wd) = false) := by by_cases h : 3 ≤ wd <;> simp [h]
        rcases hw3 with ⟨ha, hb⟩ | ⟨ha, hb⟩
        · have hw4 : (wd ≤ 1048576 ∧ decide (wd ≤ 1048576) = true) ∨ (¬ wd ≤ 1048576 ∧ decide (wd ≤ 1048576) = false) := by by_cases h : wd ≤ 1048576 <;> simp [h]
          rcases hw4 with ⟨hc, hd⟩ | ⟨hc, hd⟩
          · have hq1 : IntKind.i64.wrap (wd - 3) = wd - 3 := IntWalk.i64_in _ (by omega)
            have hq2 : IntKind.i64.wrap (wd - 3 + 1) = wd - 3 + 1 := IntWalk.i64_in _ (by omega)
            go_wp2_with fail
            refine (hW.out _ _ _).mono ?_
            rintro e1 w3 ⟨rfl, hf⟩
            have hf3 := hf2.trans hf
            clear hf hf2
            go_wp2_with fail
            go_ret
            exact ⟨by rw [HR.out, hb, hd]; simp, hf3⟩
          · go_wp2_with fail
            go_ret
            exact ⟨by rw [HR.out, hb, hd]; simp, hf2⟩
        · go_wp2_with fail
          go_ret
          exact ⟨by rw [HR.out, hb]; simp, hf2⟩
      · go_wp2_with fail
        go_ret
        refine ⟨?_, hf2⟩
        have : (kg != 2) = true := by simp [hk0]
        rw [HR.out, this]
        rfl
end

end Go.Proofs.Ytlbomnbpahmphaa

/- Walks: the checker's 'one' and what it calls. Condition: the checker's record lies there. -/
namespace Go.Proofs.Ytlbomnbpahmphaa
open Go.RowKit

section
variable {base : Nat} {P : Pr} {kinds : List Int} {f : List In} {kind : Int} {w : World} {c : Nat}

set_option maxRecDepth 100000 in
theorem one1_c (h : Chk base P kinds f kind w c) (q : Nat) (hq : w.cell? ⟨q, 0, none⟩ = some (.pointer (some ⟨c, 0, none⟩))) (n : Int) :
    Calls Try.prog 86 #[.int .i64 n, .pointer (some ⟨q, 0, none⟩)] w fun e w' => e = .returned (.bool (!withinS n f.length)) ∧ Fr Non w w' := by
  obtain ⟨fo, fc, co, cc, kb, kc, io, ic, h1, _⟩ := h
  have c3 := h1.cell (o := 3) rfl
  have hcl := h1.lt
  have hW := Lib.hid fun w1 k => within_c w1 n k
  have hql := World.block_lt_of_cell? w _ hq
  clear h1
  generalize f.length = fl at *
  go_enter Try.func86, Try.ntmps86
  go_wp2_with fail
  refine (hW.out _ _).mono ?_
  rintro e1 w1 ⟨rfl, hf⟩
  go_wp2_with fail
  go_ret
  exact ⟨rfl, hf⟩

set_option maxRecDepth 100000 in
set_option maxHeartbeats 1000000 in
theorem indexFunc_c (h : Chk base P kinds f kind w c) (q : Nat) (hq : w.cell? ⟨q, 0, none⟩ = some (.pointer (some ⟨c, 0, none⟩))) (l : List Int) (la : Option Addr) (lc : Nat) (hl : ArgsAt w la l) (hn : l.length ≤ 17592186043904) :
    Calls Try.prog 103 #[.slice la l.length lc, .func (.func 86) #[] #[.pointer (some ⟨q, 0, none⟩)]] w fun e w' => (∃ r : Int, e = .returned (.int .i64 r) ∧ decide (0 ≤ r) = !(l.all fun j => withinS j f.length)) ∧ Fr Non w w' := by
  have HH := Lib.hid (And.intro h (And.intro hq hl))
  clear h hq hl
  go_enter Try.func103, Try.ntmps103
  go_wp2_with fail
  go_loopw [8] (fun v8 wr => ∃ i : Nat, i ≤ l.length ∧ v8 = .int .i64 i ∧ (∀ j, j < i → ∀ n, l[j]? = some n → withinS n f.length = true) ∧ Fr Non w wr) (fun v8 _ => l.length - (intOf v8).toNat)
  case atStart => exact ⟨0, Nat.zero_le _, rfl, fun j hj => by omega, Fr.refl _ _⟩
  case round =>
    obtain ⟨i, hi, rfl, hall, hfr⟩ := hrel
    by_cases hil : i < l.length
    · have hil' : (i : Int) < (l.length : Int) := by omega
      have hi0 : (0 : Int) ≤ (i : Int) := by omega
      have hw1 : IntKind.i64.wrap ((i : Int) + 1) = (i : Int) + 1 := IntWalk.i64_in _ (by omega)
      obtain ⟨ab, ao, rfl, hcell⟩ := HH.out.2.2 i l[i] (List.getElem?_eq_getElem hil)
      have hcr := hfr.cell hcell id
      have hget := List.getElem?_eq_getElem hil
      have hO := Lib.hid (one1_c (HH.out.1.fr hfr) q (hfr.cell HH.out.2.1 id) l[i])
      have HX := Lib.hid (And.intro hall (And.intro hfr hget))
      clear hall hfr hcell
      generalize l[i] = li at *
      clear hget
      go_wp2_with fail
      refine hO.out.mono ?_
      rintro e1 w1 ⟨rfl, hf⟩
      have hf1 := HX.out.2.1.trans hf
      clear hf
      cases hwi : withinS li f.length with
      | true =>
        go_wp2_with fail
        refine ⟨⟨i + 1, by omega, rfl, ?_, hf1⟩, by simp [intOf]; omega⟩
        intro j hj n hn
        rcases Nat.lt_succ_iff_lt_or_eq.1 hj with h | rfl
        · exact HX.out.1 j h n hn
        · rw [HX.out.2.2] at hn
          cases hn
          exact hwi
      | false =>
        go_wp2_with fail
        go_ret
        refine ⟨⟨i, rfl, ?_⟩, hf1⟩
        have : (l.all fun j => withinS j f.length) = false := by
          rw [List.all_eq_false]
          exact ⟨li, List.mem_of_getElem? HX.out.2.2, by simp [hwi]⟩
        rw [this]
        simp
    · have : i = l.length := by omega
      subst this
      have HX := Lib.hid (And.intro hall hfr)
      clear hall
      go_wp2_with fail
      go_ret
      refine ⟨⟨-1, rfl, ?_⟩, HX.out.2⟩
      have : (l.all fun j => withinS j f.length) = true := by
        rw [List.all_eq_true]
        intro x hx
        obtain ⟨j, hj, rfl⟩ := List.getElem_of_mem hx
        exact HX.out.1 j hj _ (List.getElem?_eq_getElem hj)
      rw [this]
      simp

theorem containsFunc_c (h : Chk base P kinds f kind w c) (q : Nat) (hq : w.cell? ⟨q, 0, none⟩ = some (.pointer (some ⟨c, 0, none⟩))) (l : List Int) (la : Option Addr) (lc : Nat) (hl : ArgsAt w la l) (hn : l.length ≤ 17592186043904) :
    Calls Try.prog 85 #[.slice la l.length lc, .func (.func 86) #[] #[.pointer (some ⟨q, 0, none⟩)]] w fun e w' => e = .returned (.bool (!(l.all fun j => withinS j f.length))) ∧ Fr Non w w' := by
  have hI := Lib.hid (indexFunc_c h q hq l la lc hl hn)
  clear h hq hl
  generalize (l.all fun j => withinS j f.length) = r at *
  go_enter Try.func85, Try.ntmps85
  go_wp2_with fail
  refine hI.out.mono ?_
  rintro e1 w1 ⟨⟨k, rfl, hk⟩, hf⟩
  have HK := Lib.hid hk
  clear hk
  go_wp2_with fail
  go_ret
  exact ⟨by rw [← HK.out]; rfl, hf⟩
end

end Go.Proofs.Ytlbomnbpahmphaa
