/- Walk: the tiny program of layer 3. No condition. -/
import Derived.ChangeArms
import Derived.OpenShut
import Derived.Deep.Slices
import Derived.ProofKit
import Derived.SizedLaws
import Derived.Test.YtlbomnbpahmphaaSa21
import Derived.Test.YtlbomnbpahmphaaSa17
import Derived.Test.YtlbomnbpahmphaaSa05
import Derived.Test.YtlbomnbpahmphaaSa15
namespace Go.Proofs.Ytlbomnbpahmphaa
open Go.RowKit

def tinyP : Pr := ⟨[[⟨1, 1, 0, 0, []⟩, ⟨3, 2, 1, 0, []⟩, ⟨14, 2, 0, 0, [7]⟩, ⟨0, 3, 1, 0, []⟩, ⟨4, 1, 3, 0, []⟩, ⟨0, 4, 7, 0, []⟩, ⟨20, 4, 0, 0, []⟩, ⟨1, 1, 1, 0, []⟩, ⟨0, 4, 8, 0, []⟩, ⟨4, 1, 4, 0, []⟩, ⟨27, 0, 0, 0, []⟩], [⟨29, 0, 0, 0, []⟩]], [⟨⟨#[]⟩, 0, 1, 3, 0⟩]⟩

set_option maxRecDepth 100000 in
theorem tiny_at {W : World} {n : Nat} (r1 : Row W (n + 1) 3 [.int .i64 7]) (r2 : Row W (n + 1 + 1) 112 [.int .i64 1, .int .i64 1, .int .i64 0, .int .i64 0, .slice none 0 0, .int .i64 3, .int .i64 2, .int .i64 1, .int .i64 0, .slice none 0 0, .int .i64 14, .int .i64 2, .int .i64 0, .int .i64 0, .slice (some ⟨n + 1, 0, none⟩) 1 1, .int .i64 0, .int .i64 3, .int .i64 1, .int .i64 0, .slice none 0 0, .int .i64 4, .int .i64 1, .int .i64 3, .int .i64 0, .slice none 0 0, .int .i64 0, .int .i64 4, .int .i64 7, .int .i64 0, .slice none 0 0, .int .i64 20, .int .i64 4, .int .i64 0, .int .i64 0, .slice none 0 0, .int .i64 1, .int .i64 1, .int .i64 1, .int .i64 0, .slice none 0 0, .int .i64 0, .int .i64 4, .int .i64 8, .int .i64 0, .slice none 0 0, .int .i64 4, .int .i64 1, .int .i64 4, .int .i64 0, .slice none 0 0, .int .i64 27, .int .i64 0, .int .i64 0, .int .i64 0, .slice none 0 0]) (r3 : Row W (n + 1 + 1 + 1) 112 [.int .i64 29, .int .i64 0, .int .i64 0, .int .i64 0, .slice none 0 0]) (r4 : Row W (n + 1 + 1 + 1 + 1) 76 [.slice (some ⟨n + 1 + 1, 0, none⟩) 11 11, .slice (some ⟨n + 1 + 1 + 1, 0, none⟩) 1 1]) (r5 : Row W (n + 1 + 1 + 1 + 1 + 1) 84 [.string ⟨#[]⟩, .int .i64 0, .int .i64 1, .int .i64 3, .int .i64 0]) : PrAt W.heap.size tinyP W (.agg #[.slice (some ⟨n + 1 + 1 + 1 + 1, 0, none⟩) 2 2, .slice (some ⟨n + 1 + 1 + 1 + 1 + 1, 0, none⟩) 1 1]) := by
  have b1 := r1.lt
  have b2 := r2.lt
  have b3 := r3.lt
  have b4 := r4.lt
  have b5 := r5.lt
  refine ⟨⟨_, _, _, _, rfl, ?_, ?_⟩, ?_⟩
  · intro i f hi
    match i, hi with
    | 0, hi =>
      cases hi
      refine ⟨_, 0, _, _, rfl, ⟨b4, r4.cell rfl⟩, ?_⟩
      intro j x hx
      match j, hx with
      | 0, hx => cases hx; exact ⟨_, 0, none, 0, rfl, ⟨b2, r2.cell rfl⟩, ⟨b2, r2.cell rfl⟩, ⟨b2, r2.cell rfl⟩, ⟨b2, r2.cell rfl⟩, ⟨b2, r2.cell rfl⟩, fun i n h => by cases h⟩
      | 1, hx => cases hx; exact ⟨_, 0, none, 0, rfl, ⟨b2, r2.cell rfl⟩, ⟨b2, r2.cell rfl⟩, ⟨b2, r2.cell rfl⟩, ⟨b2, r2.cell rfl⟩, ⟨b2, r2.cell rfl⟩, fun i n h => by cases h⟩
      | 2, hx => cases hx; exact ⟨_, 0, _, 1, rfl, ⟨b2, r2.cell rfl⟩, ⟨b2, r2.cell rfl⟩, ⟨b2, r2.cell rfl⟩, ⟨b2, r2.cell rfl⟩, ⟨b2, r2.cell rfl⟩, fun i n h => by
          match i, h with
          | 0, h => cases h; exact ⟨_, 0, rfl, b1, r1.cell rfl⟩⟩
      | 3, hx => cases hx; exact ⟨_, 0, none, 0, rfl, ⟨b2, r2.cell rfl⟩, ⟨b2, r2.cell rfl⟩, ⟨b2, r2.cell rfl⟩, ⟨b2, r2.cell rfl⟩, ⟨b2, r2.cell rfl⟩, fun i n h => by cases h⟩
      | 4, hx => cases hx; exact ⟨_, 0, none, 0, rfl, ⟨b2, r2.cell rfl⟩, ⟨b2, r2.cell rfl⟩, ⟨b2, r2.cell rfl⟩, ⟨b2, r2.cell rfl⟩, ⟨b2, r2.cell rfl⟩, fun i n h => by cases h⟩
      | 5, hx => cases hx; exact ⟨_, 0, none, 0, rfl, ⟨b2, r2.cell rfl⟩, ⟨b2, r2.cell rfl⟩, ⟨b2, r2.cell rfl⟩, ⟨b2, r2.cell rfl⟩, ⟨b2, r2.cell rfl⟩, fun i n h => by cases h⟩
      | 6, hx => cases hx; exact ⟨_, 0, none, 0, rfl, ⟨b2, r2.cell rfl⟩, ⟨b2, r2.cell rfl⟩, ⟨b2, r2.cell rfl⟩, ⟨b2, r2.cell rfl⟩, ⟨b2, r2.cell rfl⟩, fun i n h => by cases h⟩
      | 7, hx => cases hx; exact ⟨_, 0, none, 0, rfl, ⟨b2, r2.cell rfl⟩, ⟨b2, r2.cell rfl⟩, ⟨b2, r2.cell rfl⟩, ⟨b2, r2.cell rfl⟩, ⟨b2, r2.cell rfl⟩, fun i n h => by cases h⟩
      | 8, hx => cases hx; exact ⟨_, 0, none, 0, rfl, ⟨b2, r2.cell rfl⟩, ⟨b2, r2.cell rfl⟩, ⟨b2, r2.cell rfl⟩, ⟨b2, r2.cell rfl⟩, ⟨b2, r2.cell rfl⟩, fun i n h => by cases h⟩
      | 9, hx => cases hx; exact ⟨_, 0, none, 0, rfl, ⟨b2, r2.cell rfl⟩, ⟨b2, r2.cell rfl⟩, ⟨b2, r2.cell rfl⟩, ⟨b2, r2.cell rfl⟩, ⟨b2, r2.cell rfl⟩, fun i n h => by cases h⟩
      | 10, hx => cases hx; exact ⟨_, 0, none, 0, rfl, ⟨b2, r2.cell rfl⟩, ⟨b2, r2.cell rfl⟩, ⟨b2, r2.cell rfl⟩, ⟨b2, r2.cell rfl⟩, ⟨b2, r2.cell rfl⟩, fun i n h => by cases h⟩
    | 1, hi =>
      cases hi
      refine ⟨_, 0, _, _, rfl, ⟨b4, r4.cell rfl⟩, ?_⟩
      intro j x hx
      match j, hx with
      | 0, hx => cases hx; exact ⟨_, 0, none, 0, rfl, ⟨b3, r3.cell rfl⟩, ⟨b3, r3.cell rfl⟩, ⟨b3, r3.cell rfl⟩, ⟨b3, r3.cell rfl⟩, ⟨b3, r3.cell rfl⟩, fun i n h => by cases h⟩
  · intro _
    refine ⟨_, 0, rfl, fun j u hu => ?_⟩
    have hj := (List.getElem?_eq_some_iff.1 hu).1
    match j, hu with
    | 0, hu => cases hu; exact ⟨b5, r5.cell rfl⟩
    | 1, hu => cases hu; exact ⟨b5, r5.cell rfl⟩
    | 2, hu => cases hu; exact ⟨b5, r5.cell rfl⟩
    | 3, hu => cases hu; exact ⟨b5, r5.cell rfl⟩
    | 4, hu => cases hu; exact ⟨b5, r5.cell rfl⟩
  · decide


theorem tiny_res {W : World} {n : Nat} {x0 x1 : Value} (r0 : Row W n 25 [x0, x1]) (a : Array Value) (ha : a.getD 0 undef = ptr n) : (results Try.f27 a).run Try.prog W = .ok (.agg #[x0, x1]) W := by
  have q0 := r0.cell (o := 0) rfl
  have q1 := r0.cell (o := 1) rfl
  have ha2 : a[0]?.getD undef = .pointer (some ⟨n, 0, none⟩) := by rw [← Array.getD_eq_getD_getElem?]; exact ha
  simp [results, Try.results27, go_sem, ha2, q0, q1]

set_option maxRecDepth 100000 in
set_option maxHeartbeats 1000000 in
theorem tiny_c (w : World) : Calls Try.prog 27 #[] w fun e w' => ∃ v, e = .returned v ∧ PrAt w'.heap.size tinyP w' v ∧ Fr Non w w' := by
  go_enter Try.func27, Try.ntmps27
  go_wp2_with fail
  refine bodyPost_ret (v := .agg #[.slice (some ⟨w.heap.size + 1 + 1 + 1 + 1, 0, none⟩) 2 2, .slice (some ⟨w.heap.size + 1 + 1 + 1 + 1 + 1, 0, none⟩) 1 1]) ?_ rfl ?_
  · exact tiny_res (n := w.heap.size) ((((((Row.new' rfl).alloc _).alloc _).alloc _).alloc _).alloc _) _ rfl
  · refine ⟨_, rfl, tiny_at (n := w.heap.size) ?_ ?_ ?_ ?_ ?_, ?_⟩
    · exact ((((Row.new' (by simp)).alloc _).alloc _).alloc _).alloc _
    · exact (((Row.new' (by simp)).alloc _).alloc _).alloc _
    · exact ((Row.new' (by simp)).alloc _).alloc _
    · exact (Row.new' (by simp)).alloc _
    · exact Row.new' (by simp)
    · exact (by repeat (first | exact Fr.refl _ _ | assumption | refine Fr.drewN ?_ _ | refine Fr.drew ?_ | refine Fr.drewl ?_ | refine Fr.drewNl ?_ _ | refine Fr.alloc ?_ _))

end Go.Proofs.Ytlbomnbpahmphaa

/- Walk: 'works' of the laws of layer 3. No condition. -/
namespace Go.Proofs.Ytlbomnbpahmphaa
open Go.RowKit

def tiny1 : St := (startS tinyP (St.new 9) 0 []).1
def tiny2 : St := (pollS tinyP tiny1 ⟨true, 1, 0⟩ 1 50).2
def tiny3 : St := (pollS tinyP tiny2 ⟨true, 1, 0⟩ 1 50).2
def tiny4 : St := (cancelS tinyP tiny3 ⟨true, 1, 0⟩ 1 50).2
theorem tiny_valid : validS tinyP = true := by kernel_rfl
theorem tiny_start : startS tinyP (St.new 9) 0 [] = (tiny1, ⟨true, 1, 0⟩, 2, 0) := by kernel_rfl
theorem tiny_poll1 : pollS tinyP tiny1 ⟨true, 1, 0⟩ 1 50 = ((0, 7), tiny2) ∧ tiny2.fuel = 43 := ⟨by kernel_rfl, by kernel_rfl⟩
theorem tiny_poll2 : pollS tinyP tiny2 ⟨true, 1, 0⟩ 1 50 = ((2, 8), tiny3) := by kernel_rfl
theorem tiny_cancel : cancelS tinyP tiny3 ⟨true, 1, 0⟩ 1 50 = ((2, 0), tiny4) := by kernel_rfl
theorem tiny_live : live tiny4.mem.blocks = 0 := by kernel_rfl
theorem tiny_few : FewB tiny1 50 ∧ FewB tiny2 50 ∧ FewB tiny3 50 := by
  have h : (tiny1.told.length = 0 ∧ tiny2.told.length = 0 ∧ tiny3.told.length = 0) ∧ (tiny1.mem.blocks.length = 1 ∧ tiny2.mem.blocks.length = 1 ∧ tiny3.mem.blocks.length = 1) := ⟨⟨by kernel_rfl, by kernel_rfl, by kernel_rfl⟩, ⟨by kernel_rfl, by kernel_rfl, by kernel_rfl⟩⟩
  unfold FewB
  omega
theorem tiny_lab : ∀ f ∈ tinyP.funs, ∀ x ∈ f, x.l.length ≤ 17592186043904 := by
  intro f hf x hx
  have : ∀ f ∈ tinyP.funs, ∀ x ∈ f, x.l.length ≤ 1 := by decide +kernel
  have := this f hf x hx
  omega

theorem new_ok {base : Nat} {P : Pr} {w : World} {v : Value} (h : PrAt base P w v) (hb : base ≤ w.heap.size) (hv : validS P = true) (words : Int) :
    Calls Try.prog 11 #[v, .int .i64 words] w fun e w' => ∃ m A, e = .returned (.tuple #[.pointer (some ⟨m, 0, none⟩), .int .i64 0]) ∧ Fr Non w w' ∧ MInv base P A w' m (St.new words) ∧ ∀ x, A x → w.heap.size ≤ x :=
  (new_m h hb words).mono fun e w' ⟨hf, hm⟩ => by
    rw [if_pos hv] at hm
    obtain ⟨m, A, rfl, hI, hA⟩ := hm
    exact ⟨m, A, rfl, hf, hI, hA⟩
theorem new_no {base : Nat} {P : Pr} {w : World} {v : Value} (h : PrAt base P w v) (hb : base ≤ w.heap.size) (hv : ¬ validS P = true) (words : Int) :
    Calls Try.prog 11 #[v, .int .i64 words] w fun e w' => e = .returned (.tuple #[.pointer none, .int .i64 30]) ∧ Fr Non w w' :=
  (new_m h hb words).mono fun e w' ⟨hf, hm⟩ => by
    rw [if_neg hv] at hm
    exact ⟨hm, hf⟩

set_option maxRecDepth 100000 in
set_option maxHeartbeats 2000000 in
theorem works03_c (w : World) : Calls Try.prog 9 #[] w fun e w' => e = .returned (.bool true) ∧ Fr Non w w' := by
  go_enter Try.func9, Try.ntmps9
  go_wp2_with fail
  refine (tiny_c _).mono ?_
  rintro e1 w1 ⟨v, rfl, hP, hf1⟩
  have HF1 := Lib.hid hf1
  clear hf1
  have hN := new_ok hP (Nat.le_refl _) tiny_valid 9
  have HN := Lib.hid hN
  clear hN hP
  go_wp2_with fail
  refine HN.out.mono ?_
  rintro e2 w2 ⟨m, A, rfl, hf2, hI, hA⟩
  have hs2 := hf2.size
  have hs1 := HF1.out.size
  have hX : Fr (fun x => w.heap.size ≤ x) w w2 := (HF1.out.trans hf2).mono fun _ _ h => h.elim
  have hAw : ∀ x, A x → w.heap.size ≤ x := fun x hx => by have := hA x hx; omega
  have hlt := hI.lt
  have hst := start_i hI (by show (0 : Nat) < 1000000; decide) 0 [] (valid_args tiny_valid) none 0 (fun i n h => by simp at h)
  rw [tiny_start] at hst
  have HS := Lib.hid hst
  have HX := Lib.hid (And.intro hX (And.intro hAw hlt))
  clear hI hA hf2 hst hX hAw hlt
  go_wp2_with fail
  refine HS.out.mono ?_
  rintro e3 w3 ⟨rfl, A3, hI3, hA3, hF3⟩
  have hs3 := hF3.size
  have hlt3 := hI3.lt
  have H3 := Lib.hid (And.intro hI3 (And.intro (HX.out.1.then hF3 fun x hx e => HX.out.2.1 x e) (And.intro (show ∀ x, A3 x → w.heap.size ≤ x from fun x hx => by rcases hA3 x hx with h | h; exact HX.out.2.1 x h; omega) hlt3)))
  clear hI3 hA3 hF3 HS HX hlt3
  go_wp2_with fail
  have hfW : Fr Non w3 ((w3.alloc (.cells #[.bool true, .int .i64 1, .int .i64 0] 38)).alloc (.cells #[.int .i64 2, .int .i64 0] 41)) := by exact (by repeat (first | exact Fr.refl _ _ | assumption | refine Fr.drewN ?_ _ | refine Fr.drew ?_ | refine Fr.drewl ?_ | refine Fr.drewNl ?_ _ | refine Fr.alloc ?_ _))
  have r3 : Row ((w3.alloc (.cells #[.bool true, .int .i64 1, .int .i64 0] 38)).alloc (.cells #[.int .i64 2, .int .i64 0] 41)) w3.heap.size 38 [.bool true, .int .i64 1, .int .i64 0] := (Row.new' rfl).alloc _
  have r4 : Row ((w3.alloc (.cells #[.bool true, .int .i64 1, .int .i64 0] 38)).alloc (.cells #[.int .i64 2, .int .i64 0] 41)) (w3.heap.size + 1) 41 [.int .i64 2, .int .i64 0] := Row.new' (by simp)
  have hsW : ((w3.alloc (.cells #[.bool true, .int .i64 1, .int .i64 0] 38)).alloc (.cells #[.int .i64 2, .int .i64 0] 41)).heap.size = w3.heap.size + 1 + 1 := by simp
  generalize ((w3.alloc (.cells #[.bool true, .int .i64 1, .int .i64 0] 38)).alloc (.cells #[.int .i64 2, .int .i64 0] 41)) = V3 at *
  have hPo := poll_m (H3.out.1.frN hfW) (valid_good tiny_valid tiny_lab) true 1 0 1 50 tiny_few.1
  rw [tiny_poll1.1] at hPo
  simp only [tiny_poll1.2] at hPo
  refine hPo.mono ?_
  clear hPo
  rintro e4 w4 ⟨rfl, A4, hI4, hA4, hF4⟩
  have hs4 := hF4.size
  have n3 : ¬ A3 w3.heap.size := fun e => by have := H3.out.2.2.2 _ e; omega
  have n4 : ¬ A3 (w3.heap.size + 1) := fun e => by have := H3.out.2.2.2 _ e; omega
  have r3 := hF4.row r3 n3
  have r4 := hF4.row r4 n4
  have m3 : ¬ A4 w3.heap.size := fun e => by rcases hA4 _ e with h | h; exact n3 h; omega
  have m4 : ¬ A4 (w3.heap.size + 1) := fun e => by rcases hA4 _ e with h | h; exact n4 h; omega
  have H4 := Lib.hid (And.intro hI4 (And.intro (H3.out.2.1.then ((hfW.mono fun _ _ h => h.elim : Fr A3 w3 V3).trans hF4) fun x hx e => H3.out.2.2.1 x e) (And.intro (show ∀ x, A4 x → w.heap.size ≤ x from fun x hx => by rcases hA4 x hx with h | h; exact H3.out.2.2.1 x h; omega) (And.intro hI4.lt (And.intro m3 (And.intro m4 r4))))))
  generalize w3.heap.size = g3 at *
  obtain ⟨q0, q1, q2, qz⟩ := row3 r3
  have lt3 := r3.lt
  have ne3 : ¬ g3 = w4.heap.size := by omega
  clear hI4 hA4 hF4 H3 n3 n4 m3 m4 r4 hfW hsW
  go_wp2_with fail
  have hfW : Fr Non w4 (w4.alloc (.cells #[.int .i64 0, .int .i64 7] 41)) := by exact (by repeat (first | exact Fr.refl _ _ | assumption | refine Fr.drewN ?_ _ | refine Fr.drew ?_ | refine Fr.drewl ?_ | refine Fr.drewNl ?_ _ | refine Fr.alloc ?_ _))
  have r3 := hfW.row r3 id
  have r4 := hfW.row H4.out.2.2.2.2.2.2 id
  have r5 : Row (w4.alloc (.cells #[.int .i64 0, .int .i64 7] 41)) w4.heap.size 41 [.int .i64 0, .int .i64 7] := Row.new' rfl
  have hsW : (w4.alloc (.cells #[.int .i64 0, .int .i64 7] 41)).heap.size = w4.heap.size + 1 := by simp
  generalize (w4.alloc (.cells #[.int .i64 0, .int .i64 7] 41)) = V4 at *
  have hPo := poll_m (H4.out.1.frN hfW) (valid_good tiny_valid tiny_lab) true 1 0 1 50 tiny_few.2.1
  rw [tiny_poll2] at hPo
  refine hPo.mono ?_
  clear hPo q0 q1 q2 qz
  generalize tiny3.fuel = fu3
  rintro e5 w5 ⟨rfl, A5, hI5, hA5, hF5⟩
  have hs5 := hF5.size
  have hl4 := H4.out.2.2.2.1
  have n5 : ¬ A4 w4.heap.size := fun e => by have := hl4 _ e; omega
  have r3 := hF5.row r3 H4.out.2.2.2.2.1
  have r4 := hF5.row r4 H4.out.2.2.2.2.2.1
  have r5 := hF5.row r5 n5
  have lt3 := r3.lt
  have lt4 := r4.lt
  have k3 : g3 < w4.heap.size := by omega
  have m3 : ¬ A5 g3 := fun e => by rcases hA5 _ e with h | h; exact H4.out.2.2.2.2.1 h; omega
  have m4 : ¬ A5 (g3 + 1) := fun e => by rcases hA5 _ e with h | h; exact H4.out.2.2.2.2.2.1 h; omega
  have m5 : ¬ A5 w4.heap.size := fun e => by rcases hA5 _ e with h | h; exact n5 h; omega
  have H5 := Lib.hid (And.intro hI5 (And.intro (H4.out.2.1.then ((hfW.mono fun _ _ h => h.elim : Fr A4 w4 V4).trans hF5) fun x hx e => H4.out.2.2.1 x e) (And.intro (show ∀ x, A5 x → w.heap.size ≤ x from fun x hx => by rcases hA5 x hx with h | h; exact H4.out.2.2.1 x h; omega) (And.intro hI5.lt (And.intro m3 (And.intro m4 (And.intro m5 (And.intro r4 r5))))))))
  generalize w4.heap.size = g4 at *
  obtain ⟨q0, q1, q2, qz⟩ := row3 r3
  have ne3 : ¬ g3 = w5.heap.size := by omega
  clear hI5 hA5 hF5 H4 n5 m3 m4 m5 r4 r5 hfW hsW hl4
  go_wp2_with fail
  have hfW : Fr Non w5 (w5.alloc (.cells #[.int .i64 2, .int .i64 8] 41)) := by exact (by repeat (first | exact Fr.refl _ _ | assumption | refine Fr.drewN ?_ _ | refine Fr.drew ?_ | refine Fr.drewl ?_ | refine Fr.drewNl ?_ _ | refine Fr.alloc ?_ _))
  have r4 := hfW.row H5.out.2.2.2.2.2.2.2.1 id
  have r5 := hfW.row H5.out.2.2.2.2.2.2.2.2 id
  have r7 : Row (w5.alloc (.cells #[.int .i64 2, .int .i64 8] 41)) w5.heap.size 41 [.int .i64 2, .int .i64 8] := Row.new' rfl
  have hsW : (w5.alloc (.cells #[.int .i64 2, .int .i64 8] 41)).heap.size = w5.heap.size + 1 := by simp
  generalize (w5.alloc (.cells #[.int .i64 2, .int .i64 8] 41)) = V5 at *
  have hPo := cancel_m (H5.out.1.frN hfW) (valid_good tiny_valid tiny_lab) true 1 0 1 50 tiny_few.2.2
  rw [tiny_cancel] at hPo
  refine hPo.mono ?_
  clear hPo q0 q1 q2 qz
  generalize tiny4.fuel = fu4
  rintro e6 w6 ⟨rfl, A6, hI6, hA6, hF6⟩
  have hs6 := hF6.size
  have hl5 := H5.out.2.2.2.1
  have n7 : ¬ A5 w5.heap.size := fun e => by have := hl5 _ e; omega
  have r4 := hF6.row r4 H5.out.2.2.2.2.2.1
  have r5 := hF6.row r5 H5.out.2.2.2.2.2.2.1
  have r7 := hF6.row r7 n7
  have hfin : Fr (fun x => w.heap.size ≤ x) w w6 := H5.out.2.1.then ((hfW.mono fun _ _ h => h.elim : Fr A5 w5 V5).trans hF6) fun x hx e => H5.out.2.2.1 x e
  have hlv := Lib.hid fun w7 (f : Fr Non w6 w7) => live_m (hI6.frN f)
  rw [tiny_live] at hlv
  have H6 := Lib.hid hfin
  generalize w5.heap.size = g5 at *
  obtain ⟨a0, a1, az⟩ := row2 r4
  obtain ⟨b0, b1, bz⟩ := row2 r5
  obtain ⟨c0, c1, cz⟩ := row2 r7
  have lt4 := r4.lt
  have lt5 := r5.lt
  have lt7 := r7.lt
  have k4 : ¬ g3 + 1 = w6.heap.size := by omega
  have k5 : ¬ g4 = w6.heap.size := by omega
  have k7 : ¬ g5 = w6.heap.size := by omega
  clear hI6 hA6 hF6 H5 n7 r3 r4 r5 r7 hfW hsW hl5 hfin
  go_wp2_with fail
  refine (hlv.out _ (by exact (by repeat (first | exact Fr.refl _ _ | assumption | refine Fr.drewN ?_ _ | refine Fr.drew ?_ | refine Fr.drewl ?_ | refine Fr.drewNl ?_ _ | refine Fr.alloc ?_ _)))).mono ?_
  rintro e7 w7 ⟨rfl, hf7⟩
  have H7 := Lib.hid (show Fr Non w w7 from ((H6.out.then (by exact Fr.trans (by exact (by repeat (first | exact Fr.refl _ _ | assumption | refine Fr.drewN ?_ _ | refine Fr.drew ?_ | refine Fr.drewl ?_ | refine Fr.drewNl ?_ _ | refine Fr.alloc ?_ _))) hf7 : Fr Non w6 w7) fun _ _ h => h.elim).mono fun x hx h => by omega))
  clear hf7
  go_wp2_with fail
  go_ret
  exact ⟨rfl, H7.out⟩

end Go.Proofs.Ytlbomnbpahmphaa

/- Walks: the laws of layer 3: two rows of events that are the same; whether a program is more than is looked at; a frame's word. Conditions: what is read lies there. -/
namespace Go.Proofs.Ytlbomnbpahmphaa
open Go.RowKit

/-- Events, as they are read. -/
def Evs (w : World) (ao : Option Addr) (l : List Ev) : Prop := 0 < l.length → ∃ b o, ao = some ⟨b, o, none⟩ ∧ ∀ (j : Nat) (u : Value), (evs l)[j]? = some u → w.cell? ⟨b, o + j, none⟩ = some u
theorem Evs.fr {w w' : World} {ao : Option Addr} {l : List Ev} {E : Nat → Prop} (h : Evs w ao l) (f : Fr E w w') (hE : ∀ a, ao = some a → ¬ E a.block) : Evs w' ao l := fun hl => by
  obtain ⟨b, o, e, hc⟩ := h hl
  exact ⟨b, o, e, fun j u hu => f.cell (hc j u hu) (hE _ e)⟩
theorem Own.evs {w : World} {ao : Option Addr} {n cap : Nat} {l : List Ev} (h : Own w (.slice ao n cap) 63 4 l.length (evs l)) : n = l.length ∧ Evs w ao l := by
  obtain ⟨ao', cap', e, _, _, h1, _⟩ := h.form
  cases e
  refine ⟨rfl, fun hl => ?_⟩
  obtain ⟨g, rfl⟩ := h1 hl
  exact ⟨g, 0, rfl, fun j u hu => by rw [Nat.zero_add]; exact h.cell rfl hu⟩

theorem evs_get' {l : List Ev} {i : Nat} {x : Ev} (h : l[i]? = some x) :
    (evs l)[i * 4]? = some (.int .i64 x.kind) ∧ (evs l)[i * 4 + 1]? = some (.int .i64 x.task) ∧ (evs l)[i * 4 + 2]? = some (.int .i64 x.a) ∧ (evs l)[i * 4 + 3]? = some (.int .i64 x.n) := by
  induction l generalizing i with
  | nil => simp at h
  | cons y l ih =>
    cases i with
    | zero => simp at h; subst h; simp [evs, Ev.cs]
    | succ i =>
      have := ih (by simpa using h)
      have e : evs (y :: l) = .int .i64 y.kind :: .int .i64 y.task :: .int .i64 y.a :: .int .i64 y.n :: evs l := rfl
      rw [e, show (i + 1) * 4 = i * 4 + 4 by omega]
      exact this

set_option maxRecDepth 100000 in
set_option maxHeartbeats 400000 in
theorem ltold_c (w : World) (ao bo : Option Addr) (ac bc : Nat) (l : List Ev) (ha : Evs w ao l) (hb : Evs w bo l) (hl : l.length ≤ 1000000000) :
    Calls Try.prog 16 #[.slice ao l.length ac, .slice bo l.length bc] w fun e w' => e = .returned (.bool true) ∧ Fr Non w w' := by
  have h0l : (0 : Int) ≤ (l.length : Int) := by omega
  have HH := Lib.hid (And.intro ha hb)
  clear ha hb
  go_enter Try.func16, Try.ntmps16
  go_wp2_with fail
  go_loopw [5] (fun v5 wr => ∃ i : Nat, i ≤ l.length ∧ v5 = .int .i64 i ∧ Fr Non w wr) (fun v5 _ => l.length - (intOf v5).toNat)
  case atStart => exact ⟨0, by omega, rfl, by exact (by repeat (first | exact Fr.refl _ _ | assumption | refine Fr.drewN ?_ _ | refine Fr.drew ?_ | refine Fr.drewl ?_ | refine Fr.drewNl ?_ _ | refine Fr.alloc ?_ _))⟩
  case round =>
    obtain ⟨i, hi, rfl, hf⟩ := hrel
    by_cases hlt : i < l.length
    · obtain ⟨x, hx⟩ : ∃ x, l[i]? = some x := ⟨l[i], List.getElem?_eq_getElem hlt⟩
      obtain ⟨sb, so, rfl, hac⟩ := HH.out.1 (by omega)
      obtain ⟨tb, to, rfl, hbc⟩ := HH.out.2 (by omega)
      obtain ⟨g0, g1, g2, g3⟩ := evs_get' hx
      have e0 := hf.cell (hac _ _ g0) id
      have e1 := hf.cell (hac _ _ g1) id
      have e2 := hf.cell (hac _ _ g2) id
      have e3 := hf.cell (hac _ _ g3) id
      have t0 := hf.cell (hbc _ _ g0) id
      have t1 := hf.cell (hbc _ _ g1) id
      have t2 := hf.cell (hbc _ _ g2) id
      have t3 := hf.cell (hbc _ _ g3) id
      rw [← Nat.add_assoc] at e1 e2 e3 t1 t2 t3
      clear g0 g1 g2 g3 hac hbc hx
      have hi0 : (0 : Int) ≤ (i : Int) := by omega
      have hi1 : (i : Int) < (l.length : Int) := by omega
      go_wp2_with fail
      go_quiet (fail)
      go_wp2_with fail
      exact ⟨⟨i + 1, by omega, by simp, by exact (by repeat (first | exact Fr.refl _ _ | assumption | refine Fr.drewN ?_ _ | refine Fr.drew ?_ | refine Fr.drewl ?_ | refine Fr.drewNl ?_ _ | refine Fr.alloc ?_ _))⟩, by simp [intOf]; omega⟩
    · obtain rfl : i = l.length := by omega
      go_wp2_with fail
      go_ret
      exact ⟨rfl, by exact (by repeat (first | exact Fr.refl _ _ | assumption | refine Fr.drewN ?_ _ | refine Fr.drew ?_ | refine Fr.drewl ?_ | refine Fr.drewNl ?_ _ | refine Fr.alloc ?_ _))⟩

/-- A call that returns a bool, whichever. -/
def IsBool (e : Ending) : Prop := ∃ b : Bool, e = .returned (.bool b)
theorem IsBool.mk (b : Bool) : IsBool (.returned (.bool b)) := ⟨b, rfl⟩

set_option maxRecDepth 100000 in
set_option maxHeartbeats 400000 in
theorem over03_c {base : Nat} {P : Pr} {w : World} {v : Value} (h : PrAt base P w v) :
    Calls Try.prog 10 #[v] w fun e w' => IsBool e ∧ Fr Non w w' := by
  obtain ⟨⟨fo, fc, co, cc, rfl, h1, h2⟩, h3⟩ := h
  have HH := Lib.hid (And.intro h1 h2)
  clear h1 h2 h3
  have h0f : (0 : Int) ≤ (P.funs.length : Int) := by omega
  have h0c : (0 : Int) ≤ (P.cos.length : Int) := by omega
  generalize hn : P.funs.length = n at *
  generalize hk : P.cos.length = k at *
  by_cases hf60 : (60 : Int) < n
  · have hd : decide ((60 : Int) < n) = true := decide_eq_true hf60
    go_enter Try.func10, Try.ntmps10
    go_wp2_with fail
    go_ret
    exact ⟨IsBool.mk _, by exact (by repeat (first | exact Fr.refl _ _ | assumption | refine Fr.drewN ?_ _ | refine Fr.drew ?_ | refine Fr.drewl ?_ | refine Fr.drewNl ?_ _ | refine Fr.alloc ?_ _))⟩
  by_cases hc60 : (60 : Int) < k
  · have hd0 : decide ((60 : Int) < n) = false := decide_eq_false hf60
    have hd : decide ((60 : Int) < k) = true := decide_eq_true hc60
    go_enter Try.func10, Try.ntmps10
    go_wp2_with fail
    go_ret
    exact ⟨IsBool.mk _, by exact (by repeat (first | exact Fr.refl _ _ | assumption | refine Fr.drewN ?_ _ | refine Fr.drew ?_ | refine Fr.drewl ?_ | refine Fr.drewNl ?_ _ | refine Fr.alloc ?_ _))⟩
  have hd0 : decide ((60 : Int) < n) = false := decide_eq_false hf60
  have hd : decide ((60 : Int) < k) = false := decide_eq_false hc60
  go_enter Try.func10, Try.ntmps10
  go_wp2_with fail
  have hr : Row (w.alloc (.cells #[.slice fo n fc, .slice co k cc] 25)) w.heap.size 25 [.slice fo n fc, .slice co k cc] := Row.new' rfl
  have hf : Fr Non w (w.alloc (.cells #[.slice fo n fc, .slice co k cc] 25)) := by exact (by repeat (first | exact Fr.refl _ _ | assumption | refine Fr.drewN ?_ _ | refine Fr.drew ?_ | refine Fr.drewl ?_ | refine Fr.drewNl ?_ _ | refine Fr.alloc ?_ _))
  generalize hg : w.heap.size = g at *
  generalize w.alloc (.cells #[.slice fo n fc, .slice co k cc] 25) = W at *
  have HR := Lib.hid (And.intro hr hf)
  clear hr hf
  go_loopw [3] (fun v3 wr => ∃ i : Nat, i ≤ n ∧ v3 = .int .i64 i ∧ Fr Non W wr) (fun v3 _ => n - (intOf v3).toNat)
  case atStart => exact ⟨0, by omega, rfl, Fr.refl _ _⟩
  case round =>
    obtain ⟨i, hi, rfl, hf⟩ := hrel
    obtain ⟨q0, q1, qz⟩ := row2 (hf.row HR.out.1 id)
    by_cases hlt : i < n
    · obtain ⟨x, hx⟩ : ∃ x, P.funs[i]? = some x := ⟨P.funs[i]'(by omega), List.getElem?_eq_getElem (by omega)⟩
      obtain ⟨b, o, io, ic, rfl, hc, _⟩ := HH.out.1 i x hx
      have e0 := (HR.out.2.trans hf).cell hc.2 id
      clear hc
      by_cases hbig : (180 : Int) < x.length
      · have hd1 : decide ((180 : Int) < x.length) = true := decide_eq_true hbig
        go_wp2_with fail
        go_ret
        exact ⟨IsBool.mk _, HR.out.2.trans (by exact (by repeat (first | exact Fr.refl _ _ | assumption | refine Fr.drewN ?_ _ | refine Fr.drew ?_ | refine Fr.drewl ?_ | refine Fr.drewNl ?_ _ | refine Fr.alloc ?_ _)))⟩
      · have hd1 : decide ((180 : Int) < x.length) = false := decide_eq_false hbig
        go_wp2_with fail
        exact ⟨⟨i + 1, by omega, by simp, by exact (by repeat (first | exact Fr.refl _ _ | assumption | refine Fr.drewN ?_ _ | refine Fr.drew ?_ | refine Fr.drewl ?_ | refine Fr.drewNl ?_ _ | refine Fr.alloc ?_ _))⟩, by simp [intOf]; omega⟩
    · obtain rfl : i = n := by omega
      go_wp2_with fail
      go_ret
      exact ⟨IsBool.mk _, HR.out.2.trans (by exact (by repeat (first | exact Fr.refl _ _ | assumption | refine Fr.drewN ?_ _ | refine Fr.drew ?_ | refine Fr.drewl ?_ | refine Fr.drewNl ?_ _ | refine Fr.alloc ?_ _)))⟩

/-- Words, as they are read. -/
def WdsAt (w : World) (ao : Option Addr) (l : List Wd) : Prop := 0 < l.length → ∃ b o, ao = some ⟨b, o, none⟩ ∧ ∀ (j : Nat) (u : Value), (flat l)[j]? = some u → w.cell? ⟨b, o + j, none⟩ = some u
/-- A frame's address, or the number. -/
def wordL (l : List Wd) (a : Int) : Wd := if 0 ≤ a ∧ a < l.length then l.getD a.toNat Wd.zero else ⟨false, 0, a⟩

set_option maxRecDepth 100000 in
set_option maxHeartbeats 400000 in
theorem lword_c (w : World) (ao : Option Addr) (cap : Nat) (l : List Wd) (h : WdsAt w ao l) (hl : l.length ≤ 1000000000) (a : Int) :
    Calls Try.prog 14 #[.slice ao l.length cap, .int .i64 a] w fun e w' => e = .returned (.agg #[.bool (wordL l a).p, .int .i64 (wordL l a).a, .int .i64 (wordL l a).n]) ∧ Fr Non w w' := by
  by_cases h0 : 0 ≤ a
  · by_cases h1 : a < l.length
    · obtain ⟨i, rfl⟩ := Int.eq_ofNat_of_zero_le h0
      have hlt : i < l.length := by omega
      obtain ⟨x, hx⟩ : ∃ x, l[i]? = some x := ⟨l[i], List.getElem?_eq_getElem hlt⟩
      have hw : wordL l i = x := by
        unfold wordL
        rw [if_pos ⟨h0, h1⟩, Int.toNat_natCast, List.getD_eq_getElem?_getD, hx]
        rfl
      rw [hw]
      obtain ⟨b, o, rfl, hc⟩ := h (by omega)
      obtain ⟨g0, g1, g2⟩ := flat_get hx
      have e0 := hc _ _ g0
      have e1 := hc _ _ g1
      have e2 := hc _ _ g2
      have hb := World.block_lt_of_cell? w _ e0
      simp only at hb
      rw [← Nat.add_assoc] at e1 e2
      clear hc g0 g1 g2 h
      go_enter Try.func14, Try.ntmps14
      go_wp2_with fail
      refine bodyPost_ret (v := .agg #[.bool x.p, .int .i64 x.a, .int .i64 x.n]) (by simp [results, Try.results14, go_sem]) rfl ⟨rfl, ?_⟩
      exact (by repeat (first | exact Fr.refl _ _ | assumption | refine Fr.drewN ?_ _ | refine Fr.drew ?_ | refine Fr.drewl ?_ | refine Fr.drewNl ?_ _ | refine Fr.alloc ?_ _ | (refine Fr.setCell ?_ (Or.inr (by simp)) _) | refine Fr.trans ?_ (by assumption)))
    · have hw : wordL l a = ⟨false, 0, a⟩ := by unfold wordL; rw [if_neg (by omega)]
      rw [hw]
      clear h
      have h1' : decide (a < (l.length : Int)) = false := decide_eq_false h1
      go_enter Try.func14, Try.ntmps14
      go_wp2_with fail
      refine bodyPost_ret (v := .agg #[.bool false, .int .i64 0, .int .i64 a]) (by simp [results, Try.results14, go_sem]) rfl ⟨rfl, ?_⟩
      exact (by repeat (first | exact Fr.refl _ _ | assumption | refine Fr.drewN ?_ _ | refine Fr.drew ?_ | refine Fr.drewl ?_ | refine Fr.drewNl ?_ _ | refine Fr.alloc ?_ _ | (refine Fr.setCell ?_ (Or.inr (by simp)) _) | refine Fr.trans ?_ (by assumption)))
  · have hw : wordL l a = ⟨false, 0, a⟩ := by unfold wordL; rw [if_neg (by omega)]
    rw [hw]
    clear h
    have h0' : decide (0 ≤ a) = false := decide_eq_false h0
    go_enter Try.func14, Try.ntmps14
    go_wp2_with fail
    refine bodyPost_ret (v := .agg #[.bool false, .int .i64 0, .int .i64 a]) (by simp [results, Try.results14, go_sem]) rfl ⟨rfl, ?_⟩
    exact (by repeat (first | exact Fr.refl _ _ | assumption | refine Fr.drewN ?_ _ | refine Fr.drew ?_ | refine Fr.drewl ?_ | refine Fr.drewNl ?_ _ | refine Fr.alloc ?_ _ | (refine Fr.setCell ?_ (Or.inr (by simp)) _) | refine Fr.trans ?_ (by assumption)))

end Go.Proofs.Ytlbomnbpahmphaa

/- Arguments of numbers, bools, and slices and structs of these: they read the same where no cell of theirs has changed. Condition: a slice's element has a cell. -/
namespace Go.Proofs.Ytlbomnbpahmphaa
open Go.ChangeShapes Go.WideShapes Go.RowKit

def plainT (P : Program) : Nat → TypeId → Bool
  | 0, _ => false
  | k + 1, t => match P.underlying t with
    | some .bool => true
    | some (.int _) => true
    | some .string => true
    | some (.slice e) => decide (0 < P.cellsOf e) && plainT P k e
    | some (.struct fs) => fs.toList.all fun f => plainT P k f.type
    | _ => false

theorem mapM_again {α β : Type} {f g : α → Option β} : ∀ {l : List α} {r : List β}, l.mapM f = some r → (∀ a ∈ l, ∀ y ∈ r, f a = some y → g a = some y) → l.mapM g = some r
  | [], r, h, _ => by simpa using h
  | a :: l, r, h, k => by
    simp only [List.mapM_cons, Option.bind_eq_bind, Option.bind_eq_some_iff, Option.pure_def, Option.some.injEq] at h ⊢
    obtain ⟨y, h1, ys, h2, rfl⟩ := h
    exact ⟨y, k a (by simp) y (by simp) h1, ys, mapM_again h2 fun b hb z hz => k b (by simp [hb]) z (by simp [hz]), rfl⟩

section
variable {H : Type} {enc : TypeId × Value → H} {P : Program} {w w' : World} {base : Nat} {held : Bool} {sp : Nat → Bool}

theorem trod_again (hc : ∀ a n cs, w.cells? base a n = some cs → w'.cells? base a n = some cs) : ∀ (k : Nat) (t : TypeId), plainT P k t = true → ∀ (fuel : Nat) (cs : List Value) (x : DataW H × List MemPlace),
    DataW.trod enc P w base (fun _ => true) held fuel t cs = some x → (∀ p ∈ x.2, sp p.block = true) → DataW.trod enc P w' base sp held fuel t cs = some x
  | 0, _, hp, _, _, _, _, _ => by simp [plainT] at hp
  | k + 1, t, hp, 0, _, _, h, _ => by simp [DataW.trod] at h
  | k + 1, t, hp, fuel + 1, cs, x, h, hs => by
    unfold plainT at hp
    split at hp
    · rename_i ht
      unfold DataW.trod at h ⊢
      rw [ht] at h ⊢
      split at h <;> simp_all
    · rename_i kk ht
      unfold DataW.trod at h ⊢
      rw [ht] at h ⊢
      split at h <;> simp_all
    · rename_i ht
      unfold DataW.trod at h ⊢
      rw [ht] at h ⊢
      split at h <;> simp_all
    · rename_i e ht
      simp only [Bool.and_eq_true, decide_eq_true_eq] at hp
      rcases DataW.trod_slice ht h with ⟨rfl, rfl⟩ | ⟨a, len, cap, _, _, _, _, rfl, _, hb, hl, hm, _⟩
      · unfold DataW.trod
        rw [ht]
        rfl
      · unfold DataW.trod at h ⊢
        rw [ht] at h ⊢
        simp only [if_true] at h ⊢
        rw [if_pos ⟨hb, hl, hm⟩] at h ⊢
        simp only [Option.bind_eq_some_iff, Option.map_eq_some_iff] at h ⊢
        obtain ⟨es, h1, rs, h2, rfl⟩ := h
        have el : ∀ (i : Nat) (y : DataW H × List MemPlace), y ∈ es ++ rs → ((w.cells? base (a.add (i * P.cellsOf e)) (P.cellsOf e)).bind (DataW.trod enc P w base (fun _ => true) held fuel e)) = some y → ((w'.cells? base (a.add (i * P.cellsOf e)) (P.cellsOf e)).bind (DataW.trod enc P w' base sp held fuel e)) = some y := by
          intro i y hy hf
          obtain ⟨cs', c1, c2⟩ := Option.bind_eq_some_iff.1 hf
          refine Option.bind_eq_some_iff.2 ⟨cs', hc _ _ _ c1, trod_again hc k e hp.2 fuel cs' y c2 fun p hpy => hs p ?_⟩
          exact List.mem_append_right _ (List.mem_flatMap.2 ⟨y, hy, hpy⟩)
        refine ⟨es, mapM_again h1 fun i _ y hy hf => el i y (List.mem_append_left _ hy) hf, rs, ?_, rfl⟩
        have l2 := mapM_some_length h2
        have h2' := mapM_again h2 fun j _ y hy hf => el (len + j) y (List.mem_append_right _ hy) hf
        by_cases hcl : cap - len = 0
        · rw [hcl] at h2' ⊢
          rw [h2']
          simp only [List.range_zero, List.mapM_nil, Option.pure_def, Option.some.injEq] at h2'
          subst h2'
          split <;> rfl
        · have hb1 : sp a.block = true := hs (.cell a.block (a.off + 0)) (List.mem_append_left _ (by
            have : 0 < (es.length + rs.length) * P.cellsOf e := Nat.mul_pos (by rw [l2]; simp; omega) hp.1
            simp only [MemPlace.row, List.mem_map, List.mem_range]
            exact ⟨0, this, rfl⟩))
          rw [if_pos hb1]
          exact h2'
    · rename_i fs ht
      unfold DataW.trod at h ⊢
      rw [ht] at h ⊢
      simp only [Option.map_eq_some_iff] at h ⊢
      split at h
      · rename_i hlen
        rw [if_pos hlen]
        simp only [Option.map_eq_some_iff] at h ⊢
        obtain ⟨xs, h1, rfl⟩ := h
        refine ⟨xs, mapM_again h1 fun f hf y hy hfy => ?_, rfl⟩
        exact trod_again hc k f.type (List.all_eq_true.1 hp f hf) fuel _ y hfy fun p hpy => hs p (List.mem_flatMap.2 ⟨y, hy, hpy⟩)
      · cases h
    · cases hp

theorem trodAll_again (hc : ∀ a n cs, w.cells? base a n = some cs → w'.cells? base a n = some cs) (k : Nat) : ∀ {ts : List TypeId} {vs : List Value} {ds : List (DataW H)} {ps : List MemPlace}, ts.all (plainT P k) = true →
    DataW.TrodAll enc P w base (fun _ => true) held ts vs ds ps → (∀ p ∈ ps, sp p.block = true) → DataW.TrodAll enc P w' base sp held ts vs ds ps
  | [], _, _, _, _, h, _ => by
    obtain ⟨rfl, rfl, rfl⟩ := trodAll_nil h
    exact trodAll_mk0
  | t :: ts, _, _, _, hp, h, hs => by
    obtain ⟨v, vs1, d, ds1, a, b, rfl, rfl, rfl, ⟨n, h1⟩, h2⟩ := trodAll_cons h
    simp only [List.all_cons, Bool.and_eq_true] at hp
    exact ⟨a, b, ⟨n, trod_again hc k t hp.1 n _ _ h1 fun p hq => hs p (List.mem_append_left _ hq)⟩, trodAll_again hc k hp.2 h2 (fun p hq => hs p (List.mem_append_right _ hq)), rfl⟩
end

theorem Fr.cells {w w' : World} (f : Fr Non w w') (base : Nat) (a : Addr) (n : Nat) (cs : List Value) (h : w.cells? base a n = some cs) : w'.cells? base a n = some cs := by
  unfold World.cells? at h ⊢
  split at h
  · rename_i hb
    rw [if_pos hb]
    refine mapM_again h fun i _ y _ hy => ?_
    have hlt := World.block_lt_of_cell? w _ hy
    rw [← hy]
    simp only [World.cell?, f.keep _ hlt id]
  · cases h

/-- What a law's end must be: it answers true, and no block that was there has changed. -/
theorem law_post {H : Type} {enc : TypeId × Value → H} {P : Program} {f : Func} {s : ChangeSpec} {W W' : World} {args : Array Value} {ds gs : List (DataW H)} {before : List MemPlace} {tb : TypeId} (hf : Fr Non W W')
    (hW : DataW.Whole enc P f.params.toList s.vars false W args.toList ds gs before) (k : Nat) (hts : f.params.toList.all (plainT P k) = true) (hv : s.vars = []) (hr : f.resultTypes = #[tb]) (htb : P.underlying tb = some .bool)
    (hsr : (s.fn H (ds ++ gs)).results = [.lit (.bool true)]) (hsa : (s.fn H (ds ++ gs)).args = ds) (hsv : (s.fn H (ds ++ gs)).vars = []) : s.post enc P f false true false false W args (.bool true) W' := by
  have hWW := hW
  obtain ⟨p, q, hA, hV, rfl, _, _⟩ := hW
  rw [hv] at hV
  obtain ⟨rfl, rfl⟩ := trodVars_none hV
  refine ⟨ds, [], p ++ [], [], p, [], hWW, ?_, ?_, ?_, ⟨hf.os, hf.output, fun i hi => ?_⟩, fun h => by cases h⟩
  · rw [hsr, hr]
    exact trodAll_cons_mk (shut_bool htb _) trodAll_mk0
  · rw [hsa]
    exact trodAll_again (hf.cells 0) k hts hA fun x hx => by simpa using hWW.lt x (by simpa using hx)
  · rw [hsv, hv]
    exact rfl
  · rw [hf.keep i hi id]
    cases hh : W.heap[i]? with
    | none => rfl
    | some o => cases o <;> simp

end Go.Proofs.Ytlbomnbpahmphaa

/- Opening: a program, and rows of acts, as they come in. No condition. -/
namespace Go.Proofs.Ytlbomnbpahmphaa
open Go.ChangeShapes Go.WideShapes Go.ChangeAt Go.RowKit

/-- An act of layer 3, or of layer 21. -/
structure Ax where
  k : Int
  a : Int
  n : Int
  args : List Int

theorem crs_len (l : List Cr) : (crs l).length = l.length * 5 := by
  induction l with
  | nil => rfl
  | cons x l ih => rw [crs_cons]; simp only [List.length_cons, ih]; omega

instance : Inhabited In := ⟨In.zero⟩
instance : Inhabited Cr := ⟨Cr.zero⟩
instance : Inhabited Ax := ⟨⟨0, 0, 0, []⟩⟩

/-- Acts, as they are read. -/
def AxAt (base : Nat) (w : World) (ao : Option Addr) (l : List Ax) : Prop := ∀ (i : Nat) (x : Ax), l[i]? = some x → ∃ b o la lc, ao = some ⟨b, o, none⟩ ∧ CB base w b (o + i * 4) (.int .i64 x.k) ∧ CB base w b (o + i * 4 + 1) (.int .i64 x.a) ∧
  CB base w b (o + i * 4 + 2) (.int .i64 x.n) ∧ CB base w b (o + i * 4 + 3) (.slice la x.args.length lc) ∧ IntsAt base w la x.args
theorem AxAt.fr {base : Nat} {w w' : World} {ao : Option Addr} {l : List Ax} {E : Nat → Prop} (h : AxAt base w ao l) (f : Fr E w w') (hE : High base E) : AxAt base w' ao l := fun i x hx => by
  obtain ⟨b, o, la, lc, e, h0, h1, h2, h3, h4⟩ := h i x hx
  exact ⟨b, o, la, lc, e, h0.fr f hE, h1.fr f hE, h2.fr f hE, h3.fr f hE, h4.fr f hE⟩

section
variable {H : Type} {enc : TypeId × Value → H} {w : World} {held : Bool}

/-- All that is weighed in a datum is within the reach. -/
def Light (t : TypeId) (d : DataW H) : Prop := ∀ n ∈ d.weights Try.prog t, n ≤ reachBytes
theorem weights_all {e : TypeId} {d : DataW H} : ∀ {l : List (DataW H)}, d ∈ l → ∀ n ∈ d.weights Try.prog e, n ∈ DataW.weightsAll Try.prog e l
  | x :: l, hm, n, hn => by
    simp only [DataW.weightsAll, List.mem_append]
    rcases List.mem_cons.1 hm with rfl | hm
    · exact Or.inl hn
    · exact Or.inr (weights_all hm n hn)
theorem Light.field {t : TypeId} {fs : Array Field} (ht : Try.prog.underlying t = some (.struct fs)) {ds : List (DataW H)} (h : Light t (.agg ds)) {i : Nat} {f : Field} (hf : fs[i]? = some f) {d : DataW H} (hd : ds[i]? = some d) : Light f.type d := fun n hn => by
  refine h n ?_
  simp only [DataW.weights, ht]
  exact DataW.weights_mem_each (j := i) (t := f.type) (by simp [hf]) hd n hn

set_option maxRecDepth 100000 in
/-- A slice's elements. -/
theorem open_row {α : Type} [Inhabited α] {t e : TypeId} (ht : Try.prog.underlying t = some (.slice e)) {k : Nat} (hk : Try.prog.cellsOf e = k) (hk0 : 0 < k) (R : List Value → α → Prop)
    (hR : ∀ (fuel : Nat) (cs : List Value) (x : DataW H × List MemPlace), DataW.trod enc Try.prog w 0 (fun _ => true) held fuel e cs = some x → Light e x.1 → ∃ y, R cs y)
    {fuel : Nat} {cs : List Value} {x : DataW H × List MemPlace} (h : DataW.trod enc Try.prog w 0 (fun _ => true) held fuel t cs = some x) (hx1 : Light t x.1) :
    ∃ ao l cap, cs = [.slice ao (List.length l) cap] ∧ l.length * Try.prog.bytesOf e ≤ reachBytes ∧ ∀ (i : Nat) (y : α), l[i]? = some y → ∃ b o cs', ao = some ⟨b, o, none⟩ ∧ R cs' y ∧ ∀ (j : Nat) (u : Value), cs'[j]? = some u → b < w.heap.size ∧ w.cell? ⟨b, o + i * k + j, none⟩ = some u := by
  rcases Deep.open_slice ht h with ⟨ee, _⟩ | ⟨a, len', cap', m, n, D, Pl, ee, _, hl, hm, hmm, hxx, hx⟩
  · exact ⟨none, [], 0, ee, by simp, fun i y hy => by simp at hy⟩
  · simp only [if_true] at hmm
    subst hmm
    rw [hk] at hx
    rw [hxx] at hx1
    have hw1 : len' * Try.prog.bytesOf e ≤ reachBytes := by
      have := hx1 ((((List.range len').map D).length + ((List.range (m - len')).map fun j => D (len' + j)).length) * Try.prog.bytesOf e) (by simp only [DataW.weights, ht]; exact List.mem_cons_self)
      refine Nat.le_trans (Nat.mul_le_mul_right _ ?_) this
      simp
    have each : ∀ i, i < len' → ∃ y : α, ∃ cs', w.cells? 0 (a.add (i * k)) k = some cs' ∧ R cs' y := fun i hi => by
      obtain ⟨cs', h1, h2⟩ := hx i (by omega)
      obtain ⟨y, hy⟩ := hR _ _ _ h2 (fun n hn => hx1 n (by
        simp only [DataW.weights, ht]
        exact List.mem_cons_of_mem _ (List.mem_append_left _ (weights_all (d := D i) (List.mem_map.2 ⟨i, List.mem_range.2 hi, rfl⟩) n hn))))
      exact ⟨y, cs', h1, hy⟩
    obtain ⟨Y, hY⟩ := Deep.choose_lt (α := α) each
    refine ⟨some a, (List.range len').map Y, m, by rw [ee]; simp, by simpa using hw1, fun i y hy => ?_⟩
    have hi : i < len' := by have := (List.getElem?_eq_some_iff.1 hy).1; simpa using this
    have hyy : Y i = y := by simpa [hi] using hy
    subst hyy
    obtain ⟨cs', h1, h2⟩ := hY i hi
    obtain ⟨_, hlk, hc⟩ := World.cells?_some h1
    have cell : ∀ j u, cs'[j]? = some u → w.cell? (a.add (i * k + j)) = some u := fun j u hu => by
      have hj : j < k := by have := (List.getElem?_eq_some_iff.1 hu).1; omega
      have := hc j hj
      rw [Deep.add_add, hu] at this
      exact this
    obtain ⟨b, o, spot⟩ := a
    have hspot : spot = none := by
      obtain ⟨cs0, g1, _⟩ := hY 0 (by omega)
      obtain ⟨_, gk, gc⟩ := World.cells?_some g1
      have g0 := gc 0 hk0
      rw [List.getElem?_eq_getElem (by omega)] at g0
      have := World.cell?_spot g0
      simpa [Addr.add] using this
    subst hspot
    refine ⟨b, o, cs', rfl, h2, fun j u hu => ?_⟩
    have := cell j u hu
    rw [add_plain] at this
    have hb := World.block_lt_of_cell? w _ this
    exact ⟨hb, by rw [Nat.add_assoc]; exact this⟩

theorem open_ints {t : TypeId} (ht : Try.prog.underlying t = some (.slice 3)) {fuel : Nat} {cs : List Value} {x : DataW H × List MemPlace} (h : DataW.trod enc Try.prog w 0 (fun _ => true) held fuel t cs = some x) (hx1 : Light t x.1) :
    ∃ ao l cap, cs = [.slice ao (List.length l) cap] ∧ l.length ≤ 17592186043904 ∧ IntsAt w.heap.size w ao l := by
  obtain ⟨ao, l, cap, e, hl, hh⟩ := open_row (α := Int) ht (k := 1) (by kernel_rfl) (by decide) (fun cs n => cs = [.int .i64 n]) (fun f c y hy _ => by
    obtain ⟨n, e, _⟩ := DataW.trod_int Try.underlying3 hy
    exact ⟨n, e⟩) h hx1
  have hb8 : Try.prog.bytesOf 3 = 8 := by kernel_rfl
  rw [hb8] at hl
  refine ⟨ao, l, cap, e, by unfold reachBytes at hl; omega, fun i n hn => ?_⟩
  obtain ⟨b, o, cs', e1, e2, hc⟩ := hh i n hn
  subst e2
  have := hc 0 _ rfl
  simp only [Nat.mul_one, Nat.add_zero] at this
  exact ⟨b, o, e1, this⟩

set_option maxRecDepth 100000 in
theorem open_ins {fuel : Nat} {cs : List Value} {x : DataW H × List MemPlace} (h : DataW.trod enc Try.prog w 0 (fun _ => true) held fuel 112 cs = some x) (hx1 : Light 112 x.1) :
    ∃ (y : In) (la : Option Addr) (lc : Nat), cs = [.int .i64 y.op, .int .i64 y.a, .int .i64 y.b, .int .i64 y.c, .slice la y.l.length lc] ∧ y.l.length ≤ 17592186043904 ∧ IntsAt w.heap.size w la y.l := by
  obtain ⟨xs, n, _, hxx, hl, hxl, hf⟩ := DataW.trod_struct Try.underlying112 h
  rw [hxx] at hx1
  have hl' : cs.length = 5 := hl.trans (by kernel_rfl)
  match cs, hl' with
  | [c0, c1, c2, c3, c4], _ =>
  have k0 : Try.prog.cellsOf 110 = 1 := by kernel_rfl
  have k1 : Try.prog.cellsOf 3 = 1 := by kernel_rfl
  have k3 : Try.prog.cellsOf 34 = 1 := by kernel_rfl
  have f0 := (hf 0 _ rfl).trans (List.getElem?_eq_getElem (by rw [hxl]; decide))
  have f1 := (hf 1 _ rfl).trans (List.getElem?_eq_getElem (by rw [hxl]; decide))
  have f2 := (hf 2 _ rfl).trans (List.getElem?_eq_getElem (by rw [hxl]; decide))
  have f3 := (hf 3 _ rfl).trans (List.getElem?_eq_getElem (by rw [hxl]; decide))
  have f4 := (hf 4 _ rfl).trans (List.getElem?_eq_getElem (by rw [hxl]; decide))
  simp only [List.getElem_toArray, List.getElem_cons_zero, List.getElem_cons_succ, k0, k1, k3, List.drop_zero, List.drop_succ_cons, List.take_succ_cons, List.take_zero] at f0 f1 f2 f3 f4
  obtain ⟨n0, e0, _⟩ := DataW.trod_int Try.underlying110 f0
  obtain ⟨n1, e1, _⟩ := DataW.trod_int Try.underlying3 f1
  obtain ⟨n2, e2, _⟩ := DataW.trod_int Try.underlying3 f2
  obtain ⟨n3, e3, _⟩ := DataW.trod_int Try.underlying3 f3
  obtain ⟨ao, l, cap, e4, hl4, hi⟩ := open_ints Try.underlying34 f4 (hx1.field Try.underlying112 (i := 4) rfl (by rw [List.getElem?_map, List.getElem?_eq_getElem (by rw [hxl]; decide)]; rfl))
  simp only [List.cons.injEq, and_true] at e0 e1 e2 e3 e4
  subst e0 e1 e2 e3 e4
  exact ⟨⟨n0, n1, n2, n3, l⟩, ao, cap, rfl, hl4, hi⟩

set_option maxRecDepth 100000 in
theorem open_co {fuel : Nat} {cs : List Value} {x : DataW H × List MemPlace} (h : DataW.trod enc Try.prog w 0 (fun _ => true) held fuel 84 cs = some x) : ∃ y : Cr, cs = y.cs := by
  obtain ⟨xs, n, _, _, hl, hxl, hf⟩ := DataW.trod_struct Try.underlying84 h
  have hl' : cs.length = 5 := hl.trans (by kernel_rfl)
  match cs, hl' with
  | [c0, c1, c2, c3, c4], _ =>
  have k0 : Try.prog.cellsOf 9 = 1 := by kernel_rfl
  have k1 : Try.prog.cellsOf 3 = 1 := by kernel_rfl
  have f0 := (hf 0 _ rfl).trans (List.getElem?_eq_getElem (by rw [hxl]; decide))
  have f1 := (hf 1 _ rfl).trans (List.getElem?_eq_getElem (by rw [hxl]; decide))
  have f2 := (hf 2 _ rfl).trans (List.getElem?_eq_getElem (by rw [hxl]; decide))
  have f3 := (hf 3 _ rfl).trans (List.getElem?_eq_getElem (by rw [hxl]; decide))
  have f4 := (hf 4 _ rfl).trans (List.getElem?_eq_getElem (by rw [hxl]; decide))
  simp only [List.getElem_toArray, List.getElem_cons_zero, List.getElem_cons_succ, k0, k1, List.drop_zero, List.drop_succ_cons, List.take_succ_cons, List.take_zero] at f0 f1 f2 f3 f4
  obtain ⟨s, e0, _⟩ := DataW.trod_string Try.underlying9 f0
  obtain ⟨n1, e1, _⟩ := DataW.trod_int Try.underlying3 f1
  obtain ⟨n2, e2, _⟩ := DataW.trod_int Try.underlying3 f2
  obtain ⟨n3, e3, _⟩ := DataW.trod_int Try.underlying3 f3
  obtain ⟨n4, e4, _⟩ := DataW.trod_int Try.underlying3 f4
  simp only [List.cons.injEq, and_true] at e0 e1 e2 e3 e4
  subst e0 e1 e2 e3 e4
  exact ⟨⟨s, n1, n2, n3, n4⟩, rfl⟩

set_option maxRecDepth 100000 in
theorem open_fun {fuel : Nat} {cs : List Value} {x : DataW H × List MemPlace} (h : DataW.trod enc Try.prog w 0 (fun _ => true) held fuel 76 cs = some x) (hx1 : Light 76 x.1) :
    ∃ (f : List In) (io : Option Addr) (ic : Nat), cs = [.slice io f.length ic] ∧ InsAt w.heap.size w io f ∧ ∀ x ∈ f, x.l.length ≤ 17592186043904 := by
  obtain ⟨ao, l, cap, e, hl, hh⟩ := open_row (α := In) Try.underlying76 (k := 5) (by kernel_rfl) (by decide)
    (fun cs y => ∃ (la : Option Addr) (lc : Nat), cs = [.int .i64 y.op, .int .i64 y.a, .int .i64 y.b, .int .i64 y.c, .slice la y.l.length lc] ∧ y.l.length ≤ 17592186043904 ∧ IntsAt w.heap.size w la y.l) (fun f c y hy hz => open_ins hy hz) h hx1
  refine ⟨l, ao, cap, e, fun i x hx => ?_, fun x hx => ?_⟩
  · obtain ⟨b, o, cs', e1, ⟨la, lc, rfl, _, h4⟩, hc⟩ := hh i x hx
    exact ⟨b, o, la, lc, e1, hc 0 _ rfl, hc 1 _ rfl, hc 2 _ rfl, hc 3 _ rfl, hc 4 _ rfl, h4⟩
  · obtain ⟨i, hi, rfl⟩ := List.getElem_of_mem hx
    obtain ⟨b, o, cs', e1, ⟨la, lc, _, h3, _⟩, _⟩ := hh i _ (List.getElem?_eq_getElem hi)
    exact h3

set_option maxRecDepth 100000 in
theorem open_prog {v : Value} {d : DataW H} {ps : List MemPlace} (h : DataW.Trod enc Try.prog w 0 (fun _ => true) held 25 v d ps) (hx1 : Light 25 d) (hv : ∃ cs, v = .agg cs ∧ v.cells = cs) : ∃ P, PrAt w.heap.size P w v := by
  obtain ⟨fuel, hf0⟩ := h
  obtain ⟨cs, rfl, hcs⟩ := hv
  rw [hcs] at hf0
  obtain ⟨xs, n, _, hxx, hl, hxl, hf⟩ := DataW.trod_struct Try.underlying25 hf0
  obtain ⟨rfl, _⟩ := Prod.mk.inj hxx
  have hl' : cs.toList.length = 2 := hl.trans (by kernel_rfl)
  obtain ⟨cs⟩ := cs
  match cs, hl' with
  | [c0, c1], _ =>
  have k0 : Try.prog.cellsOf 22 = 1 := by kernel_rfl
  have k1 : Try.prog.cellsOf 23 = 1 := by kernel_rfl
  have f0 := (hf 0 _ rfl).trans (List.getElem?_eq_getElem (by rw [hxl]; decide))
  have f1 := (hf 1 _ rfl).trans (List.getElem?_eq_getElem (by rw [hxl]; decide))
  simp only [List.getElem_toArray, List.getElem_cons_zero, List.getElem_cons_succ, k0, k1, List.drop_zero, List.drop_succ_cons, List.take_succ_cons, List.take_zero] at f0 f1
  obtain ⟨fo, fs, fc, e0, hl0, h0⟩ := open_row (α := List In) Try.underlying22 (k := 1) (by kernel_rfl) (by decide)
    (fun cs f => ∃ (io : Option Addr) (ic : Nat), cs = [.slice io f.length ic] ∧ InsAt w.heap.size w io f ∧ ∀ x ∈ f, x.l.length ≤ 17592186043904) (fun f c y hy hz => open_fun hy hz) f0 (hx1.field Try.underlying25 (i := 0) rfl (by rw [List.getElem?_map, List.getElem?_eq_getElem (by rw [hxl]; decide)]; rfl))
  obtain ⟨co, cl, cc, e1, hl1, h1⟩ := open_row (α := Cr) Try.underlying23 (k := 5) (by kernel_rfl) (by decide) (fun cs y => cs = y.cs) (fun f c y hy _ => open_co hy) f1 (hx1.field Try.underlying25 (i := 1) rfl (by rw [List.getElem?_map, List.getElem?_eq_getElem (by rw [hxl]; decide)]; rfl))
  simp only [List.cons.injEq, and_true] at e0 e1
  subst e0 e1
  refine ⟨⟨fs, cl⟩, ⟨fo, fc, co, cc, rfl, fun i f hi => ?_, fun hpos => ?_⟩, fun f hf' x hx => ?_⟩
  · obtain ⟨b, o, cs', e1, ⟨io, ic, rfl, h4, _⟩, hc⟩ := h0 i f hi
    have := hc 0 _ rfl
    simp only [Nat.mul_one, Nat.add_zero] at this
    exact ⟨b, o, io, ic, e1, this, h4⟩
  · obtain ⟨b, o, cs', e1, e2, hc⟩ := h1 0 _ (List.getElem?_eq_getElem hpos)
    refine ⟨b, o, e1, fun j u hu => ?_⟩
    obtain ⟨q, r, rfl, hr⟩ : ∃ q r, j = q * 5 + r ∧ r < 5 := ⟨j / 5, j % 5, by omega, by omega⟩
    have hjl : q * 5 + r < (crs cl).length := (List.getElem?_eq_some_iff.1 hu).1
    have hql : q < cl.length := by
      have := crs_len cl
      omega
    obtain ⟨b2, o2, cs2, e3, e4, hc2⟩ := h1 q _ (List.getElem?_eq_getElem hql)
    rw [e1] at e3
    cases e3
    obtain ⟨g0, g1, g2, g3, g4⟩ := crs_get (List.getElem?_eq_getElem hql)
    have key : (cl[q]'hql).cs[r]? = some u := by
      match r, hr with
      | 0, _ => rw [Nat.add_zero, g0] at hu; exact hu
      | 1, _ => rw [g1] at hu; exact hu
      | 2, _ => rw [g2] at hu; exact hu
      | 3, _ => rw [g3] at hu; exact hu
      | 4, _ => rw [g4] at hu; exact hu
    have := hc2 r u (by rw [e4]; exact key)
    rw [Nat.add_assoc] at this
    exact this
  · obtain ⟨i, hi, rfl⟩ := List.getElem_of_mem hf'
    obtain ⟨b, o, cs', e1, ⟨io, ic, _, _, h5⟩, hc⟩ := h0 i _ (List.getElem?_eq_getElem hi)
    exact h5 x hx

set_option maxRecDepth 100000 in
theorem open_axs {t e k0t : TypeId} (ht : Try.prog.underlying t = some (.slice e)) {f0 f1 f2 f3 : Field} (he : Try.prog.underlying e = some (.struct #[f0, f1, f2, f3])) (ht0 : f0.type = k0t ∧ f0.offset = 0) (ht1 : f1.type = 3 ∧ f1.offset = 1) (ht2 : f2.type = 3 ∧ f2.offset = 2) (ht3 : f3.type = 34 ∧ f3.offset = 3) (hk0 : Try.prog.underlying k0t = some (.int .i64)) (hk1 : Try.prog.cellsOf k0t = 1) (hk4 : Try.prog.cellsOf e = 4)
    {fuel : Nat} {cs : List Value} {x : DataW H × List MemPlace} (h : DataW.trod enc Try.prog w 0 (fun _ => true) held fuel t cs = some x) (hx1 : Light t x.1) :
    ∃ ao l cap, cs = [.slice ao (List.length l) cap] ∧ l.length * Try.prog.bytesOf e ≤ reachBytes ∧ AxAt w.heap.size w ao l := by
  obtain ⟨ao, l, cap, e, hl, hh⟩ := open_row (α := Ax) ht (k := 4) hk4 (by decide)
    (fun cs y => ∃ (la : Option Addr) (lc : Nat), cs = [.int .i64 y.k, .int .i64 y.a, .int .i64 y.n, .slice la y.args.length lc] ∧ IntsAt w.heap.size w la y.args) (fun f c y hy hz => by
      obtain ⟨xs, n, _, hxx, hl, hxl, hf⟩ := DataW.trod_struct he hy
      rw [hxx] at hz
      have hl' : c.length = 4 := hl.trans hk4
      match c, hl' with
      | [c0, c1, c2, c3], _ =>
      have k1 : Try.prog.cellsOf 3 = 1 := by kernel_rfl
      have k3 : Try.prog.cellsOf 34 = 1 := by kernel_rfl
      have f0 := (hf 0 _ rfl).trans (List.getElem?_eq_getElem (by rw [hxl]; exact of_decide_eq_true rfl))
      have f1 := (hf 1 _ rfl).trans (List.getElem?_eq_getElem (by rw [hxl]; exact of_decide_eq_true rfl))
      have f2 := (hf 2 _ rfl).trans (List.getElem?_eq_getElem (by rw [hxl]; exact of_decide_eq_true rfl))
      have f3 := (hf 3 _ rfl).trans (List.getElem?_eq_getElem (by rw [hxl]; exact of_decide_eq_true rfl))
      simp only [List.getElem_toArray, List.getElem_cons_zero, List.getElem_cons_succ, ht0.1, ht0.2, ht1.1, ht1.2, ht2.1, ht2.2, ht3.1, ht3.2, hk1, k1, k3, List.drop_zero, List.drop_succ_cons, List.take_succ_cons, List.take_zero] at f0 f1 f2 f3
      obtain ⟨n0, e0, _⟩ := DataW.trod_int hk0 f0
      obtain ⟨n1, e1, _⟩ := DataW.trod_int Try.underlying3 f1
      obtain ⟨n2, e2, _⟩ := DataW.trod_int Try.underlying3 f2
      obtain ⟨ao, l, cap, e4, hl4, hi⟩ := open_ints Try.underlying34 f3 (ht3.1 ▸ hz.field he (i := 3) rfl (by rw [List.getElem?_map, List.getElem?_eq_getElem (by rw [hxl]; exact of_decide_eq_true rfl)]; rfl))
      simp only [List.cons.injEq, and_true] at e0 e1 e2 e4
      subst e0 e1 e2 e4
      exact ⟨⟨n0, n1, n2, l⟩, ao, cap, rfl, hi⟩) h hx1
  refine ⟨ao, l, cap, e, hl, fun i x hx => ?_⟩
  obtain ⟨b, o, cs', e1, ⟨la, lc, rfl, h4⟩, hc⟩ := hh i x hx
  exact ⟨b, o, la, lc, e1, hc 0 _ rfl, hc 1 _ rfl, hc 2 _ rfl, hc 3 _ rfl, h4⟩
end

end Go.Proofs.Ytlbomnbpahmphaa

/- The plain law: an act on a machine leaves few more events, and few more blocks. Condition: the program is checked. -/
namespace Go.Proofs.Ytlbomnbpahmphaa

/-- At most so many more events, and blocks. -/
structure Grow (n : Nat) (S S' : St) : Prop where
  told : S'.told.length ≤ S.told.length + n
  mem : S'.mem.blocks.length ≤ S.mem.blocks.length + n

section
variable {P : Pr} {kinds : List Int} {S S' S2 : St}

theorem Grow.refl (n : Nat) (S : St) : Grow n S S := ⟨by omega, by omega⟩
theorem Grow.trans {a b : Nat} (h : Grow a S S') (k : Grow b S' S2) : Grow (a + b) S S2 := ⟨by have := h.1; have := k.1; omega, by have := h.2; have := k.2; omega⟩
theorem Grow.le {a b : Nat} (h : Grow a S S') (hab : a ≤ b) : Grow b S S' := ⟨by have := h.1; omega, by have := h.2; omega⟩
theorem Kept.grow {a : Nat} (h : Kept a S S') : Grow a S S' := ⟨h.1, h.2⟩

theorem runS_grow (hP : PrGood P kinds) : ∀ (f : Nat) (o : Out) (S : St), (o = none → S.stack ≠ [] ∧ GoodL P kinds S.stack) → Grow f S (runS P f o S).2
  | f, some r, S, _ => by
    have : runS P f (some r) S = (r, S) := by cases f <;> rfl
    rw [this]
    exact Grow.refl _ _
  | 0, none, S, _ => Grow.refl _ _
  | f + 1, none, S, h => by
    obtain ⟨h1, h2⟩ := h rfl
    obtain ⟨c, l, hs⟩ := List.exists_cons_of_ne_nil h1
    have hk := stepS_ok (P := P) (kinds := kinds) (S := { S with fuel := (f : Int) }) hP (c := c) (l := l) hs h2
    have h3 := runS_grow hP f (stepS P { S with fuel := (f : Int) }).1 (stepS P { S with fuel := (f : Int) }).2 hk.2
    have h4 : Grow 1 S (stepS P { S with fuel := (f : Int) }).2 := ⟨hk.1.1, hk.1.2⟩
    have := h4.trans h3
    rw [runS]
    exact this.le (by omega)

theorem pollS_grow (hP : PrGood P kinds) (p : Wd) (task fuel : Int) : Grow (fuel.toNat + 1) S (pollS P S p task fuel).2 := by
  have hg : GoodL P kinds (S.begin task fuel).stack := trivial
  have h1 := goOnS_ok (S := S.begin task fuel) hP hg p (Cl.new Wd.zero 0 0 0) rfl (Or.inl rfl) (fun e => by simp [Cl.new] at e) (fun d l e => by simp [St.begin] at e)
  have h2 := runS_grow hP fuel.toNat _ _ h1.2
  have h3 : Grow 1 S (goOnS P (S.begin task fuel) p (Cl.new Wd.zero 0 0 0)).2 := ⟨h1.1.1, h1.1.2⟩
  have h4 := (h3.trans h2).le (b := fuel.toNat + 1) (by omega)
  unfold pollS
  simp only
  split
  · split
    · exact h4
    · exact h4
  · exact h4

theorem cancelS_grow (hP : PrGood P kinds) (p : Wd) (task fuel : Int) : Grow (fuel.toNat + 1) S (cancelS P S p task fuel).2 := by
  have hg : GoodL P kinds (S.begin task fuel).stack := trivial
  have h1 := stopS_ok (S := S.begin task fuel) hP hg p
  have h2 := runS_grow hP fuel.toNat _ _ h1.2
  have h3 : Grow 1 S (stopS P (S.begin task fuel) p).2 := ⟨h1.1.1, h1.1.2⟩
  exact (h3.trans h2).le (b := fuel.toNat + 1) (by omega)

theorem argsS_len (p : Wd) : ∀ (l : List Int) (i : Nat) (M : Mem), (argsS M p i l).blocks.length = M.blocks.length
  | [], _, _ => rfl
  | n :: l, i, M => by rw [argsS, argsS_len p l, store_len]

theorem startS_grow (co : Int) (l : List Int) : Grow 1 S (startS P S co l).1 := by
  have hf := frame_len P S.mem co
  unfold startS
  split
  · exact Grow.refl _ _
  · split
    · exact ⟨by simp, hf⟩
    · exact ⟨by simp, by simp only [argsS_len]; exact hf⟩

theorem completeS_grow (k n : Int) : Grow 0 S (completeS S k n) := by
  unfold completeS
  split
  · exact Grow.refl _ _
  · exact ⟨by simp, by simp⟩
end

end Go.Proofs.Ytlbomnbpahmphaa
