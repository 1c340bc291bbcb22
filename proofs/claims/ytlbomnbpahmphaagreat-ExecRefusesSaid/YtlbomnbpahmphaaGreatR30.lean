/- Walk: the driver's 'act'. Conditions: the driver lies there, and stands well; the program is checked; all is few. Printed by genact.py. -/
import Derived.Test.YtlbomnbpahmphaaGreatR20
import Derived.Test.YtlbomnbpahmphaaGreatR28
import Derived.Test.YtlbomnbpahmphaaGreatR29
import Derived.Test.YtlbomnbpahmphaaGreatR27
namespace Go.Proofs.YtlbomnbpahmphaaGreat
open Go.RowKit

/-- Behind an act: the driver lies somewhere as it should. -/
def BAft (base : Nat) (E : En) (Y : Ey) (w0 w w' : World) (D : Dr) (ex : List Bb) : Prop := (∃ tb X, DI base E Y tb w0 w' X D ex) ∧ w.heap.size ≤ w'.heap.size

section
variable {base : Nat} {E : En} {Y : Ey} {tb : List Nat} {w0 w w' : World} {X : Ex} {D : Dr} {ex : List Bb} {kinds : List Int} {b : Nat}

theorem act_0 (a n : Int) (l : List Int) : actD E D ⟨0, a, n, l⟩ = (spawnD E D a l, true) := by simp [actD]
theorem act_2 (a n : Int) (l : List Int) (h : D.queue = []) : actD E D ⟨2, a, n, l⟩ = (D.tell [⟨1, -1, 0, 0⟩], true) := by simp [actD, h]
theorem act_2' (a n : Int) (l : List Int) {m : Int} {q : List Int} (h : D.queue = m :: q) : actD E D ⟨2, a, n, l⟩ = (pollD E D m, true) := by simp [actD, h]
theorem act_5 (a n : Int) (l : List Int) : actD E D ⟨5, a, n, l⟩ = (completeD D a n, true) := by simp [actD]
theorem act_6 (a n : Int) (l : List Int) : actD E D ⟨6, a, n, l⟩ = if D.known a && (D.task a).done then (D.tell [⟨7, a, 0, (D.task a).n⟩], true) else (D, false) := by simp [actD]
theorem act_1 (a n : Int) (l : List Int) : actD E D ⟨1, a, n, l⟩ = if D.live a = true then (pollD E D a, true) else (D, false) := by
 unfold actD
 simp only [if_neg (show ¬ (1 : Int) = 0 by decide), if_neg (show ¬ (1 : Int) = 2 by decide), if_neg (show ¬ (1 : Int) = 5 by decide), if_neg (show ¬ (1 : Int) = 6 by decide), if_true]
 cases D.live a <;> rfl
theorem act_3 (a n : Int) (l : List Int) : actD E D ⟨3, a, n, l⟩ = if D.live a = true then (D.ready a, true) else (D, false) := by
 unfold actD
 simp only [if_neg (show ¬ (3 : Int) = 0 by decide), if_neg (show ¬ (3 : Int) = 2 by decide), if_neg (show ¬ (3 : Int) = 5 by decide), if_neg (show ¬ (3 : Int) = 6 by decide), if_neg (show ¬ (3 : Int) = 1 by decide), if_true]
 cases D.live a <;> rfl
theorem act_4 (a n : Int) (l : List Int) : actD E D ⟨4, a, n, l⟩ = if D.live a = true then (endsD E D a ⟨9, 0, 0, 0⟩, true) else (D, false) := by
 unfold actD
 simp only [if_neg (show ¬ (4 : Int) = 0 by decide), if_neg (show ¬ (4 : Int) = 2 by decide), if_neg (show ¬ (4 : Int) = 5 by decide), if_neg (show ¬ (4 : Int) = 6 by decide), if_neg (show ¬ (4 : Int) = 1 by decide), if_neg (show ¬ (4 : Int) = 3 by decide), if_true]
 cases D.live a <;> rfl
theorem act_x (k a n : Int) (l : List Int) (h : ¬ k = 0 ∧ ¬ k = 1 ∧ ¬ k = 2 ∧ ¬ k = 3 ∧ ¬ k = 4 ∧ ¬ k = 5 ∧ ¬ k = 6) : actD E D ⟨k, a, n, l⟩ = (D, false) := by
 obtain ⟨h0, h1, h2, h3, h4, h5, h6⟩ := h
 unfold actD
 simp only [if_neg h0, if_neg h1, if_neg h2, if_neg h3, if_neg h4, if_neg h5, if_neg h6]

theorem live_at {i : Nat} {t : Tk} (h : D.tasks[i]? = some t) : D.known (i : Int) = true ∧ D.live (i : Int) = t.live ∧ D.task (i : Int) = t := by
 have hi := (List.getElem?_eq_some_iff.1 h).1
 have hk : D.known (i : Int) = true := by
  unfold Dr.known
  have : (i : Int) < (D.tasks.length : Int) := by omega
  simp [hi]
 have ht := task_of h
 exact ⟨hk, by unfold Dr.live; rw [hk, ht]; simp, ht⟩
theorem frame_at (hok : DOk D) {m : Int} (hl : D.live m = true) : ∃ (n i : Nat) (t : Tk) (f : Wd), m = (n : Int) ∧ D.tasks[n]? = some t ∧ t.live = true ∧ t.frame = (i : Int) ∧ D.frames[i]? = some f := by
 have h1 := live_iff.1 hl
 have h2 := hok.live_frame hl
 obtain ⟨n, rfl⟩ : ∃ n : Nat, m = (n : Int) := ⟨m.toNat, by omega⟩
 have hn : n < D.tasks.length := by omega
 obtain ⟨t, ht⟩ : ∃ t, D.tasks[n]? = some t := ⟨_, List.getElem?_eq_getElem hn⟩
 have h3 := live_at ht
 rw [h3.2.2] at h2
 obtain ⟨i, hi⟩ : ∃ i : Nat, t.frame = (i : Int) := ⟨t.frame.toNat, by omega⟩
 exact ⟨n, i, t, _, rfl, ht, h3.2.1.symm.trans hl, hi, List.getElem?_eq_getElem (by omega)⟩

theorem pollL_e (h : DI base E Y tb w0 w X D ex) (hP : PrGood E.P kinds) (hok : DOk D) (hF : DFew b D) (hb : b ≤ 100) (hfu : E.fuel ≤ 3000) {m : Int} (hl : D.live m = true) :
 Calls Tryz.prog 113 #[.pointer (some ⟨Y.d, 0, none⟩), .int .i64 m] w fun e w' => e = .returned (.tuple #[]) ∧ DAft base E Y tb w0 w w' (pollD E D m) ex := by
 obtain ⟨n, i, t, f, rfl, ht, _, hfi, hf⟩ := frame_at hok hl
 obtain ⟨h1, h2⟩ := hF.polled hb hP hfu f n
 have hT := hF.tk
 have hQ := hF.qu
 exact poll_e h hP (hF.fewB hb hfu) ht hfi hf (by omega) (by omega) h1 h2
theorem endsL_e (h : DI base E Y tb w0 w X D ex) (hP : PrGood E.P kinds) (hok : DOk D) (hF : DFew b D) (hb : b ≤ 100) (hfu : E.fuel ≤ 3000) {m : Int} (hl : D.live m = true) (ek et ea en : Int) :
 Calls Tryz.prog 116 #[.pointer (some ⟨Y.d, 0, none⟩), .int .i64 m, .agg #[.int .i64 ek, .int .i64 et, .int .i64 ea, .int .i64 en]] w fun e w' => e = .returned (.tuple #[]) ∧ DAft base E Y tb w0 w w' (endsD E D m ⟨ek, et, ea, en⟩) ex := by
 obtain ⟨n, i, t, f, rfl, ht, _, hfi, hf⟩ := frame_at hok hl
 have hT := hF.tk
 have hQ := hF.qu
 exact ends_e h hP (hF.fewB hb hfu) ht hfi hf (by omega) (by omega) (hF.cancelled hb hP hfu f n) ek et ea en

set_option maxRecDepth 100000 in
set_option maxHeartbeats 400000 in
theorem act0_e (h : DI base E Y tb w0 w X D ex) (a n : Int) (la : Option Addr) (lc : Nat) (args : List Int) (hF : DFew b D) (hb : b ≤ 100) (hargs : ∀ x ∈ E.P.cos, x.args ≤ 1000000000) (hc : IntsAt base w0 la args) :
 Calls Tryz.prog 90 #[.pointer (some ⟨Y.d, 0, none⟩), .agg #[.int .i64 0, .int .i64 a, .int .i64 n, .slice la args.length lc], .int .i64 E.most] w fun e w' => e = .returned (.bool true) ∧ BAft base E Y w0 w w' (spawnD E D a args) ex := by
 have hI := h.box [.int .i64 0, .int .i64 a, .int .i64 n, .slice la args.length lc] 69
 have hd := hI.drow
 obtain ⟨tx, tc, htv, htc, htm, htg, hta⟩ := hI.oT.form
 clear hta
 have c5 := hd.cell (o := 5) rfl
 rw [htv] at c5
 have dl := h.drow.lt
 have hlx : ¬ Y.d = w.heap.size := by omega
 have hS := Lib.hid fun wz (f : Fr Non (w.alloc (.cells #[.int .i64 0, .int .i64 a, .int .i64 n, .slice la args.length lc] 69)) wz) => spawn_e (hI.frN f) (by have := hF.blk; omega) (by have := hF.fr; omega) (by have := hF.tk; omega) (by have := hF.qu; omega) (by have := hF.tr; omega) hargs 0 a n la lc args hc
 obtain ⟨R, hR⟩ : ∃ R, R = spawnD E D a args := ⟨_, rfl⟩
 rw [← hR] at hS ⊢
 have HR := Lib.hid hR.symm
 clear hR
 rcases (by omega : a < 0 ∨ (0 ≤ a ∧ (D.tasks.length : Int) ≤ a) ∨ (0 ≤ a ∧ a < (D.tasks.length : Int))) with hk0 | hk0 | hk0
 · have ha0 : decide (0 ≤ a) = false := decide_eq_false (by omega)
   have HI := Lib.hid hI
   clear h hI hd htg htv hk0
   go_enter Tryz.func90, Tryz.ntmps90
   go_wp2_with fail
   go_quiet (fail)
   go_wp2_with fail
   go_quiet (fail)
   go_wp2_with fail
   refine (hS.out _ (by exact (by repeat (first | exact .refl _ _ | assumption | apply Fr.drewN | apply Fr.drew | apply Fr.drewl | apply Fr.drewNl | apply Fr.alloc)))).mono ?_
   rintro e1 w1 ⟨rfl, tb1, ⟨X1, hD1⟩, hs1⟩
   have HD := Lib.hid hD1
   clear hD1
   go_wp2_with fail
   go_ret
   exact ⟨rfl, ⟨_, _, (HD.out.less (List.sublist_cons_self _ _)).frN (by exact (by repeat (first | exact .refl _ _ | assumption | apply Fr.drewN | apply Fr.drew | apply Fr.drewl | apply Fr.drewNl | apply Fr.alloc)))⟩, by first | omega | (simp; omega) | (simp at hs1 ⊢; omega)⟩
 · have ha0 : decide (0 ≤ a) = true := decide_eq_true hk0.1
   have ha1 : decide (a < (D.tasks.length : Int)) = false := decide_eq_false (by omega)
   have HI := Lib.hid hI
   clear h hI hd htg htv hk0
   go_enter Tryz.func90, Tryz.ntmps90
   go_wp2_with fail
   go_quiet (fail)
   go_wp2_with fail
   go_quiet (fail)
   go_wp2_with fail
   refine (hS.out _ (by exact (by repeat (first | exact .refl _ _ | assumption | apply Fr.drewN | apply Fr.drew | apply Fr.drewl | apply Fr.drewNl | apply Fr.alloc)))).mono ?_
   rintro e1 w1 ⟨rfl, tb1, ⟨X1, hD1⟩, hs1⟩
   have HD := Lib.hid hD1
   clear hD1
   go_wp2_with fail
   go_ret
   exact ⟨rfl, ⟨_, _, (HD.out.less (List.sublist_cons_self _ _)).frN (by exact (by repeat (first | exact .refl _ _ | assumption | apply Fr.drewN | apply Fr.drew | apply Fr.drewl | apply Fr.drewNl | apply Fr.alloc)))⟩, by first | omega | (simp; omega) | (simp at hs1 ⊢; omega)⟩
 · obtain ⟨i, rfl⟩ : ∃ i : Nat, a = (i : Int) := ⟨a.toNat, by omega⟩
   obtain ⟨t, ht⟩ : ∃ t, D.tasks[i]? = some t := ⟨_, List.getElem?_eq_getElem (by omega)⟩
   obtain ⟨bb, hbb, hbr, hbu⟩ := hI.task ht
   clear hbu
   obtain ⟨tg, rfl⟩ := htg (by omega)
   have hoT := hI.oT
   rw [htv] at hoT
   have ct := hoT.cell rfl (show (tb.map ptr)[i]? = some (ptr bb) by simp [hbb])
   unfold ptr at ct
   obtain ⟨tf, tl, td, tn, tw, te⟩ := t
   have t1 := hbr.cell (o := 1) rfl
   have t2 := hbr.cell (o := 2) rfl
   have t3 := hbr.cell (o := 3) rfl
   simp only at t1 t2 t3
   have bl := hbr.lt
   have hi0 : (0 : Int) ≤ (i : Int) := by omega
   have hi1 : (i : Int) < (D.tasks.length : Int) := by omega
   have ha0 : decide ((0 : Int) ≤ (i : Int)) = true := decide_eq_true hi0
   have ha1 : decide ((i : Int) < (D.tasks.length : Int)) = true := decide_eq_true hi1
   have HI := Lib.hid hI
   clear h hI hd hoT hbr htg htv hk0 hbb
   go_enter Tryz.func90, Tryz.ntmps90
   go_wp2_with fail
   go_quiet (fail)
   go_wp2_with fail
   go_quiet (fail)
   go_wp2_with fail
   refine (hS.out _ (by exact (by repeat (first | exact .refl _ _ | assumption | apply Fr.drewN | apply Fr.drew | apply Fr.drewl | apply Fr.drewNl | apply Fr.alloc)))).mono ?_
   rintro e1 w1 ⟨rfl, tb1, ⟨X1, hD1⟩, hs1⟩
   have HD := Lib.hid hD1
   clear hD1
   go_wp2_with fail
   go_ret
   exact ⟨rfl, ⟨_, _, (HD.out.less (List.sublist_cons_self _ _)).frN (by exact (by repeat (first | exact .refl _ _ | assumption | apply Fr.drewN | apply Fr.drew | apply Fr.drewl | apply Fr.drewNl | apply Fr.alloc)))⟩, by first | omega | (simp; omega) | (simp at hs1 ⊢; omega)⟩

set_option maxRecDepth 100000 in
set_option maxHeartbeats 400000 in
theorem act5_e (h : DI base E Y tb w0 w X D ex) (a n : Int) (la : Option Addr) (lc : Nat) (args : List Int) (hF : DFew b D) (hb : b ≤ 100) :
 Calls Tryz.prog 90 #[.pointer (some ⟨Y.d, 0, none⟩), .agg #[.int .i64 5, .int .i64 a, .int .i64 n, .slice la args.length lc], .int .i64 E.most] w fun e w' => e = .returned (.bool true) ∧ BAft base E Y w0 w w' (completeD D a n) ex := by
 have hI := h.box [.int .i64 5, .int .i64 a, .int .i64 n, .slice la args.length lc] 69
 have hd := hI.drow
 obtain ⟨tx, tc, htv, htc, htm, htg, hta⟩ := hI.oT.form
 clear hta
 have c5 := hd.cell (o := 5) rfl
 rw [htv] at c5
 have dl := h.drow.lt
 have hlx : ¬ Y.d = w.heap.size := by omega
 have hS := Lib.hid fun wz (f : Fr Non (w.alloc (.cells #[.int .i64 5, .int .i64 a, .int .i64 n, .slice la args.length lc] 69)) wz) => complete_e (hI.frN f) (by have := hF.tk; omega) (by have := hF.qu; omega) a n
 obtain ⟨R, hR⟩ : ∃ R, R = completeD D a n := ⟨_, rfl⟩
 rw [← hR] at hS ⊢
 clear hR
 rcases (by omega : a < 0 ∨ (0 ≤ a ∧ (D.tasks.length : Int) ≤ a) ∨ (0 ≤ a ∧ a < (D.tasks.length : Int))) with hk0 | hk0 | hk0
 · have ha0 : decide (0 ≤ a) = false := decide_eq_false (by omega)
   have HI := Lib.hid hI
   clear h hI hd htg htv hk0
   go_enter Tryz.func90, Tryz.ntmps90
   go_wp2_with fail
   go_quiet (fail)
   go_wp2_with fail
   go_quiet (fail)
   go_wp2_with fail
   refine (hS.out _ (by exact (by repeat (first | exact .refl _ _ | assumption | apply Fr.drewN | apply Fr.drew | apply Fr.drewl | apply Fr.drewNl | apply Fr.alloc)))).mono ?_
   rintro e1 w1 ⟨rfl, ⟨X1, hD1⟩, hs1⟩
   have HD := Lib.hid hD1
   clear hD1
   go_wp2_with fail
   go_ret
   exact ⟨rfl, ⟨_, _, (HD.out.less (List.sublist_cons_self _ _)).frN (by exact (by repeat (first | exact .refl _ _ | assumption | apply Fr.drewN | apply Fr.drew | apply Fr.drewl | apply Fr.drewNl | apply Fr.alloc)))⟩, by first | omega | (simp; omega) | (simp at hs1 ⊢; omega)⟩
 · have ha0 : decide (0 ≤ a) = true := decide_eq_true hk0.1
   have ha1 : decide (a < (D.tasks.length : Int)) = false := decide_eq_false (by omega)
   have HI := Lib.hid hI
   clear h hI hd htg htv hk0
   go_enter Tryz.func90, Tryz.ntmps90
   go_wp2_with fail
   go_quiet (fail)
   go_wp2_with fail
   go_quiet (fail)
   go_wp2_with fail
   refine (hS.out _ (by exact (by repeat (first | exact .refl _ _ | assumption | apply Fr.drewN | apply Fr.drew | apply Fr.drewl | apply Fr.drewNl | apply Fr.alloc)))).mono ?_
   rintro e1 w1 ⟨rfl, ⟨X1, hD1⟩, hs1⟩
   have HD := Lib.hid hD1
   clear hD1
   go_wp2_with fail
   go_ret
   exact ⟨rfl, ⟨_, _, (HD.out.less (List.sublist_cons_self _ _)).frN (by exact (by repeat (first | exact .refl _ _ | assumption | apply Fr.drewN | apply Fr.drew | apply Fr.drewl | apply Fr.drewNl | apply Fr.alloc)))⟩, by first | omega | (simp; omega) | (simp at hs1 ⊢; omega)⟩
 · obtain ⟨i, rfl⟩ : ∃ i : Nat, a = (i : Int) := ⟨a.toNat, by omega⟩
   obtain ⟨t, ht⟩ : ∃ t, D.tasks[i]? = some t := ⟨_, List.getElem?_eq_getElem (by omega)⟩
   obtain ⟨bb, hbb, hbr, hbu⟩ := hI.task ht
   clear hbu
   obtain ⟨tg, rfl⟩ := htg (by omega)
   have hoT := hI.oT
   rw [htv] at hoT
   have ct := hoT.cell rfl (show (tb.map ptr)[i]? = some (ptr bb) by simp [hbb])
   unfold ptr at ct
   obtain ⟨tf, tl, td, tn, tw, te⟩ := t
   have t1 := hbr.cell (o := 1) rfl
   have t2 := hbr.cell (o := 2) rfl
   have t3 := hbr.cell (o := 3) rfl
   simp only at t1 t2 t3
   have bl := hbr.lt
   have hi0 : (0 : Int) ≤ (i : Int) := by omega
   have hi1 : (i : Int) < (D.tasks.length : Int) := by omega
   have ha0 : decide ((0 : Int) ≤ (i : Int)) = true := decide_eq_true hi0
   have ha1 : decide ((i : Int) < (D.tasks.length : Int)) = true := decide_eq_true hi1
   have HI := Lib.hid hI
   clear h hI hd hoT hbr htg htv hk0 hbb
   go_enter Tryz.func90, Tryz.ntmps90
   go_wp2_with fail
   go_quiet (fail)
   go_wp2_with fail
   go_quiet (fail)
   go_wp2_with fail
   refine (hS.out _ (by exact (by repeat (first | exact .refl _ _ | assumption | apply Fr.drewN | apply Fr.drew | apply Fr.drewl | apply Fr.drewNl | apply Fr.alloc)))).mono ?_
   rintro e1 w1 ⟨rfl, ⟨X1, hD1⟩, hs1⟩
   have HD := Lib.hid hD1
   clear hD1
   go_wp2_with fail
   go_ret
   exact ⟨rfl, ⟨_, _, (HD.out.less (List.sublist_cons_self _ _)).frN (by exact (by repeat (first | exact .refl _ _ | assumption | apply Fr.drewN | apply Fr.drew | apply Fr.drewl | apply Fr.drewNl | apply Fr.alloc)))⟩, by first | omega | (simp; omega) | (simp at hs1 ⊢; omega)⟩

set_option maxRecDepth 100000 in
set_option maxHeartbeats 400000 in
theorem act2_e (h : DI base E Y tb w0 w X D ex) (a n : Int) (la : Option Addr) (lc : Nat) (args : List Int) (hF : DFew b D) (hb : b ≤ 100) (hq : D.queue = []) :
 Calls Tryz.prog 90 #[.pointer (some ⟨Y.d, 0, none⟩), .agg #[.int .i64 2, .int .i64 a, .int .i64 n, .slice la args.length lc], .int .i64 E.most] w fun e w' => e = .returned (.bool true) ∧ BAft base E Y w0 w w' (D.tell [⟨1, -1, 0, 0⟩]) ex := by
 have hI := h.box [.int .i64 2, .int .i64 a, .int .i64 n, .slice la args.length lc] 69
 have hd := hI.drow
 obtain ⟨tx, tc, htv, htc, htm, htg, hta⟩ := hI.oT.form
 clear hta
 have c5 := hd.cell (o := 5) rfl
 rw [htv] at c5
 have dl := h.drow.lt
 have hlx : ¬ Y.d = w.heap.size := by omega
 obtain ⟨qo, qc, hqv, _, _, _, _⟩ := hI.oQ.form
 have c6 := hd.cell (o := 6) rfl
 rw [hqv, hq, List.length_nil] at c6
 clear hqv hq
 have hS := Lib.hid fun wz c (hJ : DI base E Y tb w0 wz X D c) sb (hr : Row wz sb 74 [.int .i64 1, .int .i64 (-1), .int .i64 0, .int .i64 0]) => tell_e hJ sb 0 1 1 [⟨1, -1, 0, 0⟩] rfl (by omega) hr.news (by have := hF.tr; omega)
 obtain ⟨R, hR⟩ : ∃ R, R = D.tell [⟨1, -1, 0, 0⟩] := ⟨_, rfl⟩
 rw [← hR] at hS ⊢
 clear hR
 rcases (by omega : a < 0 ∨ (0 ≤ a ∧ (D.tasks.length : Int) ≤ a) ∨ (0 ≤ a ∧ a < (D.tasks.length : Int))) with hk0 | hk0 | hk0
 · have ha0 : decide (0 ≤ a) = false := decide_eq_false (by omega)
   have HI := Lib.hid hI
   clear h hI hd htg htv hk0
   go_enter Tryz.func90, Tryz.ntmps90
   go_wp2_with fail
   go_quiet (fail)
   go_wp2_with fail
   go_quiet (fail)
   go_wp2_with fail
   refine (hS.out _ _ (HI.out.frN (by exact (by repeat (first | exact .refl _ _ | assumption | apply Fr.drewN | apply Fr.drew | apply Fr.drewl | apply Fr.drewNl | apply Fr.alloc)))) _ (by exact Row.new' (by simp))).mono ?_
   rintro e1 w1 ⟨rfl, ⟨X1, hD1⟩, hs1⟩
   have HD := Lib.hid hD1
   clear hD1
   go_wp2_with fail
   go_ret
   exact ⟨rfl, ⟨_, _, (HD.out.less (List.sublist_cons_self _ _)).frN (by exact (by repeat (first | exact .refl _ _ | assumption | apply Fr.drewN | apply Fr.drew | apply Fr.drewl | apply Fr.drewNl | apply Fr.alloc)))⟩, by first | omega | (simp; omega) | (simp at hs1 ⊢; omega)⟩
 · have ha0 : decide (0 ≤ a) = true := decide_eq_true hk0.1
   have ha1 : decide (a < (D.tasks.length : Int)) = false := decide_eq_false (by omega)
   have HI := Lib.hid hI
   clear h hI hd htg htv hk0
   go_enter Tryz.func90, Tryz.ntmps90
   go_wp2_with fail
   go_quiet (fail)
   go_wp2_with fail
   go_quiet (fail)
   go_wp2_with fail
   refine (hS.out _ _ (HI.out.frN (by exact (by repeat (first | exact .refl _ _ | assumption | apply Fr.drewN | apply Fr.drew | apply Fr.drewl | apply Fr.drewNl | apply Fr.alloc)))) _ (by exact Row.new' (by simp))).mono ?_
   rintro e1 w1 ⟨rfl, ⟨X1, hD1⟩, hs1⟩
   have HD := Lib.hid hD1
   clear hD1
   go_wp2_with fail
   go_ret
   exact ⟨rfl, ⟨_, _, (HD.out.less (List.sublist_cons_self _ _)).frN (by exact (by repeat (first | exact .refl _ _ | assumption | apply Fr.drewN | apply Fr.drew | apply Fr.drewl | apply Fr.drewNl | apply Fr.alloc)))⟩, by first | omega | (simp; omega) | (simp at hs1 ⊢; omega)⟩
 · obtain ⟨i, rfl⟩ : ∃ i : Nat, a = (i : Int) := ⟨a.toNat, by omega⟩
   obtain ⟨t, ht⟩ : ∃ t, D.tasks[i]? = some t := ⟨_, List.getElem?_eq_getElem (by omega)⟩
   obtain ⟨bb, hbb, hbr, hbu⟩ := hI.task ht
   clear hbu
   obtain ⟨tg, rfl⟩ := htg (by omega)
   have hoT := hI.oT
   rw [htv] at hoT
   have ct := hoT.cell rfl (show (tb.map ptr)[i]? = some (ptr bb) by simp [hbb])
   unfold ptr at ct
   obtain ⟨tf, tl, td, tn, tw, te⟩ := t
   have t1 := hbr.cell (o := 1) rfl
   have t2 := hbr.cell (o := 2) rfl
   have t3 := hbr.cell (o := 3) rfl
   simp only at t1 t2 t3
   have bl := hbr.lt
   have hi0 : (0 : Int) ≤ (i : Int) := by omega
   have hi1 : (i : Int) < (D.tasks.length : Int) := by omega
   have ha0 : decide ((0 : Int) ≤ (i : Int)) = true := decide_eq_true hi0
   have ha1 : decide ((i : Int) < (D.tasks.length : Int)) = true := decide_eq_true hi1
   have HI := Lib.hid hI
   clear h hI hd hoT hbr htg htv hk0 hbb
   go_enter Tryz.func90, Tryz.ntmps90
   go_wp2_with fail
   go_quiet (fail)
   go_wp2_with fail
   go_quiet (fail)
   go_wp2_with fail
   refine (hS.out _ _ (HI.out.frN (by exact (by repeat (first | exact .refl _ _ | assumption | apply Fr.drewN | apply Fr.drew | apply Fr.drewl | apply Fr.drewNl | apply Fr.alloc)))) _ (by exact Row.new' (by simp))).mono ?_
   rintro e1 w1 ⟨rfl, ⟨X1, hD1⟩, hs1⟩
   have HD := Lib.hid hD1
   clear hD1
   go_wp2_with fail
   go_ret
   exact ⟨rfl, ⟨_, _, (HD.out.less (List.sublist_cons_self _ _)).frN (by exact (by repeat (first | exact .refl _ _ | assumption | apply Fr.drewN | apply Fr.drew | apply Fr.drewl | apply Fr.drewNl | apply Fr.alloc)))⟩, by first | omega | (simp; omega) | (simp at hs1 ⊢; omega)⟩

set_option maxRecDepth 100000 in
set_option maxHeartbeats 400000 in
theorem act6n_e (h : DI base E Y tb w0 w X D ex) (a n : Int) (la : Option Addr) (lc : Nat) (args : List Int) (hn : (D.known a && (D.task a).done) = false) :
 Calls Tryz.prog 90 #[.pointer (some ⟨Y.d, 0, none⟩), .agg #[.int .i64 6, .int .i64 a, .int .i64 n, .slice la args.length lc], .int .i64 E.most] w fun e w' => e = .returned (.bool false) ∧ BAft base E Y w0 w w' (D) ex := by
 have hI := h.box [.int .i64 6, .int .i64 a, .int .i64 n, .slice la args.length lc] 69
 have hd := hI.drow
 obtain ⟨tx, tc, htv, htc, htm, htg, hta⟩ := hI.oT.form
 clear hta
 have c5 := hd.cell (o := 5) rfl
 rw [htv] at c5
 have dl := h.drow.lt
 have hlx : ¬ Y.d = w.heap.size := by omega
 rcases (by omega : a < 0 ∨ (0 ≤ a ∧ (D.tasks.length : Int) ≤ a) ∨ (0 ≤ a ∧ a < (D.tasks.length : Int))) with hk0 | hk0 | hk0
 · have ha0 : decide (0 ≤ a) = false := decide_eq_false (by omega)
   have HI := Lib.hid hI
   clear h hI hd htg htv hk0 hn
   go_enter Tryz.func90, Tryz.ntmps90
   go_wp2_with fail
   go_quiet (fail)
   go_wp2_with fail
   go_quiet (fail)
   go_wp2_with fail
   go_quiet (fail)
   go_wp2_with fail
   go_ret
   exact ⟨rfl, ⟨_, _, (HI.out.less (List.sublist_cons_self _ _)).frN (by exact (by repeat (first | exact .refl _ _ | assumption | apply Fr.drewN | apply Fr.drew | apply Fr.drewl | apply Fr.drewNl | apply Fr.alloc)))⟩, by first | omega | (simp <;> omega)⟩
 · have ha0 : decide (0 ≤ a) = true := decide_eq_true hk0.1
   have ha1 : decide (a < (D.tasks.length : Int)) = false := decide_eq_false (by omega)
   have HI := Lib.hid hI
   clear h hI hd htg htv hk0 hn
   go_enter Tryz.func90, Tryz.ntmps90
   go_wp2_with fail
   go_quiet (fail)
   go_wp2_with fail
   go_quiet (fail)
   go_wp2_with fail
   go_quiet (fail)
   go_wp2_with fail
   go_ret
   exact ⟨rfl, ⟨_, _, (HI.out.less (List.sublist_cons_self _ _)).frN (by exact (by repeat (first | exact .refl _ _ | assumption | apply Fr.drewN | apply Fr.drew | apply Fr.drewl | apply Fr.drewNl | apply Fr.alloc)))⟩, by first | omega | (simp <;> omega)⟩
 · obtain ⟨i, rfl⟩ : ∃ i : Nat, a = (i : Int) := ⟨a.toNat, by omega⟩
   obtain ⟨t, ht⟩ : ∃ t, D.tasks[i]? = some t := ⟨_, List.getElem?_eq_getElem (by omega)⟩
   obtain ⟨bb, hbb, hbr, hbu⟩ := hI.task ht
   clear hbu
   obtain ⟨tg, rfl⟩ := htg (by omega)
   have hoT := hI.oT
   rw [htv] at hoT
   have ct := hoT.cell rfl (show (tb.map ptr)[i]? = some (ptr bb) by simp [hbb])
   unfold ptr at ct
   obtain ⟨tf, tl, td, tn, tw, te⟩ := t
   have t1 := hbr.cell (o := 1) rfl
   have t2 := hbr.cell (o := 2) rfl
   have t3 := hbr.cell (o := 3) rfl
   simp only at t1 t2 t3
   have bl := hbr.lt
   have hi0 : (0 : Int) ≤ (i : Int) := by omega
   have hi1 : (i : Int) < (D.tasks.length : Int) := by omega
   have ha0 : decide ((0 : Int) ≤ (i : Int)) = true := decide_eq_true hi0
   have ha1 : decide ((i : Int) < (D.tasks.length : Int)) = true := decide_eq_true hi1
   have HI := Lib.hid hI
   clear h hI hd hoT hbr htg htv hk0 hbb
   obtain ⟨e1, _, e3⟩ := live_at ht
   rw [e1, e3] at hn
   obtain rfl : td = false := hn
   clear e1 e3 ht
   go_enter Tryz.func90, Tryz.ntmps90
   go_wp2_with fail
   go_quiet (fail)
   go_wp2_with fail
   go_quiet (fail)
   go_wp2_with fail
   go_quiet (fail)
   go_wp2_with fail
   go_ret
   exact ⟨rfl, ⟨_, _, (HI.out.less (List.sublist_cons_self _ _)).frN (by exact (by repeat (first | exact .refl _ _ | assumption | apply Fr.drewN | apply Fr.drew | apply Fr.drewl | apply Fr.drewNl | apply Fr.alloc)))⟩, by first | omega | (simp <;> omega)⟩

set_option maxRecDepth 100000 in
set_option maxHeartbeats 400000 in
theorem act1n_e (h : DI base E Y tb w0 w X D ex) (a n : Int) (la : Option Addr) (lc : Nat) (args : List Int) (hn : D.live a = false) :
 Calls Tryz.prog 90 #[.pointer (some ⟨Y.d, 0, none⟩), .agg #[.int .i64 1, .int .i64 a, .int .i64 n, .slice la args.length lc], .int .i64 E.most] w fun e w' => e = .returned (.bool false) ∧ BAft base E Y w0 w w' (D) ex := by
 have hI := h.box [.int .i64 1, .int .i64 a, .int .i64 n, .slice la args.length lc] 69
 have hd := hI.drow
 obtain ⟨tx, tc, htv, htc, htm, htg, hta⟩ := hI.oT.form
 clear hta
 have c5 := hd.cell (o := 5) rfl
 rw [htv] at c5
 have dl := h.drow.lt
 have hlx : ¬ Y.d = w.heap.size := by omega
 rcases (by omega : a < 0 ∨ (0 ≤ a ∧ (D.tasks.length : Int) ≤ a) ∨ (0 ≤ a ∧ a < (D.tasks.length : Int))) with hk0 | hk0 | hk0
 · have ha0 : decide (0 ≤ a) = false := decide_eq_false (by omega)
   have HI := Lib.hid hI
   clear h hI hd htg htv hk0 hn
   go_enter Tryz.func90, Tryz.ntmps90
   go_wp2_with fail
   go_quiet (fail)
   go_wp2_with fail
   go_quiet (fail)
   go_wp2_with fail
   go_ret
   exact ⟨rfl, ⟨_, _, (HI.out.less (List.sublist_cons_self _ _)).frN (by exact (by repeat (first | exact .refl _ _ | assumption | apply Fr.drewN | apply Fr.drew | apply Fr.drewl | apply Fr.drewNl | apply Fr.alloc)))⟩, by first | omega | (simp <;> omega)⟩
 · have ha0 : decide (0 ≤ a) = true := decide_eq_true hk0.1
   have ha1 : decide (a < (D.tasks.length : Int)) = false := decide_eq_false (by omega)
   have HI := Lib.hid hI
   clear h hI hd htg htv hk0 hn
   go_enter Tryz.func90, Tryz.ntmps90
   go_wp2_with fail
   go_quiet (fail)
   go_wp2_with fail
   go_quiet (fail)
   go_wp2_with fail
   go_ret
   exact ⟨rfl, ⟨_, _, (HI.out.less (List.sublist_cons_self _ _)).frN (by exact (by repeat (first | exact .refl _ _ | assumption | apply Fr.drewN | apply Fr.drew | apply Fr.drewl | apply Fr.drewNl | apply Fr.alloc)))⟩, by first | omega | (simp <;> omega)⟩
 · obtain ⟨i, rfl⟩ : ∃ i : Nat, a = (i : Int) := ⟨a.toNat, by omega⟩
   obtain ⟨t, ht⟩ : ∃ t, D.tasks[i]? = some t := ⟨_, List.getElem?_eq_getElem (by omega)⟩
   obtain ⟨bb, hbb, hbr, hbu⟩ := hI.task ht
   clear hbu
   obtain ⟨tg, rfl⟩ := htg (by omega)
   have hoT := hI.oT
   rw [htv] at hoT
   have ct := hoT.cell rfl (show (tb.map ptr)[i]? = some (ptr bb) by simp [hbb])
   unfold ptr at ct
   obtain ⟨tf, tl, td, tn, tw, te⟩ := t
   have t1 := hbr.cell (o := 1) rfl
   have t2 := hbr.cell (o := 2) rfl
   have t3 := hbr.cell (o := 3) rfl
   simp only at t1 t2 t3
   have bl := hbr.lt
   have hi0 : (0 : Int) ≤ (i : Int) := by omega
   have hi1 : (i : Int) < (D.tasks.length : Int) := by omega
   have ha0 : decide ((0 : Int) ≤ (i : Int)) = true := decide_eq_true hi0
   have ha1 : decide ((i : Int) < (D.tasks.length : Int)) = true := decide_eq_true hi1
   have HI := Lib.hid hI
   clear h hI hd hoT hbr htg htv hk0 hbb
   obtain ⟨_, e2, _⟩ := live_at ht
   rw [e2] at hn
   obtain rfl : tl = false := hn
   clear e2 ht
   go_enter Tryz.func90, Tryz.ntmps90
   go_wp2_with fail
   go_quiet (fail)
   go_wp2_with fail
   go_quiet (fail)
   go_wp2_with fail
   go_ret
   exact ⟨rfl, ⟨_, _, (HI.out.less (List.sublist_cons_self _ _)).frN (by exact (by repeat (first | exact .refl _ _ | assumption | apply Fr.drewN | apply Fr.drew | apply Fr.drewl | apply Fr.drewNl | apply Fr.alloc)))⟩, by first | omega | (simp <;> omega)⟩

set_option maxRecDepth 100000 in
set_option maxHeartbeats 400000 in
theorem act3n_e (h : DI base E Y tb w0 w X D ex) (a n : Int) (la : Option Addr) (lc : Nat) (args : List Int) (hn : D.live a = false) :
 Calls Tryz.prog 90 #[.pointer (some ⟨Y.d, 0, none⟩), .agg #[.int .i64 3, .int .i64 a, .int .i64 n, .slice la args.length lc], .int .i64 E.most] w fun e w' => e = .returned (.bool false) ∧ BAft base E Y w0 w w' (D) ex := by
 have hI := h.box [.int .i64 3, .int .i64 a, .int .i64 n, .slice la args.length lc] 69
 have hd := hI.drow
 obtain ⟨tx, tc, htv, htc, htm, htg, hta⟩ := hI.oT.form
 clear hta
 have c5 := hd.cell (o := 5) rfl
 rw [htv] at c5
 have dl := h.drow.lt
 have hlx : ¬ Y.d = w.heap.size := by omega
 rcases (by omega : a < 0 ∨ (0 ≤ a ∧ (D.tasks.length : Int) ≤ a) ∨ (0 ≤ a ∧ a < (D.tasks.length : Int))) with hk0 | hk0 | hk0
 · have ha0 : decide (0 ≤ a) = false := decide_eq_false (by omega)
   have HI := Lib.hid hI
   clear h hI hd htg htv hk0 hn
   go_enter Tryz.func90, Tryz.ntmps90
   go_wp2_with fail
   go_quiet (fail)
   go_wp2_with fail
   go_quiet (fail)
   go_wp2_with fail
   go_ret
   exact ⟨rfl, ⟨_, _, (HI.out.less (List.sublist_cons_self _ _)).frN (by exact (by repeat (first | exact .refl _ _ | assumption | apply Fr.drewN | apply Fr.drew | apply Fr.drewl | apply Fr.drewNl | apply Fr.alloc)))⟩, by first | omega | (simp <;> omega)⟩
 · have ha0 : decide (0 ≤ a) = true := decide_eq_true hk0.1
   have ha1 : decide (a < (D.tasks.length : Int)) = false := decide_eq_false (by omega)
   have HI := Lib.hid hI
   clear h hI hd htg htv hk0 hn
   go_enter Tryz.func90, Tryz.ntmps90
   go_wp2_with fail
   go_quiet (fail)
   go_wp2_with fail
   go_quiet (fail)
   go_wp2_with fail
   go_ret
   exact ⟨rfl, ⟨_, _, (HI.out.less (List.sublist_cons_self _ _)).frN (by exact (by repeat (first | exact .refl _ _ | assumption | apply Fr.drewN | apply Fr.drew | apply Fr.drewl | apply Fr.drewNl | apply Fr.alloc)))⟩, by first | omega | (simp <;> omega)⟩
 · obtain ⟨i, rfl⟩ : ∃ i : Nat, a = (i : Int) := ⟨a.toNat, by omega⟩
   obtain ⟨t, ht⟩ : ∃ t, D.tasks[i]? = some t := ⟨_, List.getElem?_eq_getElem (by omega)⟩
   obtain ⟨bb, hbb, hbr, hbu⟩ := hI.task ht
   clear hbu
   obtain ⟨tg, rfl⟩ := htg (by omega)
   have hoT := hI.oT
   rw [htv] at hoT
   have ct := hoT.cell rfl (show (tb.map ptr)[i]? = some (ptr bb) by simp [hbb])
   unfold ptr at ct
   obtain ⟨tf, tl, td, tn, tw, te⟩ := t
   have t1 := hbr.cell (o := 1) rfl
   have t2 := hbr.cell (o := 2) rfl
   have t3 := hbr.cell (o := 3) rfl
   simp only at t1 t2 t3
   have bl := hbr.lt
   have hi0 : (0 : Int) ≤ (i : Int) := by omega
   have hi1 : (i : Int) < (D.tasks.length : Int) := by omega
   have ha0 : decide ((0 : Int) ≤ (i : Int)) = true := decide_eq_true hi0
   have ha1 : decide ((i : Int) < (D.tasks.length : Int)) = true := decide_eq_true hi1
   have HI := Lib.hid hI
   clear h hI hd hoT hbr htg htv hk0 hbb
   obtain ⟨_, e2, _⟩ := live_at ht
   rw [e2] at hn
   obtain rfl : tl = false := hn
   clear e2 ht
   go_enter Tryz.func90, Tryz.ntmps90
   go_wp2_with fail
   go_quiet (fail)
   go_wp2_with fail
   go_quiet (fail)
   go_wp2_with fail
   go_ret
   exact ⟨rfl, ⟨_, _, (HI.out.less (List.sublist_cons_self _ _)).frN (by exact (by repeat (first | exact .refl _ _ | assumption | apply Fr.drewN | apply Fr.drew | apply Fr.drewl | apply Fr.drewNl | apply Fr.alloc)))⟩, by first | omega | (simp <;> omega)⟩

set_option maxRecDepth 100000 in
set_option maxHeartbeats 400000 in
theorem act4n_e (h : DI base E Y tb w0 w X D ex) (a n : Int) (la : Option Addr) (lc : Nat) (args : List Int) (hn : D.live a = false) :
 Calls Tryz.prog 90 #[.pointer (some ⟨Y.d, 0, none⟩), .agg #[.int .i64 4, .int .i64 a, .int .i64 n, .slice la args.length lc], .int .i64 E.most] w fun e w' => e = .returned (.bool false) ∧ BAft base E Y w0 w w' (D) ex := by
 have hI := h.box [.int .i64 4, .int .i64 a, .int .i64 n, .slice la args.length lc] 69
 have hd := hI.drow
 obtain ⟨tx, tc, htv, htc, htm, htg, hta⟩ := hI.oT.form
 clear hta
 have c5 := hd.cell (o := 5) rfl
 rw [htv] at c5
 have dl := h.drow.lt
 have hlx : ¬ Y.d = w.heap.size := by omega
 rcases (by omega : a < 0 ∨ (0 ≤ a ∧ (D.tasks.length : Int) ≤ a) ∨ (0 ≤ a ∧ a < (D.tasks.length : Int))) with hk0 | hk0 | hk0
 · have ha0 : decide (0 ≤ a) = false := decide_eq_false (by omega)
   have HI := Lib.hid hI
   clear h hI hd htg htv hk0 hn
   go_enter Tryz.func90, Tryz.ntmps90
   go_wp2_with fail
   go_quiet (fail)
   go_wp2_with fail
   go_quiet (fail)
   go_wp2_with fail
   go_ret
   exact ⟨rfl, ⟨_, _, (HI.out.less (List.sublist_cons_self _ _)).frN (by exact (by repeat (first | exact .refl _ _ | assumption | apply Fr.drewN | apply Fr.drew | apply Fr.drewl | apply Fr.drewNl | apply Fr.alloc)))⟩, by first | omega | (simp <;> omega)⟩
 · have ha0 : decide (0 ≤ a) = true := decide_eq_true hk0.1
   have ha1 : decide (a < (D.tasks.length : Int)) = false := decide_eq_false (by omega)
   have HI := Lib.hid hI
   clear h hI hd htg htv hk0 hn
   go_enter Tryz.func90, Tryz.ntmps90
   go_wp2_with fail
   go_quiet (fail)
   go_wp2_with fail
   go_quiet (fail)
   go_wp2_with fail
   go_ret
   exact ⟨rfl, ⟨_, _, (HI.out.less (List.sublist_cons_self _ _)).frN (by exact (by repeat (first | exact .refl _ _ | assumption | apply Fr.drewN | apply Fr.drew | apply Fr.drewl | apply Fr.drewNl | apply Fr.alloc)))⟩, by first | omega | (simp <;> omega)⟩
 · obtain ⟨i, rfl⟩ : ∃ i : Nat, a = (i : Int) := ⟨a.toNat, by omega⟩
   obtain ⟨t, ht⟩ : ∃ t, D.tasks[i]? = some t := ⟨_, List.getElem?_eq_getElem (by omega)⟩
   obtain ⟨bb, hbb, hbr, hbu⟩ := hI.task ht
   clear hbu
   obtain ⟨tg, rfl⟩ := htg (by omega)
   have hoT := hI.oT
   rw [htv] at hoT
   have ct := hoT.cell rfl (show (tb.map ptr)[i]? = some (ptr bb) by simp [hbb])
   unfold ptr at ct
   obtain ⟨tf, tl, td, tn, tw, te⟩ := t
   have t1 := hbr.cell (o := 1) rfl
   have t2 := hbr.cell (o := 2) rfl
   have t3 := hbr.cell (o := 3) rfl
   simp only at t1 t2 t3
   have bl := hbr.lt
   have hi0 : (0 : Int) ≤ (i : Int) := by omega
   have hi1 : (i : Int) < (D.tasks.length : Int) := by omega
   have ha0 : decide ((0 : Int) ≤ (i : Int)) = true := decide_eq_true hi0
   have ha1 : decide ((i : Int) < (D.tasks.length : Int)) = true := decide_eq_true hi1
   have HI := Lib.hid hI
   clear h hI hd hoT hbr htg htv hk0 hbb
   obtain ⟨_, e2, _⟩ := live_at ht
   rw [e2] at hn
   obtain rfl : tl = false := hn
   clear e2 ht
   go_enter Tryz.func90, Tryz.ntmps90
   go_wp2_with fail
   go_quiet (fail)
   go_wp2_with fail
   go_quiet (fail)
   go_wp2_with fail
   go_ret
   exact ⟨rfl, ⟨_, _, (HI.out.less (List.sublist_cons_self _ _)).frN (by exact (by repeat (first | exact .refl _ _ | assumption | apply Fr.drewN | apply Fr.drew | apply Fr.drewl | apply Fr.drewNl | apply Fr.alloc)))⟩, by first | omega | (simp <;> omega)⟩

set_option maxRecDepth 100000 in
set_option maxHeartbeats 400000 in
theorem actx_e (h : DI base E Y tb w0 w X D ex) (a n : Int) (la : Option Addr) (lc : Nat) (args : List Int) (k : Int) (hk : ¬ k = 0 ∧ ¬ k = 1 ∧ ¬ k = 2 ∧ ¬ k = 3 ∧ ¬ k = 4 ∧ ¬ k = 5 ∧ ¬ k = 6) :
 Calls Tryz.prog 90 #[.pointer (some ⟨Y.d, 0, none⟩), .agg #[.int .i64 k, .int .i64 a, .int .i64 n, .slice la args.length lc], .int .i64 E.most] w fun e w' => e = .returned (.bool false) ∧ BAft base E Y w0 w w' (D) ex := by
 have hI := h.box [.int .i64 k, .int .i64 a, .int .i64 n, .slice la args.length lc] 69
 have hd := hI.drow
 obtain ⟨tx, tc, htv, htc, htm, htg, hta⟩ := hI.oT.form
 clear hta
 have c5 := hd.cell (o := 5) rfl
 rw [htv] at c5
 have dl := h.drow.lt
 have hlx : ¬ Y.d = w.heap.size := by omega
 obtain ⟨h0, h1, h2, h3, h4, h5, h6⟩ := hk
 have d0 : (k == 0) = false := beq_false_of_ne h0
 have d1 : (k == 1) = false := beq_false_of_ne h1
 have d2 : (k == 2) = false := beq_false_of_ne h2
 have d3 : (k == 3) = false := beq_false_of_ne h3
 have d4 : (k == 4) = false := beq_false_of_ne h4
 have d5 : (k == 5) = false := beq_false_of_ne h5
 have d6 : (k == 6) = false := beq_false_of_ne h6
 clear h0 h1 h2 h3 h4 h5 h6
 rcases (by omega : a < 0 ∨ (0 ≤ a ∧ (D.tasks.length : Int) ≤ a) ∨ (0 ≤ a ∧ a < (D.tasks.length : Int))) with hk0 | hk0 | hk0
 · have ha0 : decide (0 ≤ a) = false := decide_eq_false (by omega)
   have HI := Lib.hid hI
   clear h hI hd htg htv hk0
   go_enter Tryz.func90, Tryz.ntmps90
   go_wp2_with fail
   go_quiet (fail)
   go_wp2_with fail
   go_quiet (fail)
   go_wp2_with fail
   go_ret
   exact ⟨rfl, ⟨_, _, (HI.out.less (List.sublist_cons_self _ _)).frN (by exact (by repeat (first | exact .refl _ _ | assumption | apply Fr.drewN | apply Fr.drew | apply Fr.drewl | apply Fr.drewNl | apply Fr.alloc)))⟩, by first | omega | (simp <;> omega)⟩
 · have ha0 : decide (0 ≤ a) = true := decide_eq_true hk0.1
   have ha1 : decide (a < (D.tasks.length : Int)) = false := decide_eq_false (by omega)
   have HI := Lib.hid hI
   clear h hI hd htg htv hk0
   go_enter Tryz.func90, Tryz.ntmps90
   go_wp2_with fail
   go_quiet (fail)
   go_wp2_with fail
   go_quiet (fail)
   go_wp2_with fail
   go_ret
   exact ⟨rfl, ⟨_, _, (HI.out.less (List.sublist_cons_self _ _)).frN (by exact (by repeat (first | exact .refl _ _ | assumption | apply Fr.drewN | apply Fr.drew | apply Fr.drewl | apply Fr.drewNl | apply Fr.alloc)))⟩, by first | omega | (simp <;> omega)⟩
 · obtain ⟨i, rfl⟩ : ∃ i : Nat, a = (i : Int) := ⟨a.toNat, by omega⟩
   obtain ⟨t, ht⟩ : ∃ t, D.tasks[i]? = some t := ⟨_, List.getElem?_eq_getElem (by omega)⟩
   obtain ⟨bb, hbb, hbr, hbu⟩ := hI.task ht
   clear hbu
   obtain ⟨tg, rfl⟩ := htg (by omega)
   have hoT := hI.oT
   rw [htv] at hoT
   have ct := hoT.cell rfl (show (tb.map ptr)[i]? = some (ptr bb) by simp [hbb])
   unfold ptr at ct
   obtain ⟨tf, tl, td, tn, tw, te⟩ := t
   have t1 := hbr.cell (o := 1) rfl
   have t2 := hbr.cell (o := 2) rfl
   have t3 := hbr.cell (o := 3) rfl
   simp only at t1 t2 t3
   have bl := hbr.lt
   have hi0 : (0 : Int) ≤ (i : Int) := by omega
   have hi1 : (i : Int) < (D.tasks.length : Int) := by omega
   have ha0 : decide ((0 : Int) ≤ (i : Int)) = true := decide_eq_true hi0
   have ha1 : decide ((i : Int) < (D.tasks.length : Int)) = true := decide_eq_true hi1
   have HI := Lib.hid hI
   clear h hI hd hoT hbr htg htv hk0 hbb
   clear ht
   go_enter Tryz.func90, Tryz.ntmps90
   go_wp2_with fail
   go_quiet (fail)
   go_wp2_with fail
   go_quiet (fail)
   go_wp2_with fail
   go_ret
   exact ⟨rfl, ⟨_, _, (HI.out.less (List.sublist_cons_self _ _)).frN (by exact (by repeat (first | exact .refl _ _ | assumption | apply Fr.drewN | apply Fr.drew | apply Fr.drewl | apply Fr.drewNl | apply Fr.alloc)))⟩, by first | omega | (simp <;> omega)⟩

set_option maxRecDepth 100000 in
set_option maxHeartbeats 400000 in
theorem act1_e (h : DI base E Y tb w0 w X D ex) (a n : Int) (la : Option Addr) (lc : Nat) (args : List Int) (hP : PrGood E.P kinds) (hok : DOk D) (hF : DFew b D) (hb : b ≤ 100) (hfu : E.fuel ≤ 3000) (hl : D.live a = true) :
 Calls Tryz.prog 90 #[.pointer (some ⟨Y.d, 0, none⟩), .agg #[.int .i64 1, .int .i64 a, .int .i64 n, .slice la args.length lc], .int .i64 E.most] w fun e w' => e = .returned (.bool true) ∧ BAft base E Y w0 w w' (pollD E D a) ex := by
 have hI := h.box [.int .i64 1, .int .i64 a, .int .i64 n, .slice la args.length lc] 69
 have hd := hI.drow
 obtain ⟨tx, tc, htv, htc, htm, htg, hta⟩ := hI.oT.form
 clear hta
 have c5 := hd.cell (o := 5) rfl
 rw [htv] at c5
 have dl := h.drow.lt
 have hlx : ¬ Y.d = w.heap.size := by omega
 have hk0 : 0 ≤ a ∧ a < (D.tasks.length : Int) := (live_iff.1 hl).1
 have hS := Lib.hid fun wz (f : Fr Non (w.alloc (.cells #[.int .i64 1, .int .i64 a, .int .i64 n, .slice la args.length lc] 69)) wz) => pollL_e (hI.frN f) hP hok hF hb hfu hl
 obtain ⟨R, hR⟩ : ∃ R, R = pollD E D a := ⟨_, rfl⟩
 rw [← hR] at hS ⊢
 clear hR
 obtain ⟨i, rfl⟩ : ∃ i : Nat, a = (i : Int) := ⟨a.toNat, by omega⟩
 obtain ⟨t, ht⟩ : ∃ t, D.tasks[i]? = some t := ⟨_, List.getElem?_eq_getElem (by omega)⟩
 obtain ⟨bb, hbb, hbr, hbu⟩ := hI.task ht
 clear hbu
 obtain ⟨tg, rfl⟩ := htg (by omega)
 have hoT := hI.oT
 rw [htv] at hoT
 have ct := hoT.cell rfl (show (tb.map ptr)[i]? = some (ptr bb) by simp [hbb])
 unfold ptr at ct
 obtain ⟨tf, tl, td, tn, tw, te⟩ := t
 have t1 := hbr.cell (o := 1) rfl
 have t2 := hbr.cell (o := 2) rfl
 have t3 := hbr.cell (o := 3) rfl
 simp only at t1 t2 t3
 have bl := hbr.lt
 have hi0 : (0 : Int) ≤ (i : Int) := by omega
 have hi1 : (i : Int) < (D.tasks.length : Int) := by omega
 have ha0 : decide ((0 : Int) ≤ (i : Int)) = true := decide_eq_true hi0
 have ha1 : decide ((i : Int) < (D.tasks.length : Int)) = true := decide_eq_true hi1
 have HI := Lib.hid hI
 clear h hI hd hoT hbr htg htv hk0 hbb
 obtain ⟨_, e2, _⟩ := live_at ht
 rw [e2] at hl
 obtain rfl : tl = true := hl
 clear e2 ht
 clear hok
 go_enter Tryz.func90, Tryz.ntmps90
 go_wp2_with fail
 go_quiet (fail)
 go_wp2_with fail
 go_quiet (fail)
 go_wp2_with fail
 refine (hS.out _ (by exact (by repeat (first | exact .refl _ _ | assumption | apply Fr.drewN | apply Fr.drew | apply Fr.drewl | apply Fr.drewNl | apply Fr.alloc)))).mono ?_
 rintro e1 w1 ⟨rfl, ⟨X1, hD1⟩, hs1⟩
 have HD := Lib.hid hD1
 clear hD1
 go_wp2_with fail
 go_ret
 exact ⟨rfl, ⟨_, _, (HD.out.less (List.sublist_cons_self _ _)).frN (by exact (by repeat (first | exact .refl _ _ | assumption | apply Fr.drewN | apply Fr.drew | apply Fr.drewl | apply Fr.drewNl | apply Fr.alloc)))⟩, by first | omega | (simp; omega) | (simp at hs1 ⊢; omega)⟩

set_option maxRecDepth 100000 in
set_option maxHeartbeats 400000 in
theorem act4_e (h : DI base E Y tb w0 w X D ex) (a n : Int) (la : Option Addr) (lc : Nat) (args : List Int) (hP : PrGood E.P kinds) (hok : DOk D) (hF : DFew b D) (hb : b ≤ 100) (hfu : E.fuel ≤ 3000) (hl : D.live a = true) :
 Calls Tryz.prog 90 #[.pointer (some ⟨Y.d, 0, none⟩), .agg #[.int .i64 4, .int .i64 a, .int .i64 n, .slice la args.length lc], .int .i64 E.most] w fun e w' => e = .returned (.bool true) ∧ BAft base E Y w0 w w' (endsD E D a ⟨9, 0, 0, 0⟩) ex := by
 have hI := h.box [.int .i64 4, .int .i64 a, .int .i64 n, .slice la args.length lc] 69
 have hd := hI.drow
 obtain ⟨tx, tc, htv, htc, htm, htg, hta⟩ := hI.oT.form
 clear hta
 have c5 := hd.cell (o := 5) rfl
 rw [htv] at c5
 have dl := h.drow.lt
 have hlx : ¬ Y.d = w.heap.size := by omega
 have hk0 : 0 ≤ a ∧ a < (D.tasks.length : Int) := (live_iff.1 hl).1
 have hS := Lib.hid fun wz (f : Fr Non (w.alloc (.cells #[.int .i64 4, .int .i64 a, .int .i64 n, .slice la args.length lc] 69)) wz) => endsL_e (hI.frN f) hP hok hF hb hfu hl 9 0 0 0
 obtain ⟨R, hR⟩ : ∃ R, R = endsD E D a ⟨9, 0, 0, 0⟩ := ⟨_, rfl⟩
 rw [← hR] at hS ⊢
 clear hR
 obtain ⟨i, rfl⟩ : ∃ i : Nat, a = (i : Int) := ⟨a.toNat, by omega⟩
 obtain ⟨t, ht⟩ : ∃ t, D.tasks[i]? = some t := ⟨_, List.getElem?_eq_getElem (by omega)⟩
 obtain ⟨bb, hbb, hbr, hbu⟩ := hI.task ht
 clear hbu
 obtain ⟨tg, rfl⟩ := htg (by omega)
 have hoT := hI.oT
 rw [htv] at hoT
 have ct := hoT.cell rfl (show (tb.map ptr)[i]? = some (ptr bb) by simp [hbb])
 unfold ptr at ct
 obtain ⟨tf, tl, td, tn, tw, te⟩ := t
 have t1 := hbr.cell (o := 1) rfl
 have t2 := hbr.cell (o := 2) rfl
 have t3 := hbr.cell (o := 3) rfl
 simp only at t1 t2 t3
 have bl := hbr.lt
 have hi0 : (0 : Int) ≤ (i : Int) := by omega
 have hi1 : (i : Int) < (D.tasks.length : Int) := by omega
 have ha0 : decide ((0 : Int) ≤ (i : Int)) = true := decide_eq_true hi0
 have ha1 : decide ((i : Int) < (D.tasks.length : Int)) = true := decide_eq_true hi1
 have HI := Lib.hid hI
 clear h hI hd hoT hbr htg htv hk0 hbb
 obtain ⟨_, e2, _⟩ := live_at ht
 rw [e2] at hl
 obtain rfl : tl = true := hl
 clear e2 ht
 clear hok
 go_enter Tryz.func90, Tryz.ntmps90
 go_wp2_with fail
 go_quiet (fail)
 go_wp2_with fail
 go_quiet (fail)
 go_wp2_with fail
 refine (hS.out _ (by exact (by repeat (first | exact .refl _ _ | assumption | apply Fr.drewN | apply Fr.drew | apply Fr.drewl | apply Fr.drewNl | apply Fr.alloc)))).mono ?_
 rintro e1 w1 ⟨rfl, ⟨X1, hD1⟩, hs1⟩
 have HD := Lib.hid hD1
 clear hD1
 go_wp2_with fail
 go_ret
 exact ⟨rfl, ⟨_, _, (HD.out.less (List.sublist_cons_self _ _)).frN (by exact (by repeat (first | exact .refl _ _ | assumption | apply Fr.drewN | apply Fr.drew | apply Fr.drewl | apply Fr.drewNl | apply Fr.alloc)))⟩, by first | omega | (simp; omega) | (simp at hs1 ⊢; omega)⟩

set_option maxRecDepth 100000 in
set_option maxHeartbeats 400000 in
theorem act3_e (h : DI base E Y tb w0 w X D ex) (a n : Int) (la : Option Addr) (lc : Nat) (args : List Int) (hF : DFew b D) (hb : b ≤ 100) (hl : D.live a = true) :
 Calls Tryz.prog 90 #[.pointer (some ⟨Y.d, 0, none⟩), .agg #[.int .i64 3, .int .i64 a, .int .i64 n, .slice la args.length lc], .int .i64 E.most] w fun e w' => e = .returned (.bool true) ∧ BAft base E Y w0 w w' (D.ready a) ex := by
 have hI := h.box [.int .i64 3, .int .i64 a, .int .i64 n, .slice la args.length lc] 69
 have hd := hI.drow
 obtain ⟨tx, tc, htv, htc, htm, htg, hta⟩ := hI.oT.form
 clear hta
 have c5 := hd.cell (o := 5) rfl
 rw [htv] at c5
 have dl := h.drow.lt
 have hlx : ¬ Y.d = w.heap.size := by omega
 have hk0 : 0 ≤ a ∧ a < (D.tasks.length : Int) := (live_iff.1 hl).1
 have hS := Lib.hid fun wz (f : Fr Non (w.alloc (.cells #[.int .i64 3, .int .i64 a, .int .i64 n, .slice la args.length lc] 69)) wz) => ready_e (hI.frN f) (by have := hF.qu; omega) a
 obtain ⟨R, hR⟩ : ∃ R, R = D.ready a := ⟨_, rfl⟩
 rw [← hR] at hS ⊢
 clear hR
 obtain ⟨i, rfl⟩ : ∃ i : Nat, a = (i : Int) := ⟨a.toNat, by omega⟩
 obtain ⟨t, ht⟩ : ∃ t, D.tasks[i]? = some t := ⟨_, List.getElem?_eq_getElem (by omega)⟩
 obtain ⟨bb, hbb, hbr, hbu⟩ := hI.task ht
 clear hbu
 obtain ⟨tg, rfl⟩ := htg (by omega)
 have hoT := hI.oT
 rw [htv] at hoT
 have ct := hoT.cell rfl (show (tb.map ptr)[i]? = some (ptr bb) by simp [hbb])
 unfold ptr at ct
 obtain ⟨tf, tl, td, tn, tw, te⟩ := t
 have t1 := hbr.cell (o := 1) rfl
 have t2 := hbr.cell (o := 2) rfl
 have t3 := hbr.cell (o := 3) rfl
 simp only at t1 t2 t3
 have bl := hbr.lt
 have hi0 : (0 : Int) ≤ (i : Int) := by omega
 have hi1 : (i : Int) < (D.tasks.length : Int) := by omega
 have ha0 : decide ((0 : Int) ≤ (i : Int)) = true := decide_eq_true hi0
 have ha1 : decide ((i : Int) < (D.tasks.length : Int)) = true := decide_eq_true hi1
 have HI := Lib.hid hI
 clear h hI hd hoT hbr htg htv hk0 hbb
 obtain ⟨_, e2, _⟩ := live_at ht
 rw [e2] at hl
 obtain rfl : tl = true := hl
 clear e2 ht
 go_enter Tryz.func90, Tryz.ntmps90
 go_wp2_with fail
 go_quiet (fail)
 go_wp2_with fail
 go_quiet (fail)
 go_wp2_with fail
 refine (hS.out _ (by exact (by repeat (first | exact .refl _ _ | assumption | apply Fr.drewN | apply Fr.drew | apply Fr.drewl | apply Fr.drewNl | apply Fr.alloc)))).mono ?_
 rintro e1 w1 ⟨rfl, ⟨X1, hD1⟩, hs1⟩
 have HD := Lib.hid hD1
 clear hD1
 go_wp2_with fail
 go_ret
 exact ⟨rfl, ⟨_, _, (HD.out.less (List.sublist_cons_self _ _)).frN (by exact (by repeat (first | exact .refl _ _ | assumption | apply Fr.drewN | apply Fr.drew | apply Fr.drewl | apply Fr.drewNl | apply Fr.alloc)))⟩, by first | omega | (simp; omega) | (simp at hs1 ⊢; omega)⟩
end

end Go.Proofs.YtlbomnbpahmphaaGreat

/- Walk: the driver's 'act': the next task, and a join. Conditions: the driver lies there, and stands well; the program is checked; all is few. Printed by genact.py. -/
namespace Go.Proofs.YtlbomnbpahmphaaGreat
open Go.RowKit

/-- The same at some cells. -/
def AgreeC (B : List (Nat × Nat)) (w W : World) : Prop := ∀ b ∈ B, W.cell? ⟨b.1, b.2, none⟩ = w.cell? ⟨b.1, b.2, none⟩
open Classical in
noncomputable def uponC (w : World) (B : List (Nat × Nat)) (g : World) : World := if AgreeC B w g then g else w
theorem uponC_agree (w : World) (B : List (Nat × Nat)) (g : World) : AgreeC B w (uponC w B g) := by
 unfold uponC
 split
 · assumption
 · exact fun _ _ => rfl
theorem uponC_of {w W : World} {B : List (Nat × Nat)} (h : AgreeC B w W) : ∃ g, W = uponC w B g := ⟨W, (if_pos h).symm⟩
theorem agreeC_of {w W : World} {B : List (Nat × Nat)} (h : ∃ g, W = uponC w B g) : AgreeC B w W := by
 obtain ⟨g, rfl⟩ := h
 exact uponC_agree w B g
@[go_sem] theorem cell?_uponC {w : World} {B : List (Nat × Nat)} {g : World} {b o : Nat} (h : (b, o) ∈ B) : (uponC w B g).cell? ⟨b, o, none⟩ = w.cell? ⟨b, o, none⟩ := uponC_agree w B g (b, o) h
theorem agreeC_fr {w W W' : World} {B : List (Nat × Nat)} (h : AgreeC B w W) (hB : ∀ b ∈ B, ∃ v, w.cell? ⟨b.1, b.2, none⟩ = some v) (f : Fr Non W W') : AgreeC B w W' := fun b hb => by
 obtain ⟨v, hv⟩ := hB b hb
 rw [hv]
 exact f.cell ((h b hb).trans hv) id
theorem all_four {B : Nat × Nat → Prop} {a b c d : Nat × Nat} (h1 : B a) (h2 : B b) (h3 : B c) (h4 : B d) : ∀ x ∈ [a, b, c, d], B x := by
 intro x hx
 simp only [List.mem_cons, List.not_mem_nil, or_false] at hx
 rcases hx with rfl | rfl | rfl | rfl <;> assumption

section
variable {base : Nat} {E : En} {Y : Ey} {tb : List Nat} {w0 w w' : World} {X : Ex} {D : Dr} {ex : List Bb} {kinds : List Int} {b : Nat}
theorem tellT_e (h : DI base E Y tb w0 w X D ex) (sb so m c : Nat) (l : List Ev) (hl : l.length = m) (hm : 0 < m) (hc : ∀ (j : Nat) (u : Value), (evs l)[j]? = some u → w.cell? ⟨sb, so + j, none⟩ = some u) (hb : D.trace.length + m ≤ 1000000000000) :
 Calls Tryz.prog 91 #[.pointer (some ⟨Y.d, 0, none⟩), .slice (some ⟨sb, so, none⟩) m c] w fun e w' => e = .returned (.tuple #[]) ∧ (∃ X', DI base E Y tb w0 w' X' (D.tell l) ex ∧ X'.tv = X.tv) ∧ w.heap.size ≤ w'.heap.size := by
 refine (tell_c w Y.d _ _ _ _ _ _ _ _ _ _ D.trace h.drow h.oR sb so m c l hl hm hc hb).mono ?_
 rintro e w' ⟨rfl, v, hr, ho, hg, hf⟩
 exact ⟨rfl, ⟨_, h.rset (v := v) (l := D.trace ++ l) hr (by rw [List.length_append, hl]; exact ho) hf hg, rfl⟩, hf.size⟩

set_option maxRecDepth 100000 in
set_option maxHeartbeats 400000 in
theorem act2p_e (h : DI base E Y tb w0 w X D ex) (a n : Int) (la : Option Addr) (lc : Nat) (args : List Int) (hP : PrGood E.P kinds) (hok : DOk D) (hF : DFew b D) (hb : b ≤ 100) (hfu : E.fuel ≤ 3000) {m : Int} {q : List Int} (hq : D.queue = m :: q) :
 Calls Tryz.prog 90 #[.pointer (some ⟨Y.d, 0, none⟩), .agg #[.int .i64 2, .int .i64 a, .int .i64 n, .slice la args.length lc], .int .i64 E.most] w fun e w' => e = .returned (.bool true) ∧ BAft base E Y w0 w w' (pollD E D m) ex := by
 have hI := h.box [.int .i64 2, .int .i64 a, .int .i64 n, .slice la args.length lc] 69
 have hd := hI.drow
 obtain ⟨tx, tc, htv, htc, htm, htg, hta⟩ := hI.oT.form
 clear hta
 have c5 := hd.cell (o := 5) rfl
 rw [htv] at c5
 have dl := h.drow.lt
 have hlx : ¬ Y.d = w.heap.size := by omega
 obtain ⟨qo, qc, hqv, hqa, hqb, hqg, hqh⟩ := hI.oQ.form
 have hql : D.queue.length = q.length + 1 := by rw [hq]; rfl
 obtain ⟨qg, rfl⟩ := hqg (by omega)
 have hoQ := hI.oQ
 rw [hqv] at hoQ
 have cq := hoQ.cell rfl (show (qints D.queue)[0]? = some (.int .i64 m) by rw [hq]; rfl)
 have ql : qg < w.heap.size := by
  have h2 := h.oQ
  rw [hqv] at h2
  exact h2.lt rfl
 have c6 := hd.cell (o := 6) rfl
 rw [hqv] at c6
 have hl : D.live m = true := hok.q m (by rw [hq]; exact List.mem_cons_self)
 obtain ⟨N, hN⟩ : ∃ N, N = D.queue.length := ⟨_, rfl⟩
 rw [← hN] at c6 hql
 have q0 : ((N : Int) == 0) = false := beq_false_of_ne (by omega)
 have q1 : (0 : Int) < (N : Int) := by omega
 have q2 : 0 < N := by omega
 have hS := Lib.hid fun wz (f : Fr Non (w.alloc (.cells #[.int .i64 2, .int .i64 a, .int .i64 n, .slice la args.length lc] 69)) wz) => pollL_e (hI.frN f) hP hok hF hb hfu hl
 obtain ⟨R, hR⟩ : ∃ R, R = pollD E D m := ⟨_, rfl⟩
 rw [← hR] at hS ⊢
 clear hR hqv hq hql hoQ hqg hl hok hN hqa hqb hqh
 rcases (by omega : a < 0 ∨ (0 ≤ a ∧ (D.tasks.length : Int) ≤ a) ∨ (0 ≤ a ∧ a < (D.tasks.length : Int))) with hk0 | hk0 | hk0
 · have ha0 : decide (0 ≤ a) = false := decide_eq_false (by omega)
   have HI := Lib.hid hI
   clear h hI hd htg htv hk0
   go_enter Tryz.func90, Tryz.ntmps90
   go_wp2_with fail
   go_quiet (fail)
   go_wp2_with fail
   go_quiet (fail)
   go_wp2_with fail
   refine (hS.out _ (by exact (by repeat (first | exact .refl _ _ | assumption | apply Fr.drewN | apply Fr.drew | apply Fr.drewl | apply Fr.drewNl | apply Fr.alloc)))).mono ?_
   rintro e1 w1 ⟨rfl, ⟨X1, hD1⟩, hs1⟩
   have HD := Lib.hid hD1
   clear hD1
   go_wp2_with fail
   go_ret
   exact ⟨rfl, ⟨_, _, (HD.out.less (List.sublist_cons_self _ _)).frN (by exact (by repeat (first | exact .refl _ _ | assumption | apply Fr.drewN | apply Fr.drew | apply Fr.drewl | apply Fr.drewNl | apply Fr.alloc)))⟩, by first | omega | (simp; omega) | (simp at hs1 ⊢; omega)⟩
 · have ha0 : decide (0 ≤ a) = true := decide_eq_true hk0.1
   have ha1 : decide (a < (D.tasks.length : Int)) = false := decide_eq_false (by omega)
   have HI := Lib.hid hI
   clear h hI hd htg htv hk0
   go_enter Tryz.func90, Tryz.ntmps90
   go_wp2_with fail
   go_quiet (fail)
   go_wp2_with fail
   go_quiet (fail)
   go_wp2_with fail
   refine (hS.out _ (by exact (by repeat (first | exact .refl _ _ | assumption | apply Fr.drewN | apply Fr.drew | apply Fr.drewl | apply Fr.drewNl | apply Fr.alloc)))).mono ?_
   rintro e1 w1 ⟨rfl, ⟨X1, hD1⟩, hs1⟩
   have HD := Lib.hid hD1
   clear hD1
   go_wp2_with fail
   go_ret
   exact ⟨rfl, ⟨_, _, (HD.out.less (List.sublist_cons_self _ _)).frN (by exact (by repeat (first | exact .refl _ _ | assumption | apply Fr.drewN | apply Fr.drew | apply Fr.drewl | apply Fr.drewNl | apply Fr.alloc)))⟩, by first | omega | (simp; omega) | (simp at hs1 ⊢; omega)⟩
 · obtain ⟨i, rfl⟩ : ∃ i : Nat, a = (i : Int) := ⟨a.toNat, by omega⟩
   obtain ⟨t, ht⟩ : ∃ t, D.tasks[i]? = some t := ⟨_, List.getElem?_eq_getElem (by omega)⟩
   obtain ⟨bb, hbb, hbr, hbu⟩ := hI.task ht
   clear hbu
   obtain ⟨tg, rfl⟩ := htg (by omega)
   have hoT := hI.oT
   rw [htv] at hoT
   have ct := hoT.cell rfl (show (tb.map ptr)[i]? = some (ptr bb) by simp [hbb])
   unfold ptr at ct
   obtain ⟨tf, tl, td, tn, tw, te⟩ := t
   have t1 := hbr.cell (o := 1) rfl
   have t2 := hbr.cell (o := 2) rfl
   have t3 := hbr.cell (o := 3) rfl
   simp only at t1 t2 t3
   have bl := hbr.lt
   have hi0 : (0 : Int) ≤ (i : Int) := by omega
   have hi1 : (i : Int) < (D.tasks.length : Int) := by omega
   have ha0 : decide ((0 : Int) ≤ (i : Int)) = true := decide_eq_true hi0
   have ha1 : decide ((i : Int) < (D.tasks.length : Int)) = true := decide_eq_true hi1
   have HI := Lib.hid hI
   clear h hI hd hoT hbr htg htv hk0 hbb
   go_enter Tryz.func90, Tryz.ntmps90
   go_wp2_with fail
   go_quiet (fail)
   go_wp2_with fail
   go_quiet (fail)
   go_wp2_with fail
   refine (hS.out _ (by exact (by repeat (first | exact .refl _ _ | assumption | apply Fr.drewN | apply Fr.drew | apply Fr.drewl | apply Fr.drewNl | apply Fr.alloc)))).mono ?_
   rintro e1 w1 ⟨rfl, ⟨X1, hD1⟩, hs1⟩
   have HD := Lib.hid hD1
   clear hD1
   go_wp2_with fail
   go_ret
   exact ⟨rfl, ⟨_, _, (HD.out.less (List.sublist_cons_self _ _)).frN (by exact (by repeat (first | exact .refl _ _ | assumption | apply Fr.drewN | apply Fr.drew | apply Fr.drewl | apply Fr.drewNl | apply Fr.alloc)))⟩, by first | omega | (simp; omega) | (simp at hs1 ⊢; omega)⟩

set_option maxRecDepth 100000 in
set_option maxHeartbeats 400000 in
theorem act6_e (h : DI base E Y tb w0 w X D ex) (a n : Int) (la : Option Addr) (lc : Nat) (args : List Int) (hF : DFew b D) (hb : b ≤ 100) (hl : (D.known a && (D.task a).done) = true) :
 Calls Tryz.prog 90 #[.pointer (some ⟨Y.d, 0, none⟩), .agg #[.int .i64 6, .int .i64 a, .int .i64 n, .slice la args.length lc], .int .i64 E.most] w fun e w' => e = .returned (.bool true) ∧ BAft base E Y w0 w w' (D.tell [⟨7, a, 0, (D.task a).n⟩]) ex := by
 have hI := h.box [.int .i64 6, .int .i64 a, .int .i64 n, .slice la args.length lc] 69
 have hd := hI.drow
 obtain ⟨tx, tc, htv, htc, htm, htg, hta⟩ := hI.oT.form
 clear hta
 have c5 := hd.cell (o := 5) rfl
 rw [htv] at c5
 have dl := h.drow.lt
 have hlx : ¬ Y.d = w.heap.size := by omega
 have hk0 : 0 ≤ a ∧ a < (D.tasks.length : Int) := by
  rw [Bool.and_eq_true] at hl
  have := hl.1
  unfold Dr.known at this
  simpa [Bool.and_eq_true] using this
 have hS := Lib.hid fun wz tn (f : Fr Non (w.alloc (.cells #[.int .i64 6, .int .i64 a, .int .i64 n, .slice la args.length lc] 69)) wz) sb (hr : Row wz sb 74 [.int .i64 7, .int .i64 a, .int .i64 0, .int .i64 tn]) => tellT_e (hI.frN f) sb 0 1 1 [⟨7, a, 0, tn⟩] rfl (by omega) hr.news (by have := hF.tr; omega)
 obtain ⟨i, rfl⟩ : ∃ i : Nat, a = (i : Int) := ⟨a.toNat, by omega⟩
 obtain ⟨t, ht⟩ : ∃ t, D.tasks[i]? = some t := ⟨_, List.getElem?_eq_getElem (by omega)⟩
 obtain ⟨bb, hbb, hbr, hbu⟩ := hI.task ht
 clear hbu
 obtain ⟨tg, rfl⟩ := htg (by omega)
 have hoT := hI.oT
 rw [htv] at hoT
 have ct := hoT.cell rfl (show (tb.map ptr)[i]? = some (ptr bb) by simp [hbb])
 unfold ptr at ct
 obtain ⟨tf, tl, td, tn, tw, te⟩ := t
 have t1 := hbr.cell (o := 1) rfl
 have t2 := hbr.cell (o := 2) rfl
 have t3 := hbr.cell (o := 3) rfl
 simp only at t1 t2 t3
 have bl := hbr.lt
 have hi0 : (0 : Int) ≤ (i : Int) := by omega
 have hi1 : (i : Int) < (D.tasks.length : Int) := by omega
 have ha0 : decide ((0 : Int) ≤ (i : Int)) = true := decide_eq_true hi0
 have ha1 : decide ((i : Int) < (D.tasks.length : Int)) = true := decide_eq_true hi1
 have HI := Lib.hid hI
 have HT := Lib.hid (And.intro htv (And.intro hbb ht))
 clear h hI hd hoT hbr htg htv hk0 hbb
 obtain ⟨e1, _, e3⟩ := live_at ht
 rw [e1, e3] at hl
 obtain rfl : td = true := hl
 rw [e3]
 clear e1 e3 ht
 obtain ⟨R, hR⟩ : ∃ R, R = D.tell [⟨7, (i : Int), 0, tn⟩] := ⟨_, rfl⟩
 have HR := Lib.hid hR.symm
 show Calls _ _ _ _ fun e w' => e = .returned (.bool true) ∧ BAft base E Y w0 w w' (D.tell [⟨7, (i : Int), 0, tn⟩]) ex
 rw [← hR]
 clear hR
 have hbr := HI.out.exrow List.mem_cons_self
 have bx1 := hbr.cell (o := 1) rfl
 clear hbr
 go_enter Tryz.func90, Tryz.ntmps90
 go_wp2_with fail
 go_quiet (fail)
 go_wp2_with fail
 go_quiet (fail)
 go_wp2_with fail
 go_quiet (fail)
 go_wp2_with fail
 generalize hWW : World.drewN _ _ = V
 have hV : Fr Non (w.alloc (.cells #[.int .i64 6, .int .i64 i, .int .i64 n, .slice la args.length lc] 69)) V := by rw [← hWW]; exact (by repeat (first | exact .refl _ _ | assumption | apply Fr.drewN | apply Fr.drew | apply Fr.drewl | apply Fr.drewNl | apply Fr.alloc))
 have v5 := hV.cell c5 id
 have vt := hV.cell ct id
 have v3 := hV.cell t3 id
 have vx := hV.cell bx1 id
 have hsV : V.heap.size = w.heap.size + 1 := by rw [← hWW]; simp
 have tgl := World.block_lt_of_cell? _ _ vt
 simp only at tgl bl
 have hbl2 : bb < V.heap.size := by have := hV.size; omega
 have HV := Lib.hid hV
 clear hV c5 ct t1 t3 bx1 hWW
 have cW : ∃ g, V.drew = uponC V [(w.heap.size, 1), (Y.d, 5), (tg, i), (bb, 3)] g := uponC_of fun _ _ => rfl
 refine Mix.wp_region_mix [2, 6, 8, 10, 13] [(0, 0), (0, 1), (1, 2), (0, 3), (0, 4), (0, 5), (1, 6), (0, 7), (1, 8), (0, 9), (1, 10), (0, 11), (0, 12), (1, 13), (0, 14), (2, 15), (2, 16)] (fun U => ∃ g, U = uponC V [(w.heap.size, 1), (Y.d, 5), (tg, i), (bb, 3)] g) (by kernel_rfl) (by kernel_rfl) cW ?_
 clear cW
 repeat (first | ((first | refine Mix.S_pure rfl rfl ?_ | refine Mix.S_load rfl rfl ?_); intro K hK; simp only [nA, nB, nC]; go_big_quiet_op; go_big_quiet_on) | refine Mix.S_skip0 rfl rfl ?_ | refine Mix.S_skip1 rfl rfl ?_)
 refine Mix.S_eff (o := _) rfl rfl ?_
 intro K hK
 simp only [nA, nB, nC]
 go_simp
 refine hK _ _ ⟨fun hc => uponC_of (agreeC_fr (agreeC_of hc) (all_four ⟨_, vx⟩ ⟨_, v5⟩ ⟨_, vt⟩ ⟨_, v3⟩) (by exact (by repeat (first | exact .refl _ _ | assumption | apply Fr.drewN | apply Fr.drew | apply Fr.drewl | apply Fr.drewNl | apply Fr.alloc)))), ?_⟩
 clear hK K
 refine Mix.S_eff (o := _) rfl rfl ?_
 intro K hK
 simp only [nA, nB, nC]
 go_simp
 refine (hS.out _ tn (HV.out.trans (by exact (by repeat (first | exact .refl _ _ | assumption | apply Fr.drewN | apply Fr.drew | apply Fr.drewl | apply Fr.drewNl | apply Fr.alloc)))) _ (by exact Row.new' hsV)).mono ?_
 rintro e1 w1 ⟨rfl, ⟨X1, hD1, hX1⟩, hs1⟩
 rw [HR.out] at hD1
 have hag : AgreeC [(w.heap.size, 1), (Y.d, 5), (tg, i), (bb, 3)] V w1 := by
  refine all_four ?_ ?_ ?_ ?_
  · exact ((hD1.exrow List.mem_cons_self).cell (o := 1) rfl).trans vx.symm
  · have := hD1.drow.cell (o := 5) rfl
    rw [hX1, HT.out.1] at this
    exact this.trans v5.symm
  · have := hD1.oT
    rw [hX1, HT.out.1, show R.tasks.length = D.tasks.length by rw [← HR.out]; rfl] at this
    show w1.cell? ⟨tg, i, none⟩ = _
    exact (this.cell rfl (show (tb.map ptr)[i]? = some (ptr bb) by simp [HT.out.2.1])).trans vt.symm
  · have hR2 : R.tasks[i]? = some ⟨tf, tl, true, tn, tw, te⟩ := by rw [← HR.out]; exact HT.out.2.2
    obtain ⟨b3, q1, q2, _⟩ := hD1.task hR2
    rw [HT.out.2.1] at q1
    cases q1
    exact (q2.cell (o := 3) rfl).trans v3.symm
 have HD := Lib.hid hD1
 clear hD1
 refine hK _ _ ⟨fun _ => uponC_of hag, ?_⟩
 clear hag
 clear hK K
 refine Mix.S_done ?_
 go_wp2_with fail
 go_ret
 exact ⟨rfl, ⟨_, _, (HD.out.less (List.sublist_cons_self _ _)).frN (by exact (by repeat (first | exact .refl _ _ | assumption | apply Fr.drewN | apply Fr.drew | apply Fr.drewl | apply Fr.drewNl | apply Fr.alloc)))⟩, by first | omega | (simp; omega) | (simp at hs1 ⊢; omega)⟩
end

end Go.Proofs.YtlbomnbpahmphaaGreat
