/- Walks: the engine's closures, as 'Run' lays them. Conditions: the driver lies there; the program is checked; fuel, events and blocks are few. Printed by geneng.py. -/
import Derived.Test.YtlbomnbpahmphaaGreatR24
import Derived.Test.YtlbomnbpahmphaaGreatR19
import Derived.Test.YtlbomnbpahmphaaGreatR03
namespace Go.Proofs.YtlbomnbpahmphaaGreat
open Go.RowKit

section
variable {base : Nat} {E : En} {Y : Ey} {tb : List Nat} {w0 w w' : World} {X : Ex} {D : Dr} {ex : List Bb} {kinds : List Int}

set_option maxRecDepth 100000 in
theorem run1_e (w : World) (k n m : Int) : Calls Tryz.prog 57 #[.agg #[.int .i64 k, .int .i64 n], .int .i64 m] w fun e w' => e = .returned (.agg #[.int .i64 k, .int .i64 n]) ∧ Fr Non w w' := by
 go_enter Tryz.func57, Tryz.ntmps57
 go_wp2_with fail
 refine bodyPost_ret (v := .agg #[.int .i64 k, .int .i64 n]) (by simp [results, Tryz.results57, go_sem]) rfl ⟨rfl, ?_⟩
 exact (by repeat (first | exact .refl _ _ | assumption | apply Fr.drewN | apply Fr.drew | apply Fr.drewl | apply Fr.drewNl | apply Fr.alloc | (refine Fr.setCell ?_ (Or.inr (by simp)) _) | refine Fr.trans ?_ (by assumption)))

set_option maxRecDepth 100000 in
set_option maxHeartbeats 1000000 in
theorem pollE_e (h : DI base E Y tb w0 w X D ex) (hP : PrGood E.P kinds) (hfew : FewB D.S E.fuel) {i : Nat} {xp : Bool} {xa xn : Int} (hi : D.frames[i]? = some ⟨xp, xa, xn⟩) (task : Int) :
 Calls Tryz.prog 60 #[.int .i64 i, .int .i64 task, .pointer (some ⟨Y.ocx, 0, none⟩), .pointer (some ⟨Y.mbx, 0, none⟩), .pointer (some ⟨Y.fbx, 0, none⟩), .pointer (some ⟨Y.ubx, 0, none⟩)] w fun e w' =>
  e = .returned (.agg #[.int .i64 (pollS E.P D.S ⟨xp, xa, xn⟩ task E.fuel).1.1, .int .i64 (pollS E.P D.S ⟨xp, xa, xn⟩ task E.fuel).1.2]) ∧ DAft base E Y tb w0 w w' { D with S := (pollS E.P D.S ⟨xp, xa, xn⟩ task E.fuel).2 } ex := by
 have hil : i < D.frames.length := (List.getElem?_eq_some_iff.1 hi).1
 have hfl : D.frames.length ≤ D.frames.length := Nat.le_refl _
 obtain ⟨fo, fc, hfv, hfc, hfm, hg, _⟩ := h.oF.form
 obtain ⟨fg, rfl⟩ := hg (by omega)
 have a0 := h.crow.lt
 have a1 := h.mrow.lt
 have a2 := h.frow.lt
 have a3 := h.urow.lt
 have a4 : fg < w.heap.size := by have := h.oF; rw [hfv] at this; exact this.lt rfl
 have hI := h.box [.int .i64 0, .int .i64 0] 119
 have hcr := hI.crow
 have hmr := hI.mrow
 have hfr := hI.frow
 have hur := hI.urow
 have hof := hI.oF
 rw [hfv] at hof hfr
 obtain ⟨g0, g1, g2⟩ := flat_get hi
 have k0 := hcr.cell (o := 0) rfl
 have k1 := hmr.cell (o := 0) rfl
 have k2 := hfr.cell (o := 0) rfl
 have k3 := hur.cell (o := 0) rfl
 have k4 := hof.cell rfl g0
 have k5 := hof.cell rfl g1
 have k6 := hof.cell rfl g2
 have kr := hI.exrow List.mem_cons_self
 obtain ⟨kr0, kr1, krz⟩ := row2 kr
 have b0 := hcr.lt
 have b1 := hmr.lt
 have b2 := hfr.lt
 have b3 := hur.lt
 have b4 := World.block_lt_of_cell? _ _ k4
 have hC := Lib.hid fun wz (f : Fr Non (w.alloc (.cells #[.int .i64 0, .int .i64 0] 119)) wz) => (hI.frN f).step (S' := (pollS E.P D.S ⟨xp, xa, xn⟩ task E.fuel).2) fun A hm => poll_m hm hP xp xa xn task E.fuel hfew
 have hsW : (w.alloc (.cells #[.int .i64 0, .int .i64 0] 119)).heap.size = w.heap.size + 1 := by simp
 have hkb : fbox Y X ∈ dbox Y X D.over :: fbox Y X :: (ebox Y E ++ (tbs tb D.tasks ++ ((w.heap.size, 119, [.int .i64 0, .int .i64 0]) :: ex))) := by simp
 have HI := Lib.hid hI
 have HV := Lib.hid hfv
 unfold ptr at k1
 clear h hI hcr hmr hfr hur hof g0 g1 g2 hi hP hfew hfv kr hg
 generalize pollS E.P D.S ⟨xp, xa, xn⟩ task E.fuel = R at *
 obtain ⟨⟨rk, rn⟩, S'⟩ := R
 simp only at hC ⊢
 have hi0 : (0 : Int) ≤ (i : Int) := by omega
 have hi1 : (i : Int) < (D.frames.length : Int) := by omega
 have HS := Lib.hid hsW
 generalize hws : w.heap.size = ws at *
 go_enter Tryz.func60, Tryz.ntmps60
 go_wp2_with fail
 generalize (w.alloc (.cells #[.int .i64 0, .int .i64 0] 119)) = W at *
 have cW := @Mix.cls_drew W [Y.ocx, Y.mbx, Y.fbx, fg, Y.ubx]
 refine Mix.wp_region_mix [0, 1, 2, 5, 7] [(1, 0), (1, 1), (1, 2), (0, 3), (0, 4), (1, 5), (0, 6), (1, 7), (2, 8), (0, 9), (0, 10), (2, 11), (2, 12)] (fun U => ∃ g, U = Mix.upon W [Y.ocx, Y.mbx, Y.fbx, fg, Y.ubx] g) (by kernel_rfl) (by kernel_rfl) cW ?_
 clear cW
 repeat (first | ((first | refine Mix.S_pure rfl rfl ?_ | refine Mix.S_load rfl rfl ?_); intro K hK; simp only [nA, nB, nC]; go_big_quiet_op; go_big_quiet_on) | refine Mix.S_skip0 rfl rfl ?_ | refine Mix.S_skip1 rfl rfl ?_)
 refine Mix.S_eff (o := _) rfl rfl ?_
 intro K hK
 simp only [nA, nB, nC]
 go_simp
 refine (hC.out _ (by exact (Fr.refl _ _).drew)).mono ?_
 rintro e1 w2 ⟨rfl, hD2, hs2, F, hF, hFb, hFo⟩
 have nF0 : ¬ F Y.ocx := hFb (Y.ocx, 120, [.func (.func 57) #[] #[]]) (by simp [ebox])
 have nF1 : ¬ F Y.mbx := hFb (Y.mbx, 29, [ptr Y.m]) (by simp [ebox])
 have nF2 : ¬ F Y.fbx := hFb (fbox Y X) hkb
 have nF3 : ¬ F Y.ubx := hFb (Y.ubx, 3, [.int .i64 E.fuel]) (by simp [ebox])
 have nF4 : ¬ F fg := hFo (oF X D.frames) (by simp) fg (by show X.fv.ownBlock = _; rw [HV.out]; rfl)
 refine hK _ _ ⟨Mix.cls_fr (D := F) hF (by simp only [List.mem_cons, List.not_mem_nil, or_false, World.size_drew]; rintro b (rfl | rfl | rfl | rfl | rfl) <;> exact ⟨by assumption, by assumption⟩), ?_⟩
 clear hK K nF0 nF1 nF2 nF3 nF4 hF hFb hFo
 simp only [World.size_drew] at hs2
 repeat (first | ((first | refine Mix.S_pure rfl rfl ?_ | refine Mix.S_load rfl rfl ?_); intro K hK; simp only [nA, nB, nC]; go_big_quiet_op; go_big_quiet_on) | refine Mix.S_skip0 rfl rfl ?_ | refine Mix.S_skip1 rfl rfl ?_)
 refine Mix.S_eff (o := _) rfl rfl ?_
 intro K hK
 simp only [nA, nB, nC]
 go_simp
 refine (run1_e _ rk rn _).mono ?_
 rintro e3 w3 ⟨rfl, hf3⟩
 refine hK _ _ ⟨Mix.cls_fr (D := Non) hf3 (by simp [Non]; omega), ?_⟩
 clear hK K
 have hD3 := hD2.frN hf3
 have kr := hD3.exrow List.mem_cons_self
 obtain ⟨kr0, kr1, krz⟩ := row2 kr
 have hs3 := hf3.size
 have HD := Lib.hid (And.intro hD3 kr)
 clear hD2 hD3 hf3 kr
 refine Mix.S_eff (o := _) rfl rfl ?_
 intro K hK
 simp only [nA, nB, nC]
 go_simp
 refine hK _ _ ⟨Mix.cls_fr (D := fun x => x = ws) (by exact (Fr.set1 _ _ _ _).trans (Fr.set1 _ _ _ _)) (by simp; omega), ?_⟩
 clear hK K
 refine Mix.S_done ?_
 go_wp2_with fail
 have hset := HD.out.1.exset (c' := [.int .i64 rk, .int .i64 rn]) (by exact (HD.out.2.set_same 0 _).set_same 1 _) (by exact (Fr.set1 _ _ _ _).trans (Fr.set1 _ _ _ _))
 refine bodyPost_ret (v := .agg #[.int .i64 rk, .int .i64 rn]) (by simp [results, Tryz.results60, go_sem, kr0, kr1]) rfl ⟨rfl, ⟨_, hset.less (by simp)⟩, by simp; omega⟩

set_option maxRecDepth 100000 in
set_option maxHeartbeats 1000000 in
theorem cancelE_e (h : DI base E Y tb w0 w X D ex) (hP : PrGood E.P kinds) (hfew : FewB D.S E.fuel) {i : Nat} {xp : Bool} {xa xn : Int} (hi : D.frames[i]? = some ⟨xp, xa, xn⟩) (task : Int) :
 Calls Tryz.prog 61 #[.int .i64 i, .int .i64 task, .pointer (some ⟨Y.ocx, 0, none⟩), .pointer (some ⟨Y.mbx, 0, none⟩), .pointer (some ⟨Y.fbx, 0, none⟩), .pointer (some ⟨Y.ubx, 0, none⟩)] w fun e w' =>
  e = .returned (.agg #[.int .i64 (cancelS E.P D.S ⟨xp, xa, xn⟩ task E.fuel).1.1, .int .i64 (cancelS E.P D.S ⟨xp, xa, xn⟩ task E.fuel).1.2]) ∧ DAft base E Y tb w0 w w' { D with S := (cancelS E.P D.S ⟨xp, xa, xn⟩ task E.fuel).2 } ex := by
 have hil : i < D.frames.length := (List.getElem?_eq_some_iff.1 hi).1
 have hfl : D.frames.length ≤ D.frames.length := Nat.le_refl _
 obtain ⟨fo, fc, hfv, hfc, hfm, hg, _⟩ := h.oF.form
 obtain ⟨fg, rfl⟩ := hg (by omega)
 have a0 := h.crow.lt
 have a1 := h.mrow.lt
 have a2 := h.frow.lt
 have a3 := h.urow.lt
 have a4 : fg < w.heap.size := by have := h.oF; rw [hfv] at this; exact this.lt rfl
 have hI := h.box [.int .i64 0, .int .i64 0] 119
 have hcr := hI.crow
 have hmr := hI.mrow
 have hfr := hI.frow
 have hur := hI.urow
 have hof := hI.oF
 rw [hfv] at hof hfr
 obtain ⟨g0, g1, g2⟩ := flat_get hi
 have k0 := hcr.cell (o := 0) rfl
 have k1 := hmr.cell (o := 0) rfl
 have k2 := hfr.cell (o := 0) rfl
 have k3 := hur.cell (o := 0) rfl
 have k4 := hof.cell rfl g0
 have k5 := hof.cell rfl g1
 have k6 := hof.cell rfl g2
 have kr := hI.exrow List.mem_cons_self
 obtain ⟨kr0, kr1, krz⟩ := row2 kr
 have b0 := hcr.lt
 have b1 := hmr.lt
 have b2 := hfr.lt
 have b3 := hur.lt
 have b4 := World.block_lt_of_cell? _ _ k4
 have hC := Lib.hid fun wz (f : Fr Non (w.alloc (.cells #[.int .i64 0, .int .i64 0] 119)) wz) => (hI.frN f).step (S' := (cancelS E.P D.S ⟨xp, xa, xn⟩ task E.fuel).2) fun A hm => cancel_m hm hP xp xa xn task E.fuel hfew
 have hsW : (w.alloc (.cells #[.int .i64 0, .int .i64 0] 119)).heap.size = w.heap.size + 1 := by simp
 have hkb : fbox Y X ∈ dbox Y X D.over :: fbox Y X :: (ebox Y E ++ (tbs tb D.tasks ++ ((w.heap.size, 119, [.int .i64 0, .int .i64 0]) :: ex))) := by simp
 have HI := Lib.hid hI
 have HV := Lib.hid hfv
 unfold ptr at k1
 clear h hI hcr hmr hfr hur hof g0 g1 g2 hi hP hfew hfv kr hg
 generalize cancelS E.P D.S ⟨xp, xa, xn⟩ task E.fuel = R at *
 obtain ⟨⟨rk, rn⟩, S'⟩ := R
 simp only at hC ⊢
 have hi0 : (0 : Int) ≤ (i : Int) := by omega
 have hi1 : (i : Int) < (D.frames.length : Int) := by omega
 have HS := Lib.hid hsW
 generalize hws : w.heap.size = ws at *
 go_enter Tryz.func61, Tryz.ntmps61
 go_wp2_with fail
 generalize (w.alloc (.cells #[.int .i64 0, .int .i64 0] 119)) = W at *
 have cW := @Mix.cls_drew W [Y.ocx, Y.mbx, Y.fbx, fg, Y.ubx]
 refine Mix.wp_region_mix [0, 1, 2, 5, 7] [(1, 0), (1, 1), (1, 2), (0, 3), (0, 4), (1, 5), (0, 6), (1, 7), (2, 8), (0, 9), (0, 10), (2, 11), (2, 12)] (fun U => ∃ g, U = Mix.upon W [Y.ocx, Y.mbx, Y.fbx, fg, Y.ubx] g) (by kernel_rfl) (by kernel_rfl) cW ?_
 clear cW
 repeat (first | ((first | refine Mix.S_pure rfl rfl ?_ | refine Mix.S_load rfl rfl ?_); intro K hK; simp only [nA, nB, nC]; go_big_quiet_op; go_big_quiet_on) | refine Mix.S_skip0 rfl rfl ?_ | refine Mix.S_skip1 rfl rfl ?_)
 refine Mix.S_eff (o := _) rfl rfl ?_
 intro K hK
 simp only [nA, nB, nC]
 go_simp
 refine (hC.out _ (by exact (Fr.refl _ _).drew)).mono ?_
 rintro e1 w2 ⟨rfl, hD2, hs2, F, hF, hFb, hFo⟩
 have nF0 : ¬ F Y.ocx := hFb (Y.ocx, 120, [.func (.func 57) #[] #[]]) (by simp [ebox])
 have nF1 : ¬ F Y.mbx := hFb (Y.mbx, 29, [ptr Y.m]) (by simp [ebox])
 have nF2 : ¬ F Y.fbx := hFb (fbox Y X) hkb
 have nF3 : ¬ F Y.ubx := hFb (Y.ubx, 3, [.int .i64 E.fuel]) (by simp [ebox])
 have nF4 : ¬ F fg := hFo (oF X D.frames) (by simp) fg (by show X.fv.ownBlock = _; rw [HV.out]; rfl)
 refine hK _ _ ⟨Mix.cls_fr (D := F) hF (by simp only [List.mem_cons, List.not_mem_nil, or_false, World.size_drew]; rintro b (rfl | rfl | rfl | rfl | rfl) <;> exact ⟨by assumption, by assumption⟩), ?_⟩
 clear hK K nF0 nF1 nF2 nF3 nF4 hF hFb hFo
 simp only [World.size_drew] at hs2
 repeat (first | ((first | refine Mix.S_pure rfl rfl ?_ | refine Mix.S_load rfl rfl ?_); intro K hK; simp only [nA, nB, nC]; go_big_quiet_op; go_big_quiet_on) | refine Mix.S_skip0 rfl rfl ?_ | refine Mix.S_skip1 rfl rfl ?_)
 refine Mix.S_eff (o := _) rfl rfl ?_
 intro K hK
 simp only [nA, nB, nC]
 go_simp
 refine (run1_e _ rk rn _).mono ?_
 rintro e3 w3 ⟨rfl, hf3⟩
 refine hK _ _ ⟨Mix.cls_fr (D := Non) hf3 (by simp [Non]; omega), ?_⟩
 clear hK K
 have hD3 := hD2.frN hf3
 have kr := hD3.exrow List.mem_cons_self
 obtain ⟨kr0, kr1, krz⟩ := row2 kr
 have hs3 := hf3.size
 have HD := Lib.hid (And.intro hD3 kr)
 clear hD2 hD3 hf3 kr
 refine Mix.S_eff (o := _) rfl rfl ?_
 intro K hK
 simp only [nA, nB, nC]
 go_simp
 refine hK _ _ ⟨Mix.cls_fr (D := fun x => x = ws) (by exact (Fr.set1 _ _ _ _).trans (Fr.set1 _ _ _ _)) (by simp; omega), ?_⟩
 clear hK K
 refine Mix.S_done ?_
 go_wp2_with fail
 have hset := HD.out.1.exset (c' := [.int .i64 rk, .int .i64 rn]) (by exact (HD.out.2.set_same 0 _).set_same 1 _) (by exact (Fr.set1 _ _ _ _).trans (Fr.set1 _ _ _ _))
 refine bodyPost_ret (v := .agg #[.int .i64 rk, .int .i64 rn]) (by simp [results, Tryz.results61, go_sem, kr0, kr1]) rfl ⟨rfl, ⟨_, hset.less (by simp)⟩, by simp; omega⟩
end

end Go.Proofs.YtlbomnbpahmphaaGreat
