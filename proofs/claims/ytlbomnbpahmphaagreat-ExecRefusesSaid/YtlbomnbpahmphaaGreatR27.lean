/- Walk: the engine's closure that starts a frame. Conditions: the driver lies there; blocks and frames are few; the arguments lie ahead of all. Printed by genstart.py. -/
import Derived.Test.YtlbomnbpahmphaaGreatR25
import Derived.Test.YtlbomnbpahmphaaGreatR26
import Derived.Test.YtlbomnbpahmphaaGreatR19
import Derived.Test.YtlbomnbpahmphaaGreatR03
namespace Go.Proofs.YtlbomnbpahmphaaGreat
open Go.RowKit

section
variable {base : Nat} {E : En} {Y : Ey} {tb : List Nat} {w0 w w' : World} {X : Ex} {D : Dr} {ex : List Bb}

set_option maxRecDepth 100000 in
set_option maxHeartbeats 4000000 in
theorem startE_e (h : DI base E Y tb w0 w X D ex) (hB : D.S.mem.blocks.length < 1000000) (hF : D.frames.length ≤ 1000000) (hargs : ∀ x ∈ E.P.cos, x.args ≤ 1000000000) (hf0 : Fr (fun x => base ≤ x) w0 w) (co : Int) (la : Option Addr) (lc : Nat) (args : List Int) (hc : IntsAt base w0 la args) :
 Calls Tryz.prog 59 #[.int .i64 co, .slice la args.length lc, .pointer (some ⟨Y.opx, 0, none⟩), .pointer (some ⟨Y.mbx, 0, none⟩), .pointer (some ⟨Y.fbx, 0, none⟩)] w fun e w' =>
  e = .returned (.tuple #[.int .i64 (startD E D co args).2.1, .agg #[.int .i64 (startD E D co args).2.2.1, .int .i64 (startD E D co args).2.2.2]]) ∧ DAft base E Y tb w0 w w' (startD E D co args).1 ex := by
 obtain ⟨R0, hR0⟩ : ∃ R0, R0 = startD E D co args := ⟨_, rfl⟩
 rw [← hR0]
 unfold startD isOpen at hR0
 have hI := h.box [.int .i64 0, .int .i64 0] 119
 have hor := hI.orow
 have hmr := hI.mrow
 have k0 := hor.cell (o := 0) rfl
 have k1 := hmr.cell (o := 0) rfl
 have a0 := h.orow.lt
 have a1 := h.mrow.lt
 have a2 := h.frow.lt
 have kr := hI.exrow List.mem_cons_self
 obtain ⟨kr0, kr1, krz⟩ := row2 kr
 have hOp := h.opn
 have HH := Lib.hid (And.intro hI (And.intro hB (And.intro hargs (And.intro (hc.fr hf0 fun x h => h) (And.intro hF (And.intro kr h))))))
 unfold ptr at k1
 clear h hI hor hmr hB hargs hc hF kr
 generalize hws : w.heap.size = ws at *
 have hL0 : (0 : Int) ≤ (E.opn.length : Int) := by omega
 by_cases hc0 : co < 0
 · have d0 : decide (co < 0) = true := decide_eq_true hc0
   rw [if_neg (by simp; omega)] at hR0
   have HR := Lib.hid hR0
   clear hR0
   go_enter Tryz.func59, Tryz.ntmps59
   go_wp2_with fail
   refine bodyPost_ret (v := .tuple #[.int .i64 0, .agg #[.int .i64 3, .int .i64 0]]) (by simp [results, Tryz.results59, go_sem, hws]) rfl ?_
   rw [HR.out]
   exact ⟨rfl, ⟨_, HH.out.2.2.2.2.2.2.frN ((Fr.refl _ _).alloc _)⟩, by simp⟩
 have d0 : decide (co < 0) = false := decide_eq_false hc0
 obtain ⟨i, rfl⟩ := Int.eq_ofNat_of_zero_le (show 0 ≤ co by omega)
 by_cases hc1 : (E.opn.length : Int) ≤ (i : Int)
 · have d1 : decide ((E.opn.length : Int) ≤ (i : Int)) = true := decide_eq_true hc1
   rw [if_neg (by simp; omega)] at hR0
   have HR := Lib.hid hR0
   clear hR0
   go_enter Tryz.func59, Tryz.ntmps59
   go_wp2_with fail
   refine bodyPost_ret (v := .tuple #[.int .i64 0, .agg #[.int .i64 3, .int .i64 0]]) (by simp [results, Tryz.results59, go_sem, hws]) rfl ?_
   rw [HR.out]
   exact ⟨rfl, ⟨_, HH.out.2.2.2.2.2.2.frN ((Fr.refl _ _).alloc _)⟩, by simp⟩
 have d1 : decide ((E.opn.length : Int) ≤ (i : Int)) = false := decide_eq_false hc1
 obtain ⟨b, hb⟩ : ∃ b, E.opn[i]? = some b := ⟨E.opn[i]'(by omega), List.getElem?_eq_getElem (by omega)⟩
 obtain ⟨og, oo', hoo, hcb⟩ := hOp i b hb
 rw [hoo] at k0
 have hgd : E.opn.getD i false = b := by rw [List.getD_eq_getElem?_getD, hb]; rfl
 have hfW : Fr (fun x => base ≤ x) w0 (w.alloc (.cells #[.int .i64 0, .int .i64 0] 119)) := hf0.alloc _
 have hcell := (hcb.fr hfW fun x h => h).2
 have hi0 : (0 : Int) ≤ (i : Int) := by omega
 have hi1 : (i : Int) < (E.opn.length : Int) := by omega
 clear hOp hcb hb hoo
 cases b with
 | false =>
  rw [if_neg (by rw [Int.toNat_natCast, hgd]; simp)] at hR0
  clear hgd hc0 hc1
  have HR := Lib.hid hR0
  clear hR0
  go_enter Tryz.func59, Tryz.ntmps59
  go_wp2_with fail
  refine bodyPost_ret (v := .tuple #[.int .i64 0, .agg #[.int .i64 3, .int .i64 0]]) (by simp [results, Tryz.results59, go_sem, hws]) rfl ?_
  rw [HR.out]
  exact ⟨rfl, ⟨_, HH.out.2.2.2.2.2.2.frN ((Fr.refl _ _).alloc _)⟩, by simp⟩
 | true =>
  rw [if_pos (by rw [Int.toNat_natCast, hgd]; simp; omega)] at hR0
  clear hgd hc0 hc1
  have hC := Lib.hid fun wz (f : Fr Non (w.alloc (.cells #[.int .i64 0, .int .i64 0] 119)) wz) => (HH.out.1.frN f).step (S' := (startS E.P D.S i args).1) fun A hm => start_i hm HH.out.2.1 i args HH.out.2.2.1 la lc ((HH.out.2.2.2.1.fr ((Fr.refl Non w).alloc _) (high_non _)).fr f (high_non _))
  generalize startS E.P D.S i args = R at *
  obtain ⟨S', wd, kk, nn⟩ := R
  simp only at hC hR0
  have HR := Lib.hid hR0
  clear hR0
  go_enter Tryz.func59, Tryz.ntmps59
  go_wp2_with fail
  refine (hC.out _ (Fr.refl _ _)).mono ?_
  rintro e2 w2 ⟨rfl, hD2, hs2, _⟩
  simp only [World.size_alloc] at hs2
  have hD3 := (hD2.box [.bool wd.p, .int .i64 wd.a, .int .i64 wd.n] 40).box [.int .i64 kk, .int .i64 nn] 44
  simp only [World.size_alloc] at hD3
  have hr9 := hD3.exrow (List.mem_cons_of_mem _ List.mem_cons_self)
  have hr10 := hD3.exrow List.mem_cons_self
  have hr8 := hD3.exrow (List.mem_cons_of_mem _ (List.mem_cons_of_mem _ List.mem_cons_self))
  obtain ⟨p0, p1, p2, pz⟩ := row3 hr9
  obtain ⟨r0, r1, rz⟩ := row2 hr10
  obtain ⟨s0, s1, sz⟩ := row2 hr8
  have hfb := hD3.frow
  have f0 := hfb.cell (o := 0) rfl
  have fz := hfb.frozen
  obtain ⟨fo, fc, hfv, hfc, hfm, _, _⟩ := hD3.oF.form
  rw [hfv] at f0
  have HD := Lib.hid (And.intro hD3 (And.intro hfv hD2))
  clear hC hD2 hD3 hr9 hr10 hr8 hfb hfv
  have hwl : ws < w2.heap.size := by omega
  have hbl : Y.fbx < w2.heap.size := by omega
  have hcase : (kk = 2 ∧ (kk == 2) = true ∧ (kk == 6) = false) ∨ (kk = 6 ∧ (kk == 2) = false ∧ (kk == 6) = true) ∨ (kk ≠ 2 ∧ kk ≠ 6 ∧ (kk == 2) = false ∧ (kk == 6) = false) := by
   by_cases e2 : kk = 2
   · simp [e2]
   by_cases e6 : kk = 6
   · simp [e6]
   simp [e2, e6]
  have hF9 := HH.out.2.2.2.2.1
  rcases hcase with ⟨rfl, d2, d6⟩ | ⟨rfl, d2, d6⟩ | ⟨n2, n6, d2, d6⟩
  · obtain ⟨i0, hii, hz0, hz1, hz2⟩ := info_parts Tryz.infoWord
    have hoF := HD.out.1.oF
    rw [HD.out.2.1] at hoF
    obtain ⟨g, cap, w4, hrun, ho2, hf2, hg2, hlt2⟩ := run_app (P := Tryz.prog) (w := ((w2.alloc (.cells #[.bool wd.p, .int .i64 wd.a, .int .i64 wd.n] 40)).alloc (.cells #[.int .i64 2, .int .i64 nn] 44)).alloc (.cells #[.bool wd.p, .int .i64 wd.a, .int .i64 wd.n] 40)) (hoF.fr (D := Non) (by exact (by repeat (first | exact .refl _ _ | assumption | apply Fr.drewN | apply Fr.drew | apply Fr.drewl | apply Fr.drewNl | apply Fr.alloc))) (fun _ _ => id)) 35 35 i0 _ 24 Tryz.underlying35 hii hz0 hz1 hz2 rfl (by omega) (w2.heap.size + 2) 0 1 1 (flat [wd]) rfl (by exact (Row.new' (by simp)).news)
     (fun u hu => by simp [flat, Wd.cs] at hu; rcases hu with rfl | rfl | rfl <;> rfl) (by omega) (by show (D.frames.length + 1) * 24 ≤ 140737488355328; omega) (by show D.frames.length + 1 ≤ maxLen; unfold maxLen; omega)
    have hs4 := hf2.size
    simp only [World.size_alloc] at hs4
    have hne : (Value.slice fo D.frames.length fc).ownBlock ≠ some Y.fbx := hoF.ne HD.out.1.frow (by decide)
    have hfr4 := hf2.row (HD.out.1.frow.alloc _) hne
    have hx10 := HD.out.1.exrow (g := w2.heap.size + 1) (T := 44) (c := [.int .i64 2, .int .i64 nn]) (by simp)
    have hn10 : (Value.slice fo D.frames.length fc).ownBlock ≠ some (w2.heap.size + 1) := hoF.ne hx10 (by decide)
    have hr4 := hf2.row (hx10.alloc _) hn10
    obtain ⟨y0, y1, yz⟩ := row2 hr4
    clear hx10 hn10 hr4
    have q0 := hfr4.cell (o := 0) rfl
    have qz := hfr4.frozen
    have ql := hfr4.lt
    rw [HD.out.2.1] at q0
    have HX := Lib.hid (And.intro ho2 (And.intro hf2 (And.intro hg2 (And.intro hfr4 (And.intro hlt2 hne)))))
    clear hoF ho2 hf2 hg2 hfr4 hne hlt2
    go_wp2_with (at_builtin; refine wpList_app rfl (.tmp 37) (.tmp 39) _ rfl rfl rfl _ rfl hrun ?_)
    obtain ⟨ho2, hf2, hg2, hfr4, hlt2, hne⟩ := HX.out
    have hlen : (D.frames ++ [wd]).length = D.frames.length + 1 := by simp
    have hin : flat (D.frames ++ [wd]) = flat D.frames ++ flat [wd] := by simp [flat]
    have hDW := HD.out.1.fset (l := D.frames ++ [wd]) (v := .slice (some ⟨g, 0, none⟩) (D.frames.length + 1) cap) (w' := w4.setCell ⟨Y.fbx, 0, none⟩ (.slice (some ⟨g, 0, none⟩) (D.frames.length + 1) cap)) (by exact hfr4.set_same 0 _)
     (by rw [hlen, hin]; exact ho2.fr (Fr.set1 _ _ _ _) (fun x hx e => by subst e; exact ho2.ne hfr4 (by decide) hx))
     (by rw [HD.out.2.1]; exact ((((Fr.refl _ _).alloc _).trans (hf2.mono fun _ _ h => Or.inr h)).trans ((Fr.set1 _ _ _ _).mono fun _ _ h => Or.inl h) : Fr (fun x => x = Y.fbx ∨ (Value.slice fo D.frames.length fc).ownBlock = some x) ((w2.alloc (.cells #[.bool wd.p, .int .i64 wd.a, .int .i64 wd.n] 40)).alloc (.cells #[.int .i64 2, .int .i64 nn] 44)) _))
     (by
      intro x hx
      rw [HD.out.2.1]
      simp only [Value.ownBlock, Option.some.injEq] at hx
      subst hx
      rcases hg2 with k | k
      · exact Or.inl k
      · right; rw [k]; simp)
    have hW8 : w2.heap.size + 2 ≤ (w4.setCell ⟨Y.fbx, 0, none⟩ (.slice (some ⟨g, 0, none⟩) (D.frames.length + 1) cap)).heap.size := by simp; omega
    clear ho2 hf2 hg2 hfr4 hlt2 hne q0 qz ql hrun HX y0 y1 yz
    clear p0 p1 p2 pz r0 r1 rz s0 s1 sz f0 fz
    generalize w4.setCell ⟨Y.fbx, 0, none⟩ (.slice (some ⟨g, 0, none⟩) (D.frames.length + 1) cap) = W at *
    have r8 := hDW.exrow List.mem_cons_self
    obtain ⟨r0, r1, rz⟩ := row2 r8
    have s8 := hDW.exrow (List.mem_cons_of_mem _ (List.mem_cons_of_mem _ List.mem_cons_self))
    obtain ⟨s0, s1, sz⟩ := row2 s8
    have f0 := hDW.frow.cell (o := 0) rfl
    simp only at f0
    clear hlen hin
    have hH9 := Lib.hid (And.intro hDW s8)
    clear hDW s8 r8
    have cW := @Mix.cls_drew W [Y.fbx, w2.heap.size + 1]
    refine Mix.wp_region_mix [0, 4, 6] [(1, 0), (0, 1), (0, 2), (0, 3), (1, 4), (0, 5), (1, 6), (0, 7), (0, 8), (2, 9)] (fun U => ∃ g, U = Mix.upon W [Y.fbx, w2.heap.size + 1] g) (by kernel_rfl) (by kernel_rfl) cW ?_
    clear cW
    repeat (first | ((first | refine Mix.S_pure rfl rfl ?_ | refine Mix.S_load rfl rfl ?_); intro K hK; simp only [nA, nB, nC]; go_big_quiet_op; go_big_quiet_on) | refine Mix.S_skip0 rfl rfl ?_ | refine Mix.S_skip1 rfl rfl ?_)
    refine Mix.S_eff (o := _) rfl rfl ?_
    intro K hK
    simp only [nA, nB, nC]
    go_simp
    refine hK _ _ ⟨Mix.cls_fr (D := fun x => x = ws) (by exact (Fr.set1 _ _ _ _).trans (Fr.set1 _ _ _ _)) (by simp; omega), ?_⟩
    clear hK K
    refine Mix.S_done ?_
    go_wp2_with fail
    have hset := (hH9.out.1.less (ex' := (ws, 119, [.int .i64 0, .int .i64 0]) :: ex) ((List.sublist_cons_self _ _).trans (List.sublist_cons_self _ _))).exset (c' := [.int .i64 2, .int .i64 nn]) (by exact (hH9.out.2.set_same 0 _).set_same 1 _) (by exact (Fr.set1 _ _ _ _).trans (Fr.set1 _ _ _ _))
    refine bodyPost_ret (v := .tuple #[.int .i64 (((D.frames.length + 1) : Nat) - 1), .agg #[.int .i64 2, .int .i64 nn]]) (by simp [results, Tryz.results59, go_sem, s0, s1]) rfl ?_
    rw [HR.out]
    rw [if_pos trivial]
    exact ⟨by simp, ⟨_, (hset.less (List.sublist_cons_self _ _)).frN (by exact (Fr.refl _ _).drew)⟩, by simp; omega⟩
  · have hDW := (HD.out.2.2.box [.bool wd.p, .int .i64 wd.a, .int .i64 wd.n] 40).box [.int .i64 3, .int .i64 nn] 44
    simp only [World.size_alloc] at hDW
    go_wp2_with fail
    have hW8 : w2.heap.size + 2 ≤ ((w2.alloc (.cells #[.bool wd.p, .int .i64 wd.a, .int .i64 wd.n] 40)).alloc (.cells #[.int .i64 3, .int .i64 nn] 44)).heap.size := by simp
    clear p0 p1 p2 pz r0 r1 rz s0 s1 sz f0 fz
    generalize (w2.alloc (.cells #[.bool wd.p, .int .i64 wd.a, .int .i64 wd.n] 40)).alloc (.cells #[.int .i64 3, .int .i64 nn] 44) = W at *
    have r8 := hDW.exrow List.mem_cons_self
    obtain ⟨r0, r1, rz⟩ := row2 r8
    have s8 := hDW.exrow (List.mem_cons_of_mem _ (List.mem_cons_of_mem _ List.mem_cons_self))
    obtain ⟨s0, s1, sz⟩ := row2 s8
    have f0 := hDW.frow.cell (o := 0) rfl
    rw [HD.out.2.1] at f0
    have hH9 := Lib.hid (And.intro hDW s8)
    clear hDW s8 r8
    have cW := @Mix.cls_drew W [Y.fbx, w2.heap.size + 1]
    refine Mix.wp_region_mix [0, 4, 6] [(1, 0), (0, 1), (0, 2), (0, 3), (1, 4), (0, 5), (1, 6), (0, 7), (0, 8), (2, 9)] (fun U => ∃ g, U = Mix.upon W [Y.fbx, w2.heap.size + 1] g) (by kernel_rfl) (by kernel_rfl) cW ?_
    clear cW
    repeat (first | ((first | refine Mix.S_pure rfl rfl ?_ | refine Mix.S_load rfl rfl ?_); intro K hK; simp only [nA, nB, nC]; go_big_quiet_op; go_big_quiet_on) | refine Mix.S_skip0 rfl rfl ?_ | refine Mix.S_skip1 rfl rfl ?_)
    refine Mix.S_eff (o := _) rfl rfl ?_
    intro K hK
    simp only [nA, nB, nC]
    go_simp
    refine hK _ _ ⟨Mix.cls_fr (D := fun x => x = ws) (by exact (Fr.set1 _ _ _ _).trans (Fr.set1 _ _ _ _)) (by simp; omega), ?_⟩
    clear hK K
    refine Mix.S_done ?_
    go_wp2_with fail
    have hset := (hH9.out.1.less (ex' := (ws, 119, [.int .i64 0, .int .i64 0]) :: ex) ((List.sublist_cons_self _ _).trans (List.sublist_cons_self _ _))).exset (c' := [.int .i64 3, .int .i64 nn]) (by exact (hH9.out.2.set_same 0 _).set_same 1 _) (by exact (Fr.set1 _ _ _ _).trans (Fr.set1 _ _ _ _))
    refine bodyPost_ret (v := .tuple #[.int .i64 ((D.frames.length : Nat) - 1), .agg #[.int .i64 3, .int .i64 nn]]) (by simp [results, Tryz.results59, go_sem, s0, s1]) rfl ?_
    rw [HR.out]
    rw [if_neg (by decide)]
    exact ⟨rfl, ⟨_, (hset.less (List.sublist_cons_self _ _)).frN (by exact (Fr.refl _ _).drew)⟩, by simp; omega⟩
  · have hDW := HD.out.1
    go_wp2_with fail
    have hW8 : w2.heap.size + 2 ≤ ((w2.alloc (.cells #[.bool wd.p, .int .i64 wd.a, .int .i64 wd.n] 40)).alloc (.cells #[.int .i64 kk, .int .i64 nn] 44)).heap.size := by simp
    clear p0 p1 p2 pz r0 r1 rz s0 s1 sz f0 fz
    generalize (w2.alloc (.cells #[.bool wd.p, .int .i64 wd.a, .int .i64 wd.n] 40)).alloc (.cells #[.int .i64 kk, .int .i64 nn] 44) = W at *
    have r8 := hDW.exrow List.mem_cons_self
    obtain ⟨r0, r1, rz⟩ := row2 r8
    have s8 := hDW.exrow (List.mem_cons_of_mem _ (List.mem_cons_of_mem _ List.mem_cons_self))
    obtain ⟨s0, s1, sz⟩ := row2 s8
    have f0 := hDW.frow.cell (o := 0) rfl
    rw [HD.out.2.1] at f0
    have hH9 := Lib.hid (And.intro hDW s8)
    clear hDW s8 r8
    have cW := @Mix.cls_drew W [Y.fbx, w2.heap.size + 1]
    refine Mix.wp_region_mix [0, 4, 6] [(1, 0), (0, 1), (0, 2), (0, 3), (1, 4), (0, 5), (1, 6), (0, 7), (0, 8), (2, 9)] (fun U => ∃ g, U = Mix.upon W [Y.fbx, w2.heap.size + 1] g) (by kernel_rfl) (by kernel_rfl) cW ?_
    clear cW
    repeat (first | ((first | refine Mix.S_pure rfl rfl ?_ | refine Mix.S_load rfl rfl ?_); intro K hK; simp only [nA, nB, nC]; go_big_quiet_op; go_big_quiet_on) | refine Mix.S_skip0 rfl rfl ?_ | refine Mix.S_skip1 rfl rfl ?_)
    refine Mix.S_eff (o := _) rfl rfl ?_
    intro K hK
    simp only [nA, nB, nC]
    go_simp
    refine hK _ _ ⟨Mix.cls_fr (D := fun x => x = ws) (by exact (Fr.set1 _ _ _ _).trans (Fr.set1 _ _ _ _)) (by simp; omega), ?_⟩
    clear hK K
    refine Mix.S_done ?_
    go_wp2_with fail
    have hset := (hH9.out.1.less (ex' := (ws, 119, [.int .i64 0, .int .i64 0]) :: ex) ((List.sublist_cons_self _ _).trans (List.sublist_cons_self _ _))).exset (c' := [.int .i64 kk, .int .i64 nn]) (by exact (hH9.out.2.set_same 0 _).set_same 1 _) (by exact (Fr.set1 _ _ _ _).trans (Fr.set1 _ _ _ _))
    refine bodyPost_ret (v := .tuple #[.int .i64 ((D.frames.length : Nat) - 1), .agg #[.int .i64 kk, .int .i64 nn]]) (by simp [results, Tryz.results59, go_sem, s0, s1]) rfl ?_
    rw [HR.out]
    rw [if_neg n2, if_neg n6]
    exact ⟨rfl, ⟨_, (hset.less (List.sublist_cons_self _ _)).frN (by exact (Fr.refl _ _).drew)⟩, by simp; omega⟩
end

end Go.Proofs.YtlbomnbpahmphaaGreat

/- Walk: the driver's 'spawn'. Conditions: the driver lies there; blocks, frames, tasks are few; the arguments lie ahead of all. -/
namespace Go.Proofs.YtlbomnbpahmphaaGreat
open Go.RowKit

theorem Tryz.infoTaskP : (Tryz.prog.info? 181).map (fun i => (i.zero, i.size, i.bytes)) = some (some (.pointer none), 1, 8) := by kernel_rfl

theorem startD_rest (E : En) (D : Dr) (co : Int) (l : List Int) : (startD E D co l).1.trace = D.trace ∧ (startD E D co l).1.queue = D.queue ∧ (startD E D co l).1.tasks = D.tasks ∧ (startD E D co l).1.over = D.over := by
 unfold startD
 split
 · split <;> exact ⟨rfl, rfl, rfl, rfl⟩
 · exact ⟨rfl, rfl, rfl, rfl⟩

section
variable {base : Nat} {E : En} {Y : Ey} {tb : List Nat} {w0 w w' : World} {X : Ex} {D : Dr} {ex : List Bb}

set_option maxRecDepth 100000 in
set_option maxHeartbeats 4000000 in
theorem spawn_e (h : DI base E Y tb w0 w X D ex) (hB : D.S.mem.blocks.length < 1000000) (hF : D.frames.length ≤ 1000000) (hT : D.tasks.length ≤ 1000000) (hQ : D.queue.length ≤ 1000000) (hE : D.trace.length ≤ 100000000) (hargs : ∀ x ∈ E.P.cos, x.args ≤ 1000000000) (k co n : Int) (la : Option Addr) (lc : Nat) (args : List Int) (hc : IntsAt base w0 la args) :
 Calls Tryz.prog 112 #[.pointer (some ⟨Y.d, 0, none⟩), .agg #[.int .i64 k, .int .i64 co, .int .i64 n, .slice la args.length lc], .int .i64 E.most] w fun e w' =>
  e = .returned (.tuple #[]) ∧ ∃ tb', DAft base E Y tb' w0 w w' (spawnD E D co args) ex := by
 obtain ⟨R0, hR0⟩ : ∃ R0, R0 = spawnD E D co args := ⟨_, rfl⟩
 rw [← hR0]
 unfold spawnD at hR0
 have hI := h.box [.int .i64 k, .int .i64 co, .int .i64 n, .slice la args.length lc] 69
 have hd := hI.drow
 have hb := hI.exrow List.mem_cons_self
 obtain ⟨tx, tc, htv, htc, htm, htg, _⟩ := hI.oT.form
 have c0 := hd.cell (o := 0) rfl
 have c5 := hd.cell (o := 5) rfl
 rw [htv] at c5
 have b1 := hb.cell (o := 1) rfl
 have b3 := hb.cell (o := 3) rfl
 have dl := h.drow.lt
 have hW : (w.alloc (.cells #[.int .i64 k, .int .i64 co, .int .i64 n, .slice la args.length lc] 69)).heap.size = w.heap.size + 1 := by simp
 generalize hws : w.heap.size = ws at *
 by_cases hm : E.most ≤ (D.tasks.length : Int)
 · have d0 : decide (E.most ≤ (D.tasks.length : Int)) = true := decide_eq_true hm
   rw [if_pos hm] at hR0
   have hS := Lib.hid (stop_e hI (by omega) 12 0 0 0)
   have HR := Lib.hid hR0
   clear hR0 hm h hI hd hb
   go_enter Tryz.func112, Tryz.ntmps112
   go_wp2_with fail
   refine hS.out.mono ?_
   rintro e1 w1 ⟨rfl, ⟨X1, hD1⟩, hs1⟩
   have HD := Lib.hid hD1
   clear hD1
   go_wp2_with fail
   refine bodyPost_ret (results_none rfl _ _ _) rfl ?_
   rw [HR.out]
   exact ⟨rfl, _, ⟨_, (HD.out.less (List.sublist_cons_self _ _)).frN (by exact (by repeat (first | exact .refl _ _ | assumption | apply Fr.drewN | apply Fr.drew | apply Fr.drewl | apply Fr.drewNl | apply Fr.alloc)))⟩, by first | omega | (simp; omega) | (simp at hs1 ⊢; omega)⟩
 · have d0 : decide (E.most ≤ (D.tasks.length : Int)) = false := decide_eq_false hm
   rw [if_neg hm] at hR0
   obtain ⟨rT, rQ, rK, rO⟩ := startD_rest E D co args
   have hS := Lib.hid fun wz ex' (hJ : DI base E Y tb w0 wz X D ex') => startE_e hJ hB hF hargs hJ.pk.fr co la lc args hc
   have HI := Lib.hid hI
   generalize startD E D co args = R at *
   obtain ⟨R1, ri, rk, rn⟩ := R
   simp only at rT rQ rK rO
   have HH := Lib.hid (And.intro hT (And.intro hQ (And.intro hE (And.intro rT (And.intro rQ (And.intro rK rO))))))
   have HR := Lib.hid hR0
   clear hR0 hm h hI hd hb hB hF hargs hc hT hQ hE rT rQ rK rO
   go_enter Tryz.func112, Tryz.ntmps112
   go_wp2_with fail
   generalize (w.alloc (.cells #[.int .i64 k, .int .i64 co, .int .i64 n, .slice la args.length lc] 69)) = W at *
   refine Mix.once1 (α := World) (F := fun b wz => (∃ X, DI base E Y tb w0 wz X R1 ((b, 119, [.int .i64 rk, .int .i64 rn]) :: (ws, 69, [.int .i64 k, .int .i64 co, .int .i64 n, .slice la args.length lc]) :: ex)) ∧ w.heap.size ≤ wz.heap.size ∧ ws < b) (G := ?G) (fun hk => ?way) ?rest
   case way =>
    have cW := @Mix.cls_drew W [Y.d, ws]
    refine Mix.wp_region_tree [4, 6, 8] (.two [(0,0),(0,1),(0,2),(0,3),(1,4),(0,5),(1,6),(0,7),(1,8)] 9 (.fin [(0,10),(0,11),(0,12),(2,13),(0,14),(2,15)]) 13 (.fin [(3,9),(0,10),(0,11),(0,12),(0,14),(2,15)])) (fun U => ∃ g, U = Mix.upon W [Y.d, ws] g) (by kernel_rfl) (by kernel_rfl) cW ?_
    clear cW
    refine Mix.T_two ?_
    repeat (first | ((first | refine Mix.S_pure rfl rfl ?_ | refine Mix.S_load rfl rfl ?_); intro K hK; simp only [nA, nB, nC]; go_big_quiet_op; go_big_quiet_on) | refine Mix.S_skip0 rfl rfl ?_ | refine Mix.S_skip1 rfl rfl ?_)
    refine Mix.S_done ⟨?_, ?_⟩
    · refine Mix.T_late (C := fun U => ∃ g, U = Mix.upon W [Y.d, ws] g) (o := _) (by kernel_rfl) rfl rfl ?_
      intro K hK
      simp only [nA, nB, nC]
      go_simp
      refine (hS.out _ _ (HI.out.frN (by exact (Fr.refl _ _).drew))).mono ?_
      rintro e1 w2 ⟨rfl, ⟨X1, hD1⟩, hs1⟩
      simp only [World.size_drew] at hs1
      refine hK _ _ ?_
      clear hK K
      refine Mix.T_fin ?_
      simp only [Act.put, List.setIfInBounds_toArray, List.set_cons_succ, List.set_cons_zero]
      repeat (first | ((first | refine Mix.S_pure rfl rfl ?_ | refine Mix.S_load rfl rfl ?_); intro K hK; simp only [nA, nB, nC]; go_big_quiet_op; go_big_quiet_on) | refine Mix.S_skip0 rfl rfl ?_ | refine Mix.S_skip1 rfl rfl ?_)
      refine Mix.S_eff (o := _) rfl rfl ?_
      intro K hK
      simp only [nA, nB, nC]
      go_simp
      refine hK _ _ ⟨Mix.cls_fr (D := Non) (by exact (by repeat (first | exact .refl _ _ | assumption | apply Fr.drewN | apply Fr.drew | apply Fr.drewl | apply Fr.drewNl | apply Fr.alloc))) (by simp [Non]; omega), ?_⟩
      clear hK K
      have hD2 := hD1.box [.int .i64 0, .int .i64 0] 119
      have kr := hD2.exrow List.mem_cons_self
      obtain ⟨kr0, kr1, krz⟩ := row2 kr
      have hs2 : (w2.alloc (.cells #[.int .i64 0, .int .i64 0] 119)).heap.size = w2.heap.size + 1 := by simp
      generalize hbb : w2.heap.size = b at *
      generalize (w2.alloc (.cells #[.int .i64 0, .int .i64 0] 119)) = w3 at *
      (try simp only [Act.put, List.setIfInBounds_toArray, List.set_cons_succ, List.set_cons_zero])
      repeat (first | ((first | refine Mix.S_pure rfl rfl ?_ | refine Mix.S_load rfl rfl ?_); intro K hK; simp only [nA, nB, nC]; go_big_quiet_op; go_big_quiet_on) | refine Mix.S_skip0 rfl rfl ?_ | refine Mix.S_skip1 rfl rfl ?_)
      refine Mix.S_eff (o := _) rfl rfl ?_
      intro K hK
      simp only [nA, nB, nC]
      go_simp
      refine hK _ _ ⟨Mix.cls_fr (D := fun x => x = b) (by exact (Fr.set1 _ _ _ _).trans (Fr.set1 _ _ _ _)) (by simp; omega), ?_⟩
      clear hK K
      refine Mix.S_done ?_
      have hset := hD2.exset (c' := [.int .i64 rk, .int .i64 rn]) (by exact (kr.set_same 0 _).set_same 1 _) (by exact (Fr.set1 _ _ _ _).trans (Fr.set1 _ _ _ _))
      have hs5 : ((w3.setCell ⟨b, 0, none⟩ (.int .i64 rk)).setCell ⟨b, 1, none⟩ (.int .i64 rn)).heap.size = w3.heap.size := by simp
      generalize ((w3.setCell ⟨b, 0, none⟩ (.int .i64 rk)).setCell ⟨b, 1, none⟩ (.int .i64 rn)) = wz at *
      exact hk b wz ⟨⟨_, hset⟩, by omega, by omega⟩
    · refine Mix.T_eff (C := fun U => ∃ g, U = Mix.upon W [Y.d, ws] g) (o := _) rfl rfl ?_
      intro K hK
      simp only [nA, nB, nC]
      go_simp
      refine hK _ _ ⟨Mix.cls_fr (D := Non) (by exact (by repeat (first | exact .refl _ _ | assumption | apply Fr.drewN | apply Fr.drew | apply Fr.drewl | apply Fr.drewNl | apply Fr.alloc))) (by simp [Non]; omega), ?_⟩
      clear hK K
      refine Mix.T_fin ?_
      have hD0 := (HI.out.box [.int .i64 0, .int .i64 0] 119).frN (by exact (Fr.refl _ _).drew)
      simp only [hW] at hD0
      have hs0 : (W.alloc (.cells #[.int .i64 0, .int .i64 0] 119)).drew.heap.size = ws + 2 := by simp; omega
      generalize (W.alloc (.cells #[.int .i64 0, .int .i64 0] 119)).drew = w1 at *
      (try simp only [Act.put, List.setIfInBounds_toArray, List.set_cons_succ, List.set_cons_zero])
      repeat (first | ((first | refine Mix.S_pure rfl rfl ?_ | refine Mix.S_load rfl rfl ?_); intro K hK; simp only [nA, nB, nC]; go_big_quiet_op; go_big_quiet_on) | refine Mix.S_skip0 rfl rfl ?_ | refine Mix.S_skip1 rfl rfl ?_)
      refine Mix.S_late (o := _) rfl rfl ?_
      intro K hK
      simp only [nA, nB, nC]
      (try simp only [Ey.f0])
      go_simp
      refine (hS.out _ _ hD0).mono ?_
      rintro e1 w2 ⟨rfl, ⟨X1, hD1⟩, hs1⟩
      refine hK _ _ ?_
      clear hK K hD0
      (try simp only [Act.put, List.setIfInBounds_toArray, List.set_cons_succ, List.set_cons_zero])
      have kr := hD1.exrow List.mem_cons_self
      obtain ⟨kr0, kr1, krz⟩ := row2 kr
      repeat (first | ((first | refine Mix.S_pure rfl rfl ?_ | refine Mix.S_load rfl rfl ?_); intro K hK; simp only [nA, nB, nC]; go_big_quiet_op; go_big_quiet_on) | refine Mix.S_skip0 rfl rfl ?_ | refine Mix.S_skip1 rfl rfl ?_)
      refine Mix.S_eff (o := _) rfl rfl ?_
      intro K hK
      simp only [nA, nB, nC]
      go_simp
      refine hK _ _ ⟨Mix.cls_fr (D := fun x => x = ws + 1) (by exact (Fr.set1 _ _ _ _).trans (Fr.set1 _ _ _ _)) (by simp; omega), ?_⟩
      clear hK K
      refine Mix.S_done ?_
      have hset := hD1.exset (c' := [.int .i64 rk, .int .i64 rn]) (by exact (kr.set_same 0 _).set_same 1 _) (by exact (Fr.set1 _ _ _ _).trans (Fr.set1 _ _ _ _))
      have hs5 : ((w2.setCell ⟨ws + 1, 0, none⟩ (.int .i64 rk)).setCell ⟨ws + 1, 1, none⟩ (.int .i64 rn)).heap.size = w2.heap.size := by simp
      generalize ((w2.setCell ⟨ws + 1, 0, none⟩ (.int .i64 rk)).setCell ⟨ws + 1, 1, none⟩ (.int .i64 rn)) = wz at *
      exact hk (ws + 1) wz ⟨⟨_, hset⟩, by omega, by omega⟩
   case rest =>
    intro b wz ⟨⟨X1, hD1⟩, hs1, hb1⟩
    obtain ⟨hT, hQ, hE, rT, rQ, rK, rO⟩ := HH.out
    have kb := hD1.exrow List.mem_cons_self
    obtain ⟨kb0, kb1, kbz⟩ := row2 kb
    have ka := hD1.exrow (List.mem_cons_of_mem _ List.mem_cons_self)
    have ka1 := ka.cell (o := 1) rfl
    have hl2 : List.Sublist ex ((b, 119, [.int .i64 rk, .int .i64 rn]) :: (ws, 69, [.int .i64 k, .int .i64 co, .int .i64 n, .slice la args.length lc]) :: ex) := (List.sublist_cons_self _ _).trans (List.sublist_cons_self _ _)
    by_cases e5 : rk = 5
    · have d5 : (rk == 5) = true := by simp [e5]
      have hP := Lib.hid (stop_e hD1 (by rw [rT]; omega) 11 0 0 0)
      clear kb ka hD1
      go_wp2_with fail
      refine hP.out.mono ?_
      rintro e1 w1 ⟨rfl, ⟨X2, hD2⟩, hs2⟩
      have HD := Lib.hid hD2
      clear hD2
      go_wp2_with fail
      refine bodyPost_end (results_none rfl _ _ _) rfl ?_
      rw [HR.out, if_pos e5]
      exact ⟨rfl, _, ⟨_, (HD.out.less hl2).frN (by exact (by repeat (first | exact .refl _ _ | assumption | apply Fr.drewN | apply Fr.drew | apply Fr.drewl | apply Fr.drewNl | apply Fr.alloc)))⟩, by first | omega | (simp; omega) | (simp at hs2 ⊢; omega)⟩
    · have d5 : (rk == 5) = false := by simp [e5]
      by_cases e2 : rk = 2
      · have d2 : (rk == 2) = true := by simp [e2]
        obtain ⟨ty, tyc, hty, htyc, htym, _, _⟩ := hD1.oT.form
        rw [rK] at hty htyc
        have hoT := hD1.oT
        rw [hty, rK] at hoT
        have c5w := hD1.drow.cell (o := 5) rfl
        rw [hty] at c5w
        have hDt := hD1.box [.int .i64 ri, .bool true, .bool false, .int .i64 0, .bool false, .int .i64 0] 180
        have hdt := hDt.drow
        have ct := hdt.cell (o := 5) rfl
        rw [hty] at ct
        obtain ⟨i0, hii, hz0, hz1, hz2⟩ := info_parts Tryz.infoTaskP
        obtain ⟨g, cap, w4, hrun, ho2, hf2, hg2, hlt2⟩ := run_app (P := Tryz.prog) (w := ((wz.alloc (.cells #[.int .i64 ri, .bool true, .bool false, .int .i64 0, .bool false, .int .i64 0] 180)).alloc (.cells #[.pointer (some ⟨wz.heap.size, 0, none⟩)] 181))) (hoT.fr (D := Non) (by exact (by repeat (first | exact .refl _ _ | assumption | apply Fr.drewN | apply Fr.drew | apply Fr.drewl | apply Fr.drewNl | apply Fr.alloc))) (fun _ _ => id)) 163 163 i0 _ 8 Tryz.underlying163 hii hz0 hz1 hz2 rfl (by omega) (wz.heap.size + 1) 0 1 1 [ptr wz.heap.size] rfl (by exact (Row.new' (by simp)).news)
         (fun u hu => by simp at hu; subst hu; rfl) (by omega) (by omega) (by unfold maxLen; omega)
        have hs4 := hf2.size
        simp only [World.size_alloc] at hs4
        have hne : (Value.slice ty D.tasks.length tyc).ownBlock ≠ some Y.d := hoT.ne hD1.drow (by decide)
        have hd4 := hf2.row (hdt.alloc _) hne
        have q0 := hd4.cell (o := 5) rfl
        have qz := hd4.frozen
        have ql := hd4.lt
        rw [hty] at q0
        have HX := Lib.hid (And.intro hDt (And.intro ho2 (And.intro hf2 (And.intro hg2 (And.intro hd4 (And.intro hlt2 (And.intro hne hty)))))))
        clear hoT ho2 hf2 hg2 hd4 hne hlt2 hDt hdt kb ka hD1 hty
        go_wp2_with (at_builtin; refine wpList_app rfl (.tmp 56) (.tmp 60) _ rfl rfl rfl _ rfl hrun ?_)
        obtain ⟨hDt, ho2, hf2, hg2, hd4, hlt2, hne, hty⟩ := HX.out
        have hD5 := hDt.tset (t := ⟨ri, true, false, 0, false, 0⟩) (v := .slice (some ⟨g, 0, none⟩) (D.tasks.length + 1) cap) (w' := w4.setCell ⟨Y.d, 5, none⟩ (.slice (some ⟨g, 0, none⟩) (D.tasks.length + 1) cap)) (by exact hd4.set_same 5 _)
         (by rw [rK, List.map_append]; exact ho2.fr (Fr.set1 _ _ _ _) (fun x hx e => by subst e; exact ho2.ne hd4 (by decide) hx))
         (by rw [hty]; exact ((((Fr.refl _ _).alloc _).trans (hf2.mono fun _ _ h => Or.inr h)).trans ((Fr.set1 _ _ _ _).mono fun _ _ h => Or.inl h) : Fr (fun x => x = Y.d ∨ (Value.slice ty D.tasks.length tyc).ownBlock = some x) (wz.alloc (.cells #[.int .i64 ri, .bool true, .bool false, .int .i64 0, .bool false, .int .i64 0] 180)) _))
         (by
          intro x hx
          rw [hty]
          simp only [Value.ownBlock, Option.some.injEq] at hx
          subst hx
          rcases hg2 with k | k
          · exact Or.inl k
          · right; rw [k]; simp)
        have hs5 : (w4.setCell ⟨Y.d, 5, none⟩ (.slice (some ⟨g, 0, none⟩) (D.tasks.length + 1) cap)).heap.size = w4.heap.size := by simp
        have hRd := Lib.hid (ready_e hD5 (by show R1.queue.length ≤ _; rw [rQ]; omega) (D.tasks.length : Int))
        clear hDt ho2 hf2 hg2 hd4 hlt2 hne hty hD5 q0 qz ql hrun HX ct c5w
        generalize (w4.setCell ⟨Y.d, 5, none⟩ (.slice (some ⟨g, 0, none⟩) (D.tasks.length + 1) cap)) = w5 at *
        go_wp2_with fail
        refine hRd.out.mono ?_
        rintro e1 w6 ⟨rfl, ⟨X2, hD6⟩, hs6⟩
        have hP := Lib.hid (tell_e (hD6.frN ((Fr.refl Non w6).alloc (.cells #[.int .i64 0, .int .i64 D.tasks.length, .int .i64 0, .int .i64 0] 74))) w6.heap.size 0 1 1 [⟨0, D.tasks.length, 0, 0⟩] rfl (by omega) (by exact (Row.new' (by simp)).news) (by
         have : (Dr.ready { R1 with tasks := R1.tasks ++ [⟨ri, true, false, 0, false, 0⟩] } (D.tasks.length : Int)).trace = D.trace := by
          unfold Dr.ready
          split <;> exact rT
         rw [this]
         omega))
        clear hD6
        go_wp2_with fail
        refine hP.out.mono ?_
        rintro e2 w7 ⟨rfl, ⟨X3, hD7⟩, hs7⟩
        have HD := Lib.hid hD7
        clear hD7
        go_wp2_with fail
        refine bodyPost_end (results_none rfl _ _ _) rfl ?_
        rw [HR.out, if_neg e5, if_pos e2, rK]
        rw [rK] at HD
        exact ⟨rfl, _, ⟨_, (HD.out.less hl2).frN (by exact (by repeat (first | exact .refl _ _ | assumption | apply Fr.drewN | apply Fr.drew | apply Fr.drewl | apply Fr.drewNl | apply Fr.alloc)))⟩, by first | omega | (simp; omega) | (simp at hs7 ⊢; omega)⟩
      · have d2 : (rk == 2) = false := by simp [e2]
        have hP := Lib.hid (tell_e (hD1.frN ((Fr.refl Non wz).alloc (.cells #[.int .i64 1, .int .i64 co, .int .i64 0, .int .i64 0] 74))) wz.heap.size 0 1 1 [⟨1, co, 0, 0⟩] rfl (by omega) (by exact (Row.new' (by simp)).news) (by rw [rT]; omega))
        clear kb ka hD1
        go_wp2_with fail
        refine hP.out.mono ?_
        rintro e1 w1 ⟨rfl, ⟨X2, hD2⟩, hs2⟩
        have HD := Lib.hid hD2
        clear hD2
        go_wp2_with fail
        refine bodyPost_end (results_none rfl _ _ _) rfl ?_
        rw [HR.out, if_neg e5, if_neg e2]
        exact ⟨rfl, _, ⟨_, (HD.out.less hl2).frN (by exact (by repeat (first | exact .refl _ _ | assumption | apply Fr.drewN | apply Fr.drew | apply Fr.drewl | apply Fr.drewNl | apply Fr.alloc)))⟩, by first | omega | (simp; omega) | (simp at hs2 ⊢; omega)⟩
end

end Go.Proofs.YtlbomnbpahmphaaGreat
