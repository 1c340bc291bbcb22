/- Walks: the machine's 'frame'. Conditions: the machine's cells that are read; the memory is its own. -/
import Derived.Test.YtlbomnbpahmphaaGreatR13
namespace Go.Proofs.YtlbomnbpahmphaaGreat
open Go.RowKit

set_option maxRecDepth 100000 in
set_option maxHeartbeats 1000000 in
theorem frame_c {D : Nat → Prop} {w : World} {m mb cb o i : Nat} {M : Mem} {ln cc : Nat} {x : Cr} (h1 : w.cell? ⟨m, 1, none⟩ = some (.slice (some ⟨cb, o, none⟩) ln cc)) (h2 : w.cell? ⟨m, 2, none⟩ = some (.pointer (some ⟨mb, 0, none⟩)))
 (hx : w.cell? ⟨cb, o + i * 5 + 3, none⟩ = some (.int .i64 x.words)) (hi : i < ln) (h : MI D w mb M) (hDl : ∀ x, D x → x < w.heap.size) (hDm : ¬ D m) (hDc : ¬ D cb) (hB : M.blocks.length < 1000000000000) (P : Pr) (hP : P.co i = x) :
 Calls Tryz.prog 37 #[.pointer (some ⟨m, 0, none⟩), .int .i64 i] w fun e w' => e = .returned (.tuple #[.agg #[.bool (frameS P M i).2.1.p, .int .i64 (frameS P M i).2.1.a, .int .i64 (frameS P M i).2.1.n], .int .i64 (frameS P M i).2.2]) ∧
  (∃ D', MI D' w' mb (frameS P M i).1 ∧ ∀ b, D' b → D b ∨ (w.heap.size ≤ b ∧ b < w'.heap.size)) ∧ Fr D w w' := by
 obtain ⟨R, hR⟩ : ∃ R, R = frameS P M i := ⟨_, rfl⟩
 rw [← hR]
 unfold frameS at hR
 rw [hP] at hR
 have hA := Lib.hid fun w1 (f : Fr Non w w1) => alloc_i (h.frN f) x.words hB
 generalize M.alloc x.words = L at *
 obtain ⟨M1, ⟨xp, xa, xn⟩, er⟩ := L
 simp only at hA hR
 have HR := Lib.hid hR
 have HD := Lib.hid (And.intro hDm (And.intro hDc (And.intro h.lt hDl)))
 have hm := World.block_lt_of_cell? w _ h1
 have hcb := World.block_lt_of_cell? w _ hx
 have h0i : (0 : Int) ≤ (i : Int) := by omega
 have hil : (i : Int) < (ln : Int) := by omega
 clear hR h hDm hDc hB hP hDl
 have H0 := Lib.hid (And.intro h2 hm)
 have hR' : (er = 0 ∧ (er == 0) = true) ∨ (er ≠ 0 ∧ (er == 0) = false) := by by_cases h : er = 0 <;> simp [h]
 go_enter Tryz.func37, Tryz.ntmps37
 go_wp2_with fail
 have rb : Row (w.alloc (.cells #[.bool false, .int .i64 0, .int .i64 0] 40)) w.heap.size 40 [.bool false, .int .i64 0, .int .i64 0] := Row.new' rfl
 have hf0 : Fr Non w (w.alloc (.cells #[.bool false, .int .i64 0, .int .i64 0] 40)) := by exact (by repeat (first | exact .refl _ _ | assumption | apply Fr.drewN | apply Fr.drew | apply Fr.drewl | apply Fr.drewNl | apply Fr.alloc))
 have hs : (w.alloc (.cells #[.bool false, .int .i64 0, .int .i64 0] 40)).heap.size = w.heap.size + 1 := by simp
 have k1 := hf0.cell h1 id
 have k2 := hf0.cell h2 id
 have kx := hf0.cell hx id
 generalize w.alloc (.cells #[.bool false, .int .i64 0, .int .i64 0] 40) = W at *
 have HW := Lib.hid (And.intro rb hf0)
 clear rb hf0 h1 h2 hx
 have cW := @Mix.cls_drew W [m, cb]
 refine Mix.wp_region_alt [3, 8, 12] [(0, 0), (0, 1), (0, 2), (1, 3), (0, 4), (0, 5), (0, 6), (0, 7), (1, 8), (0, 9), (0, 10), (0, 11), (1, 12)] 13 17 [(0, 14), (0, 15), (0, 16), (2, 17), (2, 18), (0, 19)] [(2, 13), (0, 14), (0, 15), (0, 16), (2, 18), (0, 19)] (fun V => ∃ g, V = Mix.upon W [m, cb] g) (by kernel_rfl) (by kernel_rfl) cW ?_
 clear cW
 repeat (first | ((first | refine Mix.S_pure rfl rfl ?_ | refine Mix.S_load rfl rfl ?_); intro K hK; simp only [nA, nB, nC]; go_big_quiet_op; go_big_quiet_on) | refine Mix.S_skip0 rfl rfl ?_ | refine Mix.S_skip1 rfl rfl ?_)
 refine Mix.S_done ?_
 refine ⟨?_, ?_⟩
 · refine Mix.N_eff (C := fun V => ∃ g, V = Mix.upon W [m, cb] g) (o := _) rfl rfl ?_
   intro K hK
   simp only [nA, nB, nC]
   go_simp
   refine (hA.out _ (by exact HW.out.2.drew)).mono ?_
   rintro e1 w1 ⟨rfl, ⟨D1, hM1, hD1⟩, hg⟩
   have hg1 : Fr D W w1 := Fr.trans (by exact (Fr.refl D W).drew) hg
   refine hK _ _ ⟨Mix.cls_fr (D := D) hg (by simp; exact ⟨⟨by omega, HD.out.1⟩, ⟨by omega, HD.out.2.1⟩⟩), ?_⟩
   clear hK K
   have hs1 := hg1.size
   simp only [World.size_drew] at hD1
   have HM := Lib.hid (And.intro hM1 (And.intro hD1 hg1))
   clear hM1 hD1 hg hg1 k1 k2 kx
   repeat (first | ((first | refine Mix.S_pure rfl rfl ?_ | refine Mix.S_load rfl rfl ?_); intro K hK; simp only [nA, nB, nC]; go_big_quiet_op; go_big_quiet_on) | refine Mix.S_skip0 rfl rfl ?_ | refine Mix.S_skip1 rfl rfl ?_)
   refine Mix.S_eff (o := _) rfl rfl ?_
   intro K hK
   simp only [nA, nB, nC]
   go_simp
   refine hK _ _ ⟨Mix.cls_fr (D := Non) (by exact (by repeat (first | exact .refl _ _ | assumption | apply Fr.drewN | apply Fr.drew | apply Fr.drewl | apply Fr.drewNl | apply Fr.alloc))) (by simp [Non]; omega), ?_⟩
   clear hK K
   refine Mix.S_eff (o := _) rfl rfl ?_
   intro K hK
   simp only [nA, nB, nC]
   go_simp
   refine hK _ _ ⟨Mix.cls_fr (D := fun x => x = w1.heap.size) (by exact Fr.realloc _ _ _) (by simp; omega), ?_⟩
   clear hK K
   repeat (first | ((first | refine Mix.S_pure rfl rfl ?_ | refine Mix.S_load rfl rfl ?_); intro K hK; simp only [nA, nB, nC]; go_big_quiet_op; go_big_quiet_on) | refine Mix.S_skip0 rfl rfl ?_ | refine Mix.S_skip1 rfl rfl ?_)
   refine Mix.S_done ?_
   have r6 : Row (w1.alloc (.cells #[.bool xp, .int .i64 xa, .int .i64 xn] 40)) w1.heap.size 40 [.bool xp, .int .i64 xa, .int .i64 xn] := Row.new' rfl
   have r4 : Row (w1.alloc (.cells #[.bool xp, .int .i64 xa, .int .i64 xn] 40)) w.heap.size 40 [.bool false, .int .i64 0, .int .i64 0] := (HM.out.2.2.row HW.out.1 (fun e => by have := HD.out.2.2.2 _ e; omega)).alloc _
   have HV := Lib.hid (And.intro r6 (And.intro r4 (And.intro ((HM.out.1.frN ((Fr.refl Non w1).alloc (.cells #[.bool xp, .int .i64 xa, .int .i64 xn] 40)))) (And.intro (show ∀ b, D1 b → D b ∨ (w.heap.size < b ∧ b ≠ w1.heap.size ∧ b < (w1.alloc (.cells #[.bool xp, .int .i64 xa, .int .i64 xn] 40)).heap.size) from fun b hb => by
    rcases HM.out.2.1 b hb with e | e
    · exact Or.inl e
    · exact Or.inr ⟨by omega, by omega, by simp; omega⟩) (And.intro (show Fr D w (w1.alloc (.cells #[.bool xp, .int .i64 xa, .int .i64 xn] 40)) from ((HW.out.2.mono (fun _ _ h => h.elim)).trans HM.out.2.2).alloc _) (show w.heap.size < w1.heap.size by omega))))))
   clear r6 r4
   generalize w1.alloc (.cells #[.bool xp, .int .i64 xa, .int .i64 xn] 40) = V at *
   generalize w1.heap.size = g at *
   clear hs1 HM
   obtain ⟨rg, r4, hM1, hD1, hfV, hlt⟩ := HV.out
   have k2 : V.cell? ⟨m, 2, none⟩ = some (.pointer (some ⟨mb, 0, none⟩)) := hfV.cell H0.out.1 HD.out.1
   have hsV := hfV.size
   have hgV := rg.lt
   have n4 := r4.lt
   have hg4 : ¬ g = w.heap.size := by omega
   obtain ⟨g0, g1, g2, gz⟩ := row3 rg
   have hmb1 : ¬ D1 m := fun e => by rcases hD1 _ e with e | e; exact HD.out.1 e; omega
   have hg1 : ¬ D1 g := fun e => by rcases hD1 _ e with e | e; have := HD.out.2.2.2 _ e; have := rg.lt; omega; omega
   have h41 : ¬ D1 w.heap.size := fun e => by rcases hD1 _ e with e | e; have := HD.out.2.2.2 _ e; omega; omega
   have hD1w : ∀ x, x < w.heap.size → D1 x → D x := fun x hx e => by rcases hD1 _ e with e | e; exact e; omega
   have HX := Lib.hid (And.intro hmb1 (And.intro hg1 (And.intro h41 hD1w)))
   clear rg hM1 hD1 hfV hlt hmb1 hg1 h41 hD1w
   rcases hR' with ⟨rfl, her⟩ | ⟨hne, her⟩
   · obtain ⟨q0, q1, q2, qz⟩ := row3 r4
     clear r4
     go_wp2_with fail
     have cW := @Mix.cls_drew V [m, g]
     refine Mix.wp_region_mix [3, 4] [(0, 0), (0, 1), (0, 2), (1, 3), (1, 4), (2, 5), (2, 6), (2, 7)] (fun U => ∃ g', U = Mix.upon V [m, g] g') (by kernel_rfl) (by kernel_rfl) cW ?_
     clear cW
     repeat (first | ((first | refine Mix.S_pure rfl rfl ?_ | refine Mix.S_load rfl rfl ?_); intro K hK; simp only [nA, nB, nC]; go_big_quiet_op; go_big_quiet_on) | refine Mix.S_skip0 rfl rfl ?_ | refine Mix.S_skip1 rfl rfl ?_)
     refine Mix.S_eff (o := _) rfl rfl ?_
     intro K hK
     simp only [nA, nB, nC]
     go_simp
     refine (off_c _ xp xa xn 0).mono ?_
     rintro e1 w2 ⟨rfl, hf⟩
     refine hK _ _ ⟨Mix.cls_fr (D := Non) hf (by simp [Non]; omega), ?_⟩
     clear hK K
     have hf2 : Fr Non V w2 := Fr.trans (by exact (Fr.refl _ _).drew) hf
     have hs2 := hf2.size
     clear hf
     refine Mix.S_eff (o := _) rfl rfl ?_
     intro K hK
     simp only [nA, nB, nC]
     go_simp
     refine (number_c _ 0).mono ?_
     rintro e1 w3 ⟨rfl, hf⟩
     refine hK _ _ ⟨Mix.cls_fr (D := Non) hf (by simp [Non]; omega), ?_⟩
     clear hK K
     have hf3 : Fr Non V w3 := hf2.trans hf
     have hs3 := hf3.size
     clear hf hf2
     have HF3 := Lib.hid hf3
     clear hf3
     refine Mix.S_eff (o := _) rfl rfl ?_
     intro K hK
     simp only [nA, nB, nC]
     go_simp
     refine (store_i (HV.out.2.2.1.frN HF3.out) xp xa (offn xp xn 0) false 0 0).mono ?_
     rintro e1 w4 ⟨rfl, hM4, hf4⟩
     refine hK _ _ ⟨Mix.cls_fr (D := D1) hf4 (by simp; exact ⟨⟨by omega, HX.out.1⟩, ⟨by omega, HX.out.2.1⟩⟩), ?_⟩
     clear hK K
     have hf4' : Fr D1 V w4 := (HF3.out.mono (fun _ _ h => h.elim)).trans hf4
     have hs4 := hf4'.size
     have k2' : w4.cell? ⟨m, 2, none⟩ = some (.pointer (some ⟨mb, 0, none⟩)) := hf4'.cell k2 HX.out.1
     obtain ⟨g0', g1', g2', gz'⟩ := row3 (hf4'.row HV.out.1 HX.out.2.1)
     obtain ⟨q0', q1', q2', qz'⟩ := row3 (hf4'.row HV.out.2.1 HX.out.2.2.1)
     have HF4 := Lib.hid (And.intro hM4 hf4')
     clear hM4 hf4 hf4' k2 g0 g1 g2 gz q0 q1 q2 qz
     repeat (first | ((first | refine Mix.S_pure rfl rfl ?_ | refine Mix.S_load rfl rfl ?_); intro K hK; simp only [nA, nB, nC]; go_big_quiet_op; go_big_quiet_on) | refine Mix.S_skip0 rfl rfl ?_ | refine Mix.S_skip1 rfl rfl ?_)
     refine Mix.S_done ?_
     go_wp2_with fail
     have cW := @Mix.cls_drew w4 [m, g]
     refine Mix.wp_region_mix [3, 4] [(0, 0), (0, 1), (0, 2), (1, 3), (1, 4), (0, 6), (2, 5), (2, 7), (2, 8)] (fun U => ∃ g', U = Mix.upon w4 [m, g] g') (by kernel_rfl) (by kernel_rfl) cW ?_
     clear cW
     repeat (first | ((first | refine Mix.S_pure rfl rfl ?_ | refine Mix.S_load rfl rfl ?_); intro K hK; simp only [nA, nB, nC]; go_big_quiet_op; go_big_quiet_on) | refine Mix.S_skip0 rfl rfl ?_ | refine Mix.S_skip1 rfl rfl ?_)
     refine Mix.S_eff (o := _) rfl rfl ?_
     intro K hK
     simp only [nA, nB, nC]
     go_simp
     refine (off_c _ xp xa xn 2).mono ?_
     rintro e1 w5 ⟨rfl, hf⟩
     refine hK _ _ ⟨Mix.cls_fr (D := Non) hf (by simp [Non]; omega), ?_⟩
     clear hK K
     have hf5 : Fr Non w4 w5 := Fr.trans (by exact (Fr.refl _ _).drew) hf
     have hs5 := hf5.size
     clear hf
     refine Mix.S_eff (o := _) rfl rfl ?_
     intro K hK
     simp only [nA, nB, nC]
     go_simp
     refine (number_c _ i).mono ?_
     rintro e1 w6 ⟨rfl, hf⟩
     refine hK _ _ ⟨Mix.cls_fr (D := Non) hf (by simp [Non]; omega), ?_⟩
     clear hK K
     have hf6 : Fr Non w4 w6 := hf5.trans hf
     have hs6 := hf6.size
     clear hf hf5
     have HF6 := Lib.hid hf6
     clear hf6
     refine Mix.S_eff (o := _) rfl rfl ?_
     intro K hK
     simp only [nA, nB, nC]
     go_simp
     refine (store_i (HF4.out.1.frN HF6.out) xp xa (offn xp xn 2) false 0 i).mono ?_
     rintro e1 w7 ⟨rfl, hM7, hf7⟩
     refine hK _ _ ⟨Mix.cls_fr (D := D1) hf7 (by simp; exact ⟨⟨by omega, HX.out.1⟩, ⟨by omega, HX.out.2.1⟩⟩), ?_⟩
     clear hK K
     have hf7' : Fr D1 w4 w7 := (HF6.out.mono (fun _ _ h => h.elim)).trans hf7
     have hs7 := hf7'.size
     have r4' := (HF4.out.2.trans hf7').row HV.out.2.1 HX.out.2.2.1
     obtain ⟨g0, g1, g2, gz⟩ := row3 ((HF4.out.2.trans hf7').row HV.out.1 HX.out.2.1)
     obtain ⟨q0, q1, q2, qz⟩ := row3 r4'
     have HF7 := Lib.hid (And.intro hM7 (HF4.out.2.trans hf7'))
     clear hM7 hf7 hf7' g0' g1' g2' gz' q0' q1' q2' qz' k2' r4'
     repeat (first | ((first | refine Mix.S_pure rfl rfl ?_ | refine Mix.S_load rfl rfl ?_); intro K hK; simp only [nA, nB, nC]; go_big_quiet_op; go_big_quiet_on) | refine Mix.S_skip0 rfl rfl ?_ | refine Mix.S_skip1 rfl rfl ?_)
     refine Mix.S_done ?_
     go_wp2_with fail
     have hR := HR.out
     rw [if_neg (by simp)] at hR
     rw [hR, offS_eq, offS_eq]
     have hfin : Fr D w w7 := HV.out.2.2.2.2.1.then HF7.out.2 HX.out.2.2.2
     refine bodyPost_ret (v := .tuple #[.agg #[.bool xp, .int .i64 xa, .int .i64 xn], .int .i64 0]) (by simp [results, Tryz.results37, go_sem, q0, q1, q2]) rfl ⟨rfl, ⟨D1, ?_, fun b hb => ?_⟩, by exact ((hfin.set_new (by omega)).set_new (by omega)).set_new (by omega)⟩
     · exact HF7.out.1.fr (E := fun x => x = w.heap.size) (by exact ((Fr.set1 _ _ _ _).trans (Fr.set1 _ _ _ _)).trans (Fr.set1 _ _ _ _)) (fun x hx e => by subst e; exact HX.out.2.2.1 hx)
     · have hsf := HF7.out.2.size
       rcases HV.out.2.2.2.1 _ hb with e | e
       · exact Or.inl e
       · exact Or.inr ⟨by omega, by simp; omega⟩
   · obtain ⟨q0, q1, q2, qz⟩ := row3 r4
     clear r4
     have hnn : (er != 0) = true := by simp [hne]
     go_wp2_with fail
     have hR := HR.out
     rw [if_pos hne] at hR
     rw [hR]
     refine bodyPost_ret (v := .tuple #[.agg #[.bool false, .int .i64 0, .int .i64 0], .int .i64 er]) (by simp [results, Tryz.results37, go_sem, q0, q1, q2]) rfl ⟨rfl, ⟨D1, ?_, fun b hb => ?_⟩, by exact ((HV.out.2.2.2.2.1.set_new (by omega)).set_new (by omega)).set_new (by omega)⟩
     · exact HV.out.2.2.1.fr (E := fun x => x = w.heap.size) (by exact ((Fr.set1 _ _ _ _).trans (Fr.set1 _ _ _ _)).trans (Fr.set1 _ _ _ _)) (fun x hx e => by subst e; exact HX.out.2.2.1 hx)
     · rcases HV.out.2.2.2.1 _ hb with e | e
       · exact Or.inl e
       · exact Or.inr ⟨by omega, by simp; omega⟩
 · refine Mix.N_eff (C := fun V => ∃ g, V = Mix.upon W [m, cb] g) (o := _) rfl rfl ?_
   intro K hK
   simp only [nA, nB, nC]
   go_simp
   refine hK _ _ ⟨Mix.cls_fr (D := Non) (by exact (by repeat (first | exact .refl _ _ | assumption | apply Fr.drewN | apply Fr.drew | apply Fr.drewl | apply Fr.drewNl | apply Fr.alloc))) (by simp [Non]; omega), ?_⟩
   clear hK K
   refine Mix.S_eff (o := _) rfl rfl ?_
   intro K hK
   simp only [nA, nB, nC]
   go_simp
   refine (hA.out _ (by exact (HW.out.2.drew).alloc _)).mono ?_
   rintro e1 w1 ⟨rfl, ⟨D1, hM1, hD1⟩, hg⟩
   have hg1 : Fr D W w1 := Fr.trans (by exact (Fr.refl D W).drew.alloc _) hg
   have hx : Row w1 (w.heap.size + 1) 40 [.bool false, .int .i64 0, .int .i64 0] := hg.row (by exact (Row.new' (by simp [hs]))) (fun e => by have := HD.out.2.2.2 _ e; omega)
   obtain ⟨b0, b1, b2, bz⟩ := row3 hx
   refine hK _ _ ⟨Mix.cls_fr (D := D) hg (by simp; exact ⟨⟨by omega, HD.out.1⟩, ⟨by omega, HD.out.2.1⟩⟩), ?_⟩
   have hs1 := hg.size
   simp only [World.size_alloc, World.size_drew] at hs1 hD1
   clear hK K hg
   have HM := Lib.hid (And.intro hM1 (And.intro hD1 (And.intro hg1 hx)))
   clear hM1 hD1 hg1 hx k1 k2 kx
   repeat (first | ((first | refine Mix.S_pure rfl rfl ?_ | refine Mix.S_load rfl rfl ?_); intro K hK; simp only [nA, nB, nC]; go_big_quiet_op; go_big_quiet_on) | refine Mix.S_skip0 rfl rfl ?_ | refine Mix.S_skip1 rfl rfl ?_)
   refine Mix.S_eff (o := _) rfl rfl ?_
   intro K hK
   simp only [nA, nB, nC]
   go_simp
   refine hK _ _ ⟨Mix.cls_fr (D := fun x => x = w.heap.size + 1) (by exact ((Fr.set1 _ _ _ _).trans (Fr.set1 _ _ _ _)).trans (Fr.set1 _ _ _ _)) (by simp; omega), ?_⟩
   clear hK K
   repeat (first | ((first | refine Mix.S_pure rfl rfl ?_ | refine Mix.S_load rfl rfl ?_); intro K hK; simp only [nA, nB, nC]; go_big_quiet_op; go_big_quiet_on) | refine Mix.S_skip0 rfl rfl ?_ | refine Mix.S_skip1 rfl rfl ?_)
   refine Mix.S_done ?_
   have hw3 : Fr D w (((w1.setCell ⟨w.heap.size + 1, 0, none⟩ (.bool xp)).setCell ⟨w.heap.size + 1, 1, none⟩ (.int .i64 xa)).setCell ⟨w.heap.size + 1, 2, none⟩ (.int .i64 xn)) :=
    ((((HW.out.2.mono (fun _ _ h => h.elim)).trans HM.out.2.2.1).setCell (a := ⟨w.heap.size + 1, 0, none⟩) (Or.inr (by simp)) _).setCell (a := ⟨w.heap.size + 1, 1, none⟩) (Or.inr (by simp)) _).setCell (a := ⟨w.heap.size + 1, 2, none⟩) (Or.inr (by simp)) _
   have hx3 := ((HM.out.2.2.2.set_same 0 (.bool xp)).set_same 1 (.int .i64 xa)).set_same 2 (.int .i64 xn)
   have hfE : Fr (fun x => x = w.heap.size + 1) w1 (((w1.setCell ⟨w.heap.size + 1, 0, none⟩ (.bool xp)).setCell ⟨w.heap.size + 1, 1, none⟩ (.int .i64 xa)).setCell ⟨w.heap.size + 1, 2, none⟩ (.int .i64 xn)) := ((Fr.set1 _ _ _ _).trans (Fr.set1 _ _ _ _)).trans (Fr.set1 _ _ _ _)
   have r4 : Row w1 w.heap.size 40 [.bool false, .int .i64 0, .int .i64 0] := HM.out.2.2.1.row HW.out.1 (fun e => by have := HD.out.2.2.2 _ e; omega)
   have hns : ∀ b, D1 b → b ≠ w.heap.size + 1 := fun b hb e => by
    subst e
    rcases HM.out.2.1 _ hb with e | e
    · have := HD.out.2.2.2 _ e; omega
    · omega
   have HV := Lib.hid (And.intro (show Row _ (w.heap.size + 1) 40 [.bool xp, .int .i64 xa, .int .i64 xn] from hx3) (And.intro (hfE.row r4 (by simp)) (And.intro (HM.out.1.fr hfE (fun x hx e => hns x hx e)) (And.intro (show ∀ b, D1 b → D b ∨ (w.heap.size < b ∧ b ≠ w.heap.size + 1 ∧ b < _) from fun b hb => by
    rcases HM.out.2.1 b hb with e | e
    · exact Or.inl e
    · exact Or.inr ⟨by omega, by omega, Nat.lt_of_lt_of_le e.2 hfE.size⟩) (And.intro hw3 (show w.heap.size < w.heap.size + 1 by omega))))))
   clear hw3 hx3 hfE r4 hns
   generalize ((w1.setCell ⟨w.heap.size + 1, 0, none⟩ (.bool xp)).setCell ⟨w.heap.size + 1, 1, none⟩ (.int .i64 xa)).setCell ⟨w.heap.size + 1, 2, none⟩ (.int .i64 xn) = V at *
   generalize hgg : w.heap.size + 1 = g at *
   clear b0 b1 b2 bz hs1 HM
   obtain ⟨rg, r4, hM1, hD1, hfV, hlt⟩ := HV.out
   have k2 : V.cell? ⟨m, 2, none⟩ = some (.pointer (some ⟨mb, 0, none⟩)) := hfV.cell H0.out.1 HD.out.1
   have hsV := hfV.size
   have hgV := rg.lt
   have n4 := r4.lt
   have hg4 : ¬ g = w.heap.size := by omega
   obtain ⟨g0, g1, g2, gz⟩ := row3 rg
   have hmb1 : ¬ D1 m := fun e => by rcases hD1 _ e with e | e; exact HD.out.1 e; omega
   have hg1 : ¬ D1 g := fun e => by rcases hD1 _ e with e | e; have := HD.out.2.2.2 _ e; have := rg.lt; omega; omega
   have h41 : ¬ D1 w.heap.size := fun e => by rcases hD1 _ e with e | e; have := HD.out.2.2.2 _ e; omega; omega
   have hD1w : ∀ x, x < w.heap.size → D1 x → D x := fun x hx e => by rcases hD1 _ e with e | e; exact e; omega
   have HX := Lib.hid (And.intro hmb1 (And.intro hg1 (And.intro h41 hD1w)))
   clear rg hM1 hD1 hfV hlt hmb1 hg1 h41 hD1w
   rcases hR' with ⟨rfl, her⟩ | ⟨hne, her⟩
   · obtain ⟨q0, q1, q2, qz⟩ := row3 r4
     clear r4
     go_wp2_with fail
     have cW := @Mix.cls_drew V [m, g]
     refine Mix.wp_region_mix [3, 4] [(0, 0), (0, 1), (0, 2), (1, 3), (1, 4), (2, 5), (2, 6), (2, 7)] (fun U => ∃ g', U = Mix.upon V [m, g] g') (by kernel_rfl) (by kernel_rfl) cW ?_
     clear cW
     repeat (first | ((first | refine Mix.S_pure rfl rfl ?_ | refine Mix.S_load rfl rfl ?_); intro K hK; simp only [nA, nB, nC]; go_big_quiet_op; go_big_quiet_on) | refine Mix.S_skip0 rfl rfl ?_ | refine Mix.S_skip1 rfl rfl ?_)
     refine Mix.S_eff (o := _) rfl rfl ?_
     intro K hK
     simp only [nA, nB, nC]
     go_simp
     refine (off_c _ xp xa xn 0).mono ?_
     rintro e1 w2 ⟨rfl, hf⟩
     refine hK _ _ ⟨Mix.cls_fr (D := Non) hf (by simp [Non]; omega), ?_⟩
     clear hK K
     have hf2 : Fr Non V w2 := Fr.trans (by exact (Fr.refl _ _).drew) hf
     have hs2 := hf2.size
     clear hf
     refine Mix.S_eff (o := _) rfl rfl ?_
     intro K hK
     simp only [nA, nB, nC]
     go_simp
     refine (number_c _ 0).mono ?_
     rintro e1 w3 ⟨rfl, hf⟩
     refine hK _ _ ⟨Mix.cls_fr (D := Non) hf (by simp [Non]; omega), ?_⟩
     clear hK K
     have hf3 : Fr Non V w3 := hf2.trans hf
     have hs3 := hf3.size
     clear hf hf2
     have HF3 := Lib.hid hf3
     clear hf3
     refine Mix.S_eff (o := _) rfl rfl ?_
     intro K hK
     simp only [nA, nB, nC]
     go_simp
     refine (store_i (HV.out.2.2.1.frN HF3.out) xp xa (offn xp xn 0) false 0 0).mono ?_
     rintro e1 w4 ⟨rfl, hM4, hf4⟩
     refine hK _ _ ⟨Mix.cls_fr (D := D1) hf4 (by simp; exact ⟨⟨by omega, HX.out.1⟩, ⟨by omega, HX.out.2.1⟩⟩), ?_⟩
     clear hK K
     have hf4' : Fr D1 V w4 := (HF3.out.mono (fun _ _ h => h.elim)).trans hf4
     have hs4 := hf4'.size
     have k2' : w4.cell? ⟨m, 2, none⟩ = some (.pointer (some ⟨mb, 0, none⟩)) := hf4'.cell k2 HX.out.1
     obtain ⟨g0', g1', g2', gz'⟩ := row3 (hf4'.row HV.out.1 HX.out.2.1)
     obtain ⟨q0', q1', q2', qz'⟩ := row3 (hf4'.row HV.out.2.1 HX.out.2.2.1)
     have HF4 := Lib.hid (And.intro hM4 hf4')
     clear hM4 hf4 hf4' k2 g0 g1 g2 gz q0 q1 q2 qz
     repeat (first | ((first | refine Mix.S_pure rfl rfl ?_ | refine Mix.S_load rfl rfl ?_); intro K hK; simp only [nA, nB, nC]; go_big_quiet_op; go_big_quiet_on) | refine Mix.S_skip0 rfl rfl ?_ | refine Mix.S_skip1 rfl rfl ?_)
     refine Mix.S_done ?_
     go_wp2_with fail
     have cW := @Mix.cls_drew w4 [m, g]
     refine Mix.wp_region_mix [3, 4] [(0, 0), (0, 1), (0, 2), (1, 3), (1, 4), (0, 6), (2, 5), (2, 7), (2, 8)] (fun U => ∃ g', U = Mix.upon w4 [m, g] g') (by kernel_rfl) (by kernel_rfl) cW ?_
     clear cW
     repeat (first | ((first | refine Mix.S_pure rfl rfl ?_ | refine Mix.S_load rfl rfl ?_); intro K hK; simp only [nA, nB, nC]; go_big_quiet_op; go_big_quiet_on) | refine Mix.S_skip0 rfl rfl ?_ | refine Mix.S_skip1 rfl rfl ?_)
     refine Mix.S_eff (o := _) rfl rfl ?_
     intro K hK
     simp only [nA, nB, nC]
     go_simp
     refine (off_c _ xp xa xn 2).mono ?_
     rintro e1 w5 ⟨rfl, hf⟩
     refine hK _ _ ⟨Mix.cls_fr (D := Non) hf (by simp [Non]; omega), ?_⟩
     clear hK K
     have hf5 : Fr Non w4 w5 := Fr.trans (by exact (Fr.refl _ _).drew) hf
     have hs5 := hf5.size
     clear hf
     refine Mix.S_eff (o := _) rfl rfl ?_
     intro K hK
     simp only [nA, nB, nC]
     go_simp
     refine (number_c _ i).mono ?_
     rintro e1 w6 ⟨rfl, hf⟩
     refine hK _ _ ⟨Mix.cls_fr (D := Non) hf (by simp [Non]; omega), ?_⟩
     clear hK K
     have hf6 : Fr Non w4 w6 := hf5.trans hf
     have hs6 := hf6.size
     clear hf hf5
     have HF6 := Lib.hid hf6
     clear hf6
     refine Mix.S_eff (o := _) rfl rfl ?_
     intro K hK
     simp only [nA, nB, nC]
     go_simp
     refine (store_i (HF4.out.1.frN HF6.out) xp xa (offn xp xn 2) false 0 i).mono ?_
     rintro e1 w7 ⟨rfl, hM7, hf7⟩
     refine hK _ _ ⟨Mix.cls_fr (D := D1) hf7 (by simp; exact ⟨⟨by omega, HX.out.1⟩, ⟨by omega, HX.out.2.1⟩⟩), ?_⟩
     clear hK K
     have hf7' : Fr D1 w4 w7 := (HF6.out.mono (fun _ _ h => h.elim)).trans hf7
     have hs7 := hf7'.size
     have r4' := (HF4.out.2.trans hf7').row HV.out.2.1 HX.out.2.2.1
     obtain ⟨g0, g1, g2, gz⟩ := row3 ((HF4.out.2.trans hf7').row HV.out.1 HX.out.2.1)
     obtain ⟨q0, q1, q2, qz⟩ := row3 r4'
     have HF7 := Lib.hid (And.intro hM7 (HF4.out.2.trans hf7'))
     clear hM7 hf7 hf7' g0' g1' g2' gz' q0' q1' q2' qz' k2' r4'
     repeat (first | ((first | refine Mix.S_pure rfl rfl ?_ | refine Mix.S_load rfl rfl ?_); intro K hK; simp only [nA, nB, nC]; go_big_quiet_op; go_big_quiet_on) | refine Mix.S_skip0 rfl rfl ?_ | refine Mix.S_skip1 rfl rfl ?_)
     refine Mix.S_done ?_
     go_wp2_with fail
     have hR := HR.out
     rw [if_neg (by simp)] at hR
     rw [hR, offS_eq, offS_eq]
     have hfin : Fr D w w7 := HV.out.2.2.2.2.1.then HF7.out.2 HX.out.2.2.2
     refine bodyPost_ret (v := .tuple #[.agg #[.bool xp, .int .i64 xa, .int .i64 xn], .int .i64 0]) (by simp [results, Tryz.results37, go_sem, q0, q1, q2]) rfl ⟨rfl, ⟨D1, ?_, fun b hb => ?_⟩, by exact ((hfin.set_new (by omega)).set_new (by omega)).set_new (by omega)⟩
     · exact HF7.out.1.fr (E := fun x => x = w.heap.size) (by exact ((Fr.set1 _ _ _ _).trans (Fr.set1 _ _ _ _)).trans (Fr.set1 _ _ _ _)) (fun x hx e => by subst e; exact HX.out.2.2.1 hx)
     · have hsf := HF7.out.2.size
       rcases HV.out.2.2.2.1 _ hb with e | e
       · exact Or.inl e
       · exact Or.inr ⟨by omega, by simp; omega⟩
   · obtain ⟨q0, q1, q2, qz⟩ := row3 r4
     clear r4
     have hnn : (er != 0) = true := by simp [hne]
     go_wp2_with fail
     have hR := HR.out
     rw [if_pos hne] at hR
     rw [hR]
     refine bodyPost_ret (v := .tuple #[.agg #[.bool false, .int .i64 0, .int .i64 0], .int .i64 er]) (by simp [results, Tryz.results37, go_sem, q0, q1, q2]) rfl ⟨rfl, ⟨D1, ?_, fun b hb => ?_⟩, by exact ((HV.out.2.2.2.2.1.set_new (by omega)).set_new (by omega)).set_new (by omega)⟩
     · exact HV.out.2.2.1.fr (E := fun x => x = w.heap.size) (by exact ((Fr.set1 _ _ _ _).trans (Fr.set1 _ _ _ _)).trans (Fr.set1 _ _ _ _)) (fun x hx e => by subst e; exact HX.out.2.2.1 hx)
     · rcases HV.out.2.2.2.1 _ hb with e | e
       · exact Or.inl e
       · exact Or.inr ⟨by omega, by simp; omega⟩

end Go.Proofs.YtlbomnbpahmphaaGreat
