/- Walk: 'MachineMore': the whole law answers true. Conditions: the program, and the acts, lie as they are read. -/
import Derived.Test.YtlbomnbpahmphaaKb01
import Derived.Test.YtlbomnbpahmphaaKa29
import Derived.Test.YtlbomnbpahmphaaKa32
import Derived.Test.YtlbomnbpahmphaaKb02
namespace Go.Proofs.Ytlbomnbpahmphaa
open Go.RowKit

section
variable {base : Nat} {P : Pr} {w0 w : World} {ma mb : Nat} {v u : Value} {l : List Wd} {a b : St} {bs : List Bx}
theorem Pack.nil {S : St} {T : St} {U : Nat → Prop} (h : Mach base P U w (some (ma, S)) (some (mb, T)) none) (hf : Fr (fun x => base ≤ x) w0 w) : Pack base P ma mb w0 w (.slice none 0 0) (.slice none 0 0) [] S T [] :=
  ⟨U, h, ⟨Own.nil _ _ _, Own.nil _ _ _, (fun x hx => by cases hx), (fun x hx => by cases hx)⟩, (fun e he => by cases he), hf⟩
theorem Pack.done (h : Pack w0.heap.size P ma mb w0 w v u l a b bs) : Fr Non w0 w := h.fr.mono fun x hx e => by omega
theorem Pack.hi (h : Pack base P ma mb w0 w v u l a b bs) : Fr (fun x => base ≤ x) w0 w := h.fr
end

set_option maxRecDepth 100000 in
set_option maxHeartbeats 16000000 in
theorem more_c (w : World) (P : Pr) (v : Value) (hP : PrAt w.heap.size P w v) (words fuel room more : Int) (ao : Option Addr) (ac : Nat) (l : List Ax) (hl : AxAt w.heap.size w ao l) :
    Calls Try.prog 3 #[v, .int .i64 words, .int .i64 fuel, .int .i64 room, .int .i64 more, .slice ao l.length ac] w fun e w' => e = .returned (.bool true) ∧ Fr Non w w' := by
  obtain ⟨fo, fc, co, cc, rfl, hfu, hco⟩ := hP.val
  have HH := Lib.hid (And.intro hP hl)
  clear hP hl hfu hco
  have h0l : (0 : Int) ≤ (l.length : Int) := by omega
  go_enter Try.func3, Try.ntmps3
  go_wp2_with fail
  refine (works03_c _).mono ?_
  rintro e1 w1 ⟨rfl, hf1⟩
  have r6 : Row w1 w.heap.size 25 [.slice fo P.funs.length fc, .slice co P.cos.length cc] := hf1.new_row id
  have hf1' : Fr Non w w1 := Fr.trans (by exact (by repeat (first | exact Fr.refl _ _ | assumption | refine Fr.drewN ?_ _ | refine Fr.drew ?_ | refine Fr.drewl ?_ | refine Fr.drewNl ?_ _ | refine Fr.alloc ?_ _))) hf1
  have HF1 := Lib.hid hf1'
  obtain ⟨q0, q1, qz⟩ := row2 r6
  have R1 := Lib.hid r6
  clear hf1 hf1' r6
  have hOv := Lib.hid (over03_c (HH.out.1.fr HF1.out (high_non _)))
  go_wp2_with fail
  refine hOv.out.mono ?_
  rintro e2 w2 ⟨⟨b, rfl⟩, hf2⟩
  have HF2 := Lib.hid (HF1.out.trans hf2)
  obtain ⟨p0, p1, pz⟩ := row2 (hf2.row R1.out id)
  have R2 := Lib.hid (hf2.row R1.out id)
  clear hf2 q0 q1 qz hOv
  cases b with
  | true =>
    go_wp2_with fail
    go_ret
    exact ⟨rfl, HF2.out⟩
  | false =>
    by_cases g1 : (60 : Int) < l.length
    · have d1 : decide ((60 : Int) < l.length) = true := decide_eq_true g1
      go_wp2_with fail
      go_ret
      exact ⟨rfl, HF2.out⟩
    have d1 : decide ((60 : Int) < l.length) = false := decide_eq_false g1
    by_cases g2 : (3000 : Int) < fuel
    · have d2 : decide ((3000 : Int) < fuel) = true := decide_eq_true g2
      go_wp2_with fail
      go_ret
      exact ⟨rfl, HF2.out⟩
    have d2 : decide ((3000 : Int) < fuel) = false := decide_eq_false g2
    by_cases g3 : (2000 : Int) < words
    · have d3 : decide ((2000 : Int) < words) = true := decide_eq_true g3
      go_wp2_with fail
      go_ret
      exact ⟨rfl, HF2.out⟩
    have d3 : decide ((2000 : Int) < words) = false := decide_eq_false g3
    by_cases g4 : more < 0
    · have d4 : decide (more < 0) = true := decide_eq_true g4
      go_wp2_with fail
      go_ret
      exact ⟨rfl, HF2.out⟩
    have d4 : decide (more < 0) = false := decide_eq_false g4
    by_cases g5 : (3000 : Int) < more
    · have d5 : decide ((3000 : Int) < more) = true := decide_eq_true g5
      go_wp2_with fail
      go_ret
      exact ⟨rfl, HF2.out⟩
    have d5 : decide ((3000 : Int) < more) = false := decide_eq_false g5
    by_cases g6 : room < 0
    · have d6 : decide (room < 0) = true := decide_eq_true g6
      go_wp2_with fail
      go_ret
      exact ⟨rfl, HF2.out⟩
    have d6 : decide (room < 0) = false := decide_eq_false g6
    by_cases g7 : (2000 : Int) < room
    · have d7 : decide ((2000 : Int) < room) = true := decide_eq_true g7
      go_wp2_with fail
      go_ret
      exact ⟨rfl, HF2.out⟩
    have d7 : decide ((2000 : Int) < room) = false := decide_eq_false g7
    have hb2 := HF2.out.size
    have hwr : wrap64 (max words 0 + room) = max words 0 + room := IntWalk.wrap64_in _ (by omega)
    have hwf : wrap64 (max fuel 0 + more) = max fuel 0 + more := IntWalk.wrap64_in _ (by omega)
    by_cases hv : validS P = true
    · have hN := Lib.hid (new_ok (HH.out.1.fr HF2.out (high_non _)) hb2 hv words)
      go_wp2_with fail
      refine hN.out.mono ?_
      rintro e3 w3 ⟨ma, Aa, rfl, hf3, hI3, hA3⟩
      have R3 := Lib.hid (hf3.row R2.out id)
      obtain ⟨q0, q1, qz⟩ := row2 R3.out
      have HF3 := Lib.hid (HF2.out.trans hf3)
      have hs3 := hf3.size
      have H3 := Lib.hid ((Mach.none w.heap.size P w3).add hI3 (fun x hx => hx.elim))
      have hN := Lib.hid (new_ok (HH.out.1.fr HF3.out (high_non _)) (by omega) hv (max words 0 + room))
      clear hf3 hI3 hA3 p0 p1 pz
      go_wp2_with fail
      refine hN.out.mono ?_
      rintro e4 w4 ⟨mb, Ab, rfl, hf4, hI4, hA4⟩
      have H4 := Lib.hid (Pack.nil ((H3.out.frN hf4).rot.add hI4 (fun x hx e => by have := H3.out.lt x hx; have := hA4 x e; omega)).rot (w0 := w) ((HF3.out.trans hf4).mono fun _ _ h => h.elim))
      clear hf4 hI4 hA4 q0 q1 qz hN
      have hPg := Lib.hid (valid_good hv HH.out.1.lab)
      have hPa := Lib.hid (valid_args hv)
      have hrr : roomOf words ≤ roomOf (max words 0 + room) := by unfold roomOf; omega
      generalize hrB : roomOf (max words 0 + room) = rB at *
      generalize hrA : roomOf words = rA at *
      have HRR := Lib.hid (And.intro hrr (And.intro hrB hrA))
      clear HF1 HF2 HF3 H3 R1 R2 R3 hs3 hrr hrB hrA hb2
      go_wp2_with fail
      go_loopw [19, 20, 21] (fun v19 v20 v21 wr => ∃ (i : Nat) (S : St) (fB : Int) (L : List Wd), i ≤ l.length ∧ v21 = .int .i64 i ∧ Pack w.heap.size P ma mb w wr v19 v20 L S (S.as rB fB) [] ∧ S.told = [] ∧ S.mem.room = rA ∧ S.mem.blocks.length ≤ i * 3001 ∧ L.length ≤ i) (fun _ _ v21 _ => l.length - (intOf v21).toNat)
      case atStart =>
        refine ⟨0, St.new words, 0, [], by omega, rfl, ?_, rfl, HRR.out.2.2, by simp [St.new], by simp⟩
        have := H4.out
        unfold St.as Mem.as
        rw [← HRR.out.2.1]
        exact this
      case round =>
        obtain ⟨i, S, fB, L, hi, rfl, hPk, hSt, hRm, hbd, hLl⟩ := hrel
        by_cases hlt : i < l.length
        · obtain ⟨x, hx⟩ : ∃ x, l[i]? = some x := ⟨l[i], List.getElem?_eq_getElem hlt⟩
          have hH : High w.heap.size (fun x => w.heap.size ≤ x) := fun x h => h
          obtain ⟨sb, so, la, lc, rfl, c0, c1, c2, c3, c4⟩ := HH.out.2 i x hx
          have e0 := (c0.fr hPk.hi hH).2
          have e1 := (c1.fr hPk.hi hH).2
          have e2 := (c2.fr hPk.hi hH).2
          have e3 := (c3.fr hPk.hi hH).2
          have C4 := Lib.hid fun wz (f : Fr (fun x => w.heap.size ≤ x) w wz) => (c4.fr f hH : IntsAt w.heap.size wz la x.args)
          have hi0 : (0 : Int) ≤ (i : Int) := by omega
          have hi1 : (i : Int) < (l.length : Int) := by omega
          obtain ⟨va, vc, rfl, _, _, _, _⟩ := hPk.o1.form
          obtain ⟨ua, uc, rfl, _, _, _, _⟩ := hPk.o2.form
          have hB : S.mem.blocks.length < 1000000 := by omega
          have hLB : L.length ≤ 1000000000 := by omega
          have hbg := hPk.base_le
          have HR := Lib.hid (And.intro hPk (And.intro hSt (And.intro hRm (And.intro hbd (And.intro hLl (And.intro hB hLB))))))
          have HQ := Lib.hid (hPk.box [.int .i64 x.k, .int .i64 x.a, .int .i64 x.n, .slice la x.args.length lc] 36)
          clear hPk hSt hRm hbd hLl hB hLB c0 c1 c2 c3 c4 hx
          have hk : ((x.k.tmod 4 == 0) = true) ∨ ((x.k.tmod 4 == 0) = false ∧ (x.k.tmod 4 == 1) = true) ∨ ((x.k.tmod 4 == 0) = false ∧ (x.k.tmod 4 == 1) = false ∧ (x.k.tmod 4 == 2) = true) ∨
              ((x.k.tmod 4 == 0) = false ∧ (x.k.tmod 4 == 1) = false ∧ (x.k.tmod 4 == 2) = false ∧ (x.k.tmod 4 == 3) = true) ∨ ((x.k.tmod 4 == 0) = false ∧ (x.k.tmod 4 == 1) = false ∧ (x.k.tmod 4 == 2) = false ∧ (x.k.tmod 4 == 3) = false) := by
            cases (x.k.tmod 4 == 0) <;> cases (x.k.tmod 4 == 1) <;> cases (x.k.tmod 4 == 2) <;> cases (x.k.tmod 4 == 3) <;> simp
          rcases hk with d0 | ⟨d0, d1⟩ | ⟨d0, d1, d2⟩ | ⟨d0, d1, d2, d3⟩ | ⟨d0, d1, d2, d3⟩
          · skip
            have hC := Lib.hid fun wz (m : Nat) (A : Nat → Prop) (hI : MInv w.heap.size P A wz m S) (c4 : IntsAt w.heap.size wz la x.args) => start_i hI HR.out.2.2.2.2.2.1 x.a x.args hPa.out la lc c4
            have hCb := Lib.hid fun wz (m : Nat) (A : Nat → Prop) (hI : MInv w.heap.size P A wz m (S.as rB fB)) (c4 : IntsAt w.heap.size wz la x.args) => start_i hI (by exact HR.out.2.2.2.2.2.1) x.a x.args hPa.out la lc c4
            have hEq : (startS P S x.a x.args).2.2.1 ≠ 5 → startS P (S.as rB fB) x.a x.args = ((startS P S x.a x.args).1.as rB fB, (startS P S x.a x.args).2) := fun h => start_as (by rw [HR.out.2.2.1]; exact HRR.out.1) h
            have hGr : (startS P S x.a x.args).1.mem.blocks.length ≤ S.mem.blocks.length + 1 := (startS_grow _ _).2
            have hTl : (startS P S x.a x.args).1.told = S.told := startS_told _ _ _ _
            have hRo : (startS P S x.a x.args).1.mem.room = S.mem.room := start_room _ _
            generalize startS P (S.as rB fB) x.a x.args = Rb at *
            generalize startS P S x.a x.args = R at *
            obtain ⟨S', wd, kk, nn⟩ := R
            obtain ⟨Sb, wb, kb, nb⟩ := Rb
            simp only at hC hCb hEq hGr hTl hRo
            have HE := Lib.hid (And.intro hEq (And.intro hGr (And.intro hTl hRo)))
            clear hEq hGr hTl hRo
            go_wp2_with fail
            refine (HQ.out.stepA (a' := S') fun A hI => hC.out _ _ _ hI (C4.out _ HQ.out.hi)).mono ?_
            rintro e5 w5 ⟨rfl, hK5, hs5⟩
            simp only [World.size_alloc] at hs5
            have hK6 := (hK5.box [.bool wd.p, .int .i64 wd.a, .int .i64 wd.n] 38).box [.int .i64 kk, .int .i64 nn] 41
            simp only [World.size_alloc] at hK6
            obtain ⟨q0, q1, q2, q3, qz⟩ := row4 (hK6.row (List.mem_cons_of_mem _ (List.mem_cons_of_mem _ List.mem_cons_self)))
            have HK6 := Lib.hid hK6
            clear hK5 hK6
            go_wp2_with fail
            refine (HK6.out.stepB (b' := Sb) fun A hI => hCb.out _ _ _ hI (C4.out _ HK6.out.hi)).mono ?_
            rintro e7 w7 ⟨rfl, hK7, hs7⟩
            simp only [World.size_alloc] at hs7
            have hK8 := (hK7.box [.bool wb.p, .int .i64 wb.a, .int .i64 wb.n] 38).box [.int .i64 kb, .int .i64 nb] 41
            simp only [World.size_alloc] at hK8
            obtain ⟨a0, a1, a2, az⟩ := row3 (hK8.row (List.mem_cons_of_mem _ (List.mem_cons_of_mem _ (List.mem_cons_of_mem _ List.mem_cons_self))))
            obtain ⟨b0, b1, bz⟩ := row2 (hK8.row (List.mem_cons_of_mem _ (List.mem_cons_of_mem _ List.mem_cons_self)))
            obtain ⟨c0, c1, c2, cz⟩ := row3 (hK8.row (List.mem_cons_of_mem _ List.mem_cons_self))
            obtain ⟨f0, f1, fz⟩ := row2 (hK8.row List.mem_cons_self)
            have HK8 := Lib.hid hK8
            clear hK7 hK8 q0 q1 q2 q3 qz
            by_cases h5 : kk = 5
            · have k5 : (kk == 5) = true := by simp [h5]
              go_wp2_with fail
              go_ret
              exact ⟨rfl, HK8.out.done⟩
            have hE := HE.out.1 h5
            simp only [Prod.mk.injEq] at hE
            obtain ⟨e1, e2, e3, e4⟩ := hE
            have e2 := e2.symm
            have e3 := e3.symm
            have e4 := e4.symm
            subst e1 e2 e3 e4
            have k5 : (kk == 5) = false := by simp [h5]
            by_cases h2 : kk = 2
            · have k2 : (kk == 2) = true := by simp [h2]
              clear h2 h5
              obtain ⟨i0, hii, hz0, hz1, hz2⟩ := info_parts Try.infoWord
              have hLB := HR.out.2.2.2.2.2.2
              obtain ⟨g9, k9, w9, hrun9, ho9, hf9, hg9, hlt9⟩ := run_app (P := Try.prog) (w := ((w7.alloc (.cells #[.bool wd.p, .int .i64 wd.a, .int .i64 wd.n] 38)).alloc (.cells #[.int .i64 kk, .int .i64 nn] 41)).alloc (.cells #[.bool wd.p, .int .i64 wd.a, .int .i64 wd.n] 38)) (HK8.out.o1.fr (D := Non) (by exact (by repeat (first | exact Fr.refl _ _ | assumption | refine Fr.drewN ?_ _ | refine Fr.drew ?_ | refine Fr.drewl ?_ | refine Fr.drewNl ?_ _ | refine Fr.alloc ?_ _))) (fun _ _ => id)) 33 33 i0 _ 24 Try.underlying33 hii hz0 hz1 hz2 rfl (by omega) (w7.heap.size + 1 + 1) 0 1 1 (flat [wd]) rfl (by exact (Row.new' (by simp)).news)
                (fun u hu => by simp [flat, Wd.cs] at hu; rcases hu with rfl | rfl | rfl <;> rfl) (by omega) (by omega) (by unfold maxLen; omega)
              have hs9 := hf9.size
              simp only [World.size_alloc] at hs9 hg9
              obtain ⟨c0, c1, c2, cz⟩ := row3 (hf9.row ((HK8.out.row (List.mem_cons_of_mem _ List.mem_cons_self)).alloc _) (HK8.out.own1 (List.mem_cons_of_mem _ List.mem_cons_self)))
              have ho2 := (HK8.out.o2.fr (D := Non) (by exact (by repeat (first | exact Fr.refl _ _ | assumption | refine Fr.drewN ?_ _ | refine Fr.drew ?_ | refine Fr.drewl ?_ | refine Fr.drewNl ?_ _ | refine Fr.alloc ?_ _)) : Fr Non _ (((w7.alloc (.cells #[.bool wd.p, .int .i64 wd.a, .int .i64 wd.n] 38)).alloc (.cells #[.int .i64 kk, .int .i64 nn] 41)).alloc (.cells #[.bool wd.p, .int .i64 wd.a, .int .i64 wd.n] 38))) (fun _ _ => id)).fr hf9 (fun y hy e => HK8.out.own12 e hy)
              obtain ⟨g10, k10, w10, hrun10, ho10, hf10, hg10, hlt10⟩ := run_app (P := Try.prog) (w := w9.alloc (.cells #[.bool wd.p, .int .i64 wd.a, .int .i64 wd.n] 38)) (ho2.fr (D := Non) (by exact (by repeat (first | exact Fr.refl _ _ | assumption | refine Fr.drewN ?_ _ | refine Fr.drew ?_ | refine Fr.drewl ?_ | refine Fr.drewNl ?_ _ | refine Fr.alloc ?_ _))) (fun _ _ => id)) 33 33 i0 _ 24 Try.underlying33 hii hz0 hz1 hz2 rfl (by omega) w9.heap.size 0 1 1 (flat [wd]) rfl (by exact (Row.new' rfl).news)
                (fun u hu => by simp [flat, Wd.cs] at hu; rcases hu with rfl | rfl | rfl <;> rfl) (by omega) (by omega) (by unfold maxLen; omega)
              have hs10 := hf10.size
              simp only [World.size_alloc] at hs10 hg10
              have hlen : (L ++ [wd]).length = L.length + 1 := by simp
              have hfl : flat (L ++ [wd]) = flat L ++ flat [wd] := by simp [flat]
              have hApp := HK8.out.app (x := wd) (w1 := w9) (w2 := w9.alloc (.cells #[.bool wd.p, .int .i64 wd.a, .int .i64 wd.n] 38)) (w3 := w10) (by rw [hlen, hfl]; exact ho9) (((Fr.refl _ _).alloc _).trans hf9) (fun y hy => by
                simp only [Value.ownBlock, Option.some.injEq] at hy
                subst hy
                rcases hg9 with k | k
                · exact Or.inl k
                · right; rw [k]; simp) (by exact (by repeat (first | exact Fr.refl _ _ | assumption | refine Fr.drewN ?_ _ | refine Fr.drew ?_ | refine Fr.drewl ?_ | refine Fr.drewNl ?_ _ | refine Fr.alloc ?_ _))) (by rw [hlen, hfl]; exact ho10) hf10 (fun y hy => by
                simp only [Value.ownBlock, Option.some.injEq] at hy
                subst hy
                rcases hg10 with k | k
                · exact Or.inl k
                · right; rw [k]; simp)
              have HAp := Lib.hid (hApp.less (cs := []) (by simp))
              clear hApp ho9 ho10 ho2 hf9 hf10 hg9 hg10 hlen hfl hii hz0 hz1 hz2
              go_wp2_with (at_builtin; first | refine wpList_app rfl (.tmp 147) (.tmp 149) _ rfl rfl rfl _ rfl hrun9 ?_ | refine wpList_app rfl (.tmp 151) (.tmp 153) _ rfl rfl rfl _ rfl hrun10 ?_)
              exact ⟨⟨i + 1, S', fB, L ++ [wd], by omega, by simp, by have := HAp.out; simpa using this, by rw [HE.out.2.2.1]; exact HR.out.2.1, by rw [HE.out.2.2.2]; exact HR.out.2.2.1, by have := HE.out.2.1; have := HR.out.2.2.2.1; omega, by have := HR.out.2.2.2.2.1; simp; omega⟩, by simp [intOf]; omega⟩
            · have k2 : (kk == 2) = false := by simp [h2]
              clear h2 h5
              go_wp2_with fail
              exact ⟨⟨i + 1, S', fB, L, by omega, by simp, HK8.out.less (by simp), by rw [HE.out.2.2.1]; exact HR.out.2.1, by rw [HE.out.2.2.2]; exact HR.out.2.2.1, by have := HE.out.2.1; have := HR.out.2.2.2.1; omega, by have := HR.out.2.2.2.2.1; omega⟩, by simp [intOf]; omega⟩
          · skip
            have hK1 := (HQ.out.box [.int .i64 0, .int .i64 0] 41).box [.int .i64 0, .int .i64 0] 41
            simp only [World.size_alloc] at hK1
            have hwl := fun wz (v : Option Addr) (c : Nat) (h : Own wz (.slice v L.length c) 38 3 L.length (flat L)) => lword_c wz v c L h.wds.2 HR.out.2.2.2.2.2.2 x.a
            have hfa : FewB S fuel := by unfold FewB; rw [HR.out.2.1]; have := HR.out.2.2.2.1; simp only [List.length_nil]; omega
            have hfb : FewB (S.as rB fB) (max fuel 0 + more) := by
              show S.told.length + (max fuel 0 + more).toNat + 1 ≤ 1000000 ∧ S.mem.blocks.length + (max fuel 0 + more).toNat + 1 ≤ 1000000 ∧ (max fuel 0 + more).toNat + 1 ≤ 1000000
              rw [HR.out.2.1]; have := HR.out.2.2.2.1; simp only [List.length_nil]; omega
            generalize wordL L x.a = wd at *
            obtain ⟨xp, xa, xn⟩ := wd
            simp only at hwl
            have hC := Lib.hid fun wz (m : Nat) (A : Nat → Prop) (hI : MInv w.heap.size P A wz m S) => poll_m hI hPg.out xp xa xn 1 fuel hfa
            have hCb := Lib.hid fun wz (m : Nat) (A : Nat → Prop) (hI : MInv w.heap.size P A wz m (S.as rB fB)) => poll_m hI hPg.out xp xa xn 1 (max fuel 0 + more) hfb
            obtain ⟨mn, hmn⟩ := Int.eq_ofNat_of_zero_le (show 0 ≤ more by omega)
            have hEq : (pollS P S ⟨xp, xa, xn⟩ 1 fuel).1.1 ≠ 4 → (pollS P S ⟨xp, xa, xn⟩ 1 fuel).1.1 ≠ 5 → pollS P (S.as rB fB) ⟨xp, xa, xn⟩ 1 (max fuel 0 + more) = ((pollS P S ⟨xp, xa, xn⟩ 1 fuel).1, (pollS P S ⟨xp, xa, xn⟩ 1 fuel).2.as rB ((pollS P S ⟨xp, xa, xn⟩ 1 fuel).2.fuel + (max fuel 0 + more - fuel))) := fun h4 h5 => by
              rw [hmn]
              exact poll_as hPg.out _ _ _ mn (by rw [HR.out.2.2.1]; exact HRR.out.1) h4 h5
            have hGr := pollS_grow (S := S) hPg.out ⟨xp, xa, xn⟩ 1 fuel
            have hRo : (pollS P S ⟨xp, xa, xn⟩ 1 fuel).2.mem.room = S.mem.room := poll_room _ _ _ _ _
            generalize pollS P (S.as rB fB) ⟨xp, xa, xn⟩ 1 (max fuel 0 + more) = Rb at *
            generalize pollS P S ⟨xp, xa, xn⟩ 1 fuel = R at *
            obtain ⟨⟨rk, rn⟩, S'⟩ := R
            obtain ⟨⟨tk, tn⟩, Sb⟩ := Rb
            simp only at hC hCb hEq hGr hRo
            have HE := Lib.hid (And.intro hEq (And.intro hGr hRo))
            have HWL := Lib.hid hwl
            obtain ⟨q0, q1, q2, q3, qz⟩ := row4 (hK1.row (List.mem_cons_of_mem _ (List.mem_cons_of_mem _ List.mem_cons_self)))
            have HK1 := Lib.hid hK1
            clear hEq hGr hRo hwl hK1 hfa hfb hmn
            go_wp2_with fail
            refine (HWL.out _ va vc HK1.out.o1).mono ?_
            rintro e5 w5 ⟨rfl, hf5⟩
            have HK5 := Lib.hid (HK1.out.frN hf5)
            clear hf5 q0 q1 q2 q3 qz
            go_wp2_with fail
            refine (HK5.out.stepA (a' := S') fun A hI => hC.out _ _ _ hI).mono ?_
            rintro e6 w6 ⟨rfl, hK6, hs6⟩
            obtain ⟨q0, q1, q2, q3, qz⟩ := row4 (hK6.row (List.mem_cons_of_mem _ (List.mem_cons_of_mem _ List.mem_cons_self)))
            have rp := hK6.row (List.mem_cons_of_mem _ List.mem_cons_self)
            obtain ⟨p0, p1, pz⟩ := row2 rp
            have hlq := (hK6.row (List.mem_cons_of_mem _ (List.mem_cons_of_mem _ List.mem_cons_self))).lt
            have hK7 := hK6.set (w' := ((w6.setCell ⟨wr.heap.size + 1, 0, none⟩ (.int .i64 rk)).setCell ⟨wr.heap.size + 1, 1, none⟩ (.int .i64 rn))) (cs' := [.int .i64 rk, .int .i64 rn]) (bs' := [(wr.heap.size + 1 + 1, 41, [.int .i64 0, .int .i64 0]), (wr.heap.size + 1, 41, [.int .i64 rk, .int .i64 rn]), (wr.heap.size, 36, [.int .i64 x.k, .int .i64 x.a, .int .i64 x.n, .slice la x.args.length lc])]) (List.mem_cons_of_mem _ List.mem_cons_self) (by omega) (by exact (rp.set_same 0 _).set_same 1 _) (by exact (Fr.set1 _ _ _ _).trans (Fr.set1 _ _ _ _)) (by
              intro e he
              simp only [List.mem_cons, List.not_mem_nil, or_false] at he
              rcases he with rfl | rfl | rfl
              · exact Or.inr ⟨List.mem_cons_self, by first | (simp only [ne_eq]; omega) | simp⟩
              · exact Or.inl rfl
              · exact Or.inr ⟨(List.mem_cons_of_mem _ (List.mem_cons_of_mem _ List.mem_cons_self)), by first | (simp only [ne_eq]; omega) | simp⟩)
            have HK7 := Lib.hid hK7
            have HK6 := Lib.hid hK6
            clear rp hK7 hK6
            go_wp2_with fail
            refine (HWL.out _ ua uc HK7.out.o2).mono ?_
            rintro e8 w8 ⟨rfl, hf8⟩
            have HK8 := Lib.hid (HK7.out.frN hf8)
            clear hf8 q0 q1 q2 q3 qz p0 p1 pz
            go_wp2_with fail
            refine (HK8.out.stepB (b' := Sb) fun A hI => hCb.out _ _ _ hI).mono ?_
            rintro e9 w9 ⟨rfl, hK9, hs9⟩
            have rp := hK9.row List.mem_cons_self
            obtain ⟨q0, q1, qz⟩ := row2 rp
            have hK10 := hK9.set (w' := ((w9.setCell ⟨wr.heap.size + 1 + 1, 0, none⟩ (.int .i64 tk)).setCell ⟨wr.heap.size + 1 + 1, 1, none⟩ (.int .i64 tn))) (cs' := [.int .i64 tk, .int .i64 tn]) (bs' := [(wr.heap.size + 1 + 1, 41, [.int .i64 tk, .int .i64 tn]), (wr.heap.size + 1, 41, [.int .i64 rk, .int .i64 rn]), (wr.heap.size, 36, [.int .i64 x.k, .int .i64 x.a, .int .i64 x.n, .slice la x.args.length lc])]) List.mem_cons_self (by omega) (by exact (rp.set_same 0 _).set_same 1 _) (by exact (Fr.set1 _ _ _ _).trans (Fr.set1 _ _ _ _)) (by
              intro e he
              simp only [List.mem_cons, List.not_mem_nil, or_false] at he
              rcases he with rfl | rfl | rfl
              · exact Or.inl rfl
              · exact Or.inr ⟨(List.mem_cons_of_mem _ List.mem_cons_self), by first | (simp only [ne_eq]; omega) | simp⟩
              · exact Or.inr ⟨(List.mem_cons_of_mem _ (List.mem_cons_of_mem _ List.mem_cons_self)), by first | (simp only [ne_eq]; omega) | simp⟩)
            obtain ⟨p0, p1, pz⟩ := row2 (hK9.row (List.mem_cons_of_mem _ List.mem_cons_self))
            have HK10 := Lib.hid hK10
            clear rp hK9 hK10
            by_cases h5 : rk = 5
            · have k5 : (rk == 5) = true := by simp [h5]
              clear h5
              go_wp2_with fail
              go_ret
              exact ⟨rfl, HK10.out.done⟩
            have k5 : (rk == 5) = false := by simp [h5]
            by_cases h4 : rk = 4
            · have k4 : (rk == 4) = true := by simp [h4]
              clear h5 h4
              go_wp2_with fail
              go_ret
              exact ⟨rfl, HK10.out.done⟩
            have k4 : (rk == 4) = false := by simp [h4]
            have hE := HE.out.1 h4 h5
            simp only [Prod.mk.injEq] at hE
            obtain ⟨⟨e1, e2⟩, e3⟩ := hE
            have e1 := e1.symm
            have e2 := e2.symm
            subst e1 e2 e3
            clear h4 h5
            have hfu : (S'.as rB (S'.fuel + (max fuel 0 + more - fuel))).fuel = S'.fuel + (max fuel 0 + more - fuel) := rfl
            have hdf : wrap64 (S'.fuel + (max fuel 0 + more - fuel) - S'.fuel) = wrap64 (more + max fuel 0 - fuel) := by congr 1; omega
            go_wp2_with fail
            refine HK10.out.toldA.mono ?_
            rintro e11 w11 ⟨to1, tc1, bs11, rfl, hK11, hE11, hsub11, hs11⟩
            have H11 := Lib.hid (And.intro hK11 (And.intro hE11 hsub11))
            clear hK11 hE11 hsub11 q0 q1 qz p0 p1 pz
            go_wp2_with fail
            refine H11.out.1.toldB.mono ?_
            rintro e12 w12 ⟨to2, tc2, bs12, rfl, hK12, hE12, hsub12, hs12⟩
            have hle : S'.told.length ≤ 1000000000 := by
              have h1 := HE.out.2.1.1
              rw [HR.out.2.1] at h1
              simp only [List.length_nil] at h1
              omega
            have hT := Lib.hid (ltold_c w12 to1 to2 tc1 tc2 S'.told (hK12.evs (H11.out.2.1.more hsub12)) (hK12.evs hE12) hle)
            have H12 := Lib.hid (And.intro hK12 (fun e he => hsub12 e (H11.out.2.2 e he)))
            clear hK12 hE12 hsub12 hle
            go_wp2_with fail
            refine hT.out.mono ?_
            rintro e13 w13 ⟨rfl, hf13⟩
            have hK13 := H12.out.1.frN hf13
            obtain ⟨q0, q1, qz⟩ := row2 (hK13.row (H12.out.2 _ List.mem_cons_self))
            obtain ⟨p0, p1, pz⟩ := row2 (hK13.row (H12.out.2 _ (List.mem_cons_of_mem _ List.mem_cons_self)))
            have HK13 := Lib.hid hK13
            clear hK13 hf13 hT
            have h34 : fuel.toNat ≤ 3000 := by omega
            by_cases h6 : rk = 6
            · have k6 : (rk == 6) = true := by simp [h6]
              clear h6
              go_wp2_with fail
              go_ret
              exact ⟨rfl, HK13.out.done⟩
            · have k6 : (rk == 6) = false := by simp [h6]
              clear h6
              go_wp2_with fail
              exact ⟨⟨i + 1, { S' with told := [] }, S'.fuel + (max fuel 0 + more - fuel), L, by omega, by simp, HK13.out.less (by simp), rfl, by show S'.mem.room = rA; rw [HE.out.2.2]; exact HR.out.2.2.1, by have := HE.out.2.1.2; have := HR.out.2.2.2.1; show S'.mem.blocks.length ≤ _; omega, by have := HR.out.2.2.2.2.1; omega⟩, by simp [intOf]; omega⟩
          · skip
            have hK1 := (HQ.out.box [.int .i64 0, .int .i64 0] 41).box [.int .i64 0, .int .i64 0] 41
            simp only [World.size_alloc] at hK1
            have hwl := fun wz (v : Option Addr) (c : Nat) (h : Own wz (.slice v L.length c) 38 3 L.length (flat L)) => lword_c wz v c L h.wds.2 HR.out.2.2.2.2.2.2 x.a
            have hfa : FewB S fuel := by unfold FewB; rw [HR.out.2.1]; have := HR.out.2.2.2.1; simp only [List.length_nil]; omega
            have hfb : FewB (S.as rB fB) (max fuel 0 + more) := by
              show S.told.length + (max fuel 0 + more).toNat + 1 ≤ 1000000 ∧ S.mem.blocks.length + (max fuel 0 + more).toNat + 1 ≤ 1000000 ∧ (max fuel 0 + more).toNat + 1 ≤ 1000000
              rw [HR.out.2.1]; have := HR.out.2.2.2.1; simp only [List.length_nil]; omega
            generalize wordL L x.a = wd at *
            obtain ⟨xp, xa, xn⟩ := wd
            simp only at hwl
            have hC := Lib.hid fun wz (m : Nat) (A : Nat → Prop) (hI : MInv w.heap.size P A wz m S) => cancel_m hI hPg.out xp xa xn 1 fuel hfa
            have hCb := Lib.hid fun wz (m : Nat) (A : Nat → Prop) (hI : MInv w.heap.size P A wz m (S.as rB fB)) => cancel_m hI hPg.out xp xa xn 1 (max fuel 0 + more) hfb
            obtain ⟨mn, hmn⟩ := Int.eq_ofNat_of_zero_le (show 0 ≤ more by omega)
            have hEq : (cancelS P S ⟨xp, xa, xn⟩ 1 fuel).1.1 ≠ 4 → (cancelS P S ⟨xp, xa, xn⟩ 1 fuel).1.1 ≠ 5 → cancelS P (S.as rB fB) ⟨xp, xa, xn⟩ 1 (max fuel 0 + more) = ((cancelS P S ⟨xp, xa, xn⟩ 1 fuel).1, (cancelS P S ⟨xp, xa, xn⟩ 1 fuel).2.as rB ((cancelS P S ⟨xp, xa, xn⟩ 1 fuel).2.fuel + (max fuel 0 + more - fuel))) := fun h4 h5 => by
              rw [hmn]
              exact cancel_as hPg.out _ _ _ mn (by rw [HR.out.2.2.1]; exact HRR.out.1) h4 h5
            have hGr := cancelS_grow (S := S) hPg.out ⟨xp, xa, xn⟩ 1 fuel
            have hRo : (cancelS P S ⟨xp, xa, xn⟩ 1 fuel).2.mem.room = S.mem.room := cancel_room _ _ _ _ _
            generalize cancelS P (S.as rB fB) ⟨xp, xa, xn⟩ 1 (max fuel 0 + more) = Rb at *
            generalize cancelS P S ⟨xp, xa, xn⟩ 1 fuel = R at *
            obtain ⟨⟨rk, rn⟩, S'⟩ := R
            obtain ⟨⟨tk, tn⟩, Sb⟩ := Rb
            simp only at hC hCb hEq hGr hRo
            have HE := Lib.hid (And.intro hEq (And.intro hGr hRo))
            have HWL := Lib.hid hwl
            obtain ⟨q0, q1, q2, q3, qz⟩ := row4 (hK1.row (List.mem_cons_of_mem _ (List.mem_cons_of_mem _ List.mem_cons_self)))
            have HK1 := Lib.hid hK1
            clear hEq hGr hRo hwl hK1 hfa hfb hmn
            go_wp2_with fail
            refine (HWL.out _ va vc HK1.out.o1).mono ?_
            rintro e5 w5 ⟨rfl, hf5⟩
            have HK5 := Lib.hid (HK1.out.frN hf5)
            clear hf5 q0 q1 q2 q3 qz
            go_wp2_with fail
            refine (HK5.out.stepA (a' := S') fun A hI => hC.out _ _ _ hI).mono ?_
            rintro e6 w6 ⟨rfl, hK6, hs6⟩
            obtain ⟨q0, q1, q2, q3, qz⟩ := row4 (hK6.row (List.mem_cons_of_mem _ (List.mem_cons_of_mem _ List.mem_cons_self)))
            have rp := hK6.row (List.mem_cons_of_mem _ List.mem_cons_self)
            obtain ⟨p0, p1, pz⟩ := row2 rp
            have hlq := (hK6.row (List.mem_cons_of_mem _ (List.mem_cons_of_mem _ List.mem_cons_self))).lt
            have hK7 := hK6.set (w' := ((w6.setCell ⟨wr.heap.size + 1, 0, none⟩ (.int .i64 rk)).setCell ⟨wr.heap.size + 1, 1, none⟩ (.int .i64 rn))) (cs' := [.int .i64 rk, .int .i64 rn]) (bs' := [(wr.heap.size + 1 + 1, 41, [.int .i64 0, .int .i64 0]), (wr.heap.size + 1, 41, [.int .i64 rk, .int .i64 rn]), (wr.heap.size, 36, [.int .i64 x.k, .int .i64 x.a, .int .i64 x.n, .slice la x.args.length lc])]) (List.mem_cons_of_mem _ List.mem_cons_self) (by omega) (by exact (rp.set_same 0 _).set_same 1 _) (by exact (Fr.set1 _ _ _ _).trans (Fr.set1 _ _ _ _)) (by
              intro e he
              simp only [List.mem_cons, List.not_mem_nil, or_false] at he
              rcases he with rfl | rfl | rfl
              · exact Or.inr ⟨List.mem_cons_self, by first | (simp only [ne_eq]; omega) | simp⟩
              · exact Or.inl rfl
              · exact Or.inr ⟨(List.mem_cons_of_mem _ (List.mem_cons_of_mem _ List.mem_cons_self)), by first | (simp only [ne_eq]; omega) | simp⟩)
            have HK7 := Lib.hid hK7
            have HK6 := Lib.hid hK6
            clear rp hK7 hK6
            go_wp2_with fail
            refine (HWL.out _ ua uc HK7.out.o2).mono ?_
            rintro e8 w8 ⟨rfl, hf8⟩
            have HK8 := Lib.hid (HK7.out.frN hf8)
            clear hf8 q0 q1 q2 q3 qz p0 p1 pz
            go_wp2_with fail
            refine (HK8.out.stepB (b' := Sb) fun A hI => hCb.out _ _ _ hI).mono ?_
            rintro e9 w9 ⟨rfl, hK9, hs9⟩
            have rp := hK9.row List.mem_cons_self
            obtain ⟨q0, q1, qz⟩ := row2 rp
            have hK10 := hK9.set (w' := ((w9.setCell ⟨wr.heap.size + 1 + 1, 0, none⟩ (.int .i64 tk)).setCell ⟨wr.heap.size + 1 + 1, 1, none⟩ (.int .i64 tn))) (cs' := [.int .i64 tk, .int .i64 tn]) (bs' := [(wr.heap.size + 1 + 1, 41, [.int .i64 tk, .int .i64 tn]), (wr.heap.size + 1, 41, [.int .i64 rk, .int .i64 rn]), (wr.heap.size, 36, [.int .i64 x.k, .int .i64 x.a, .int .i64 x.n, .slice la x.args.length lc])]) List.mem_cons_self (by omega) (by exact (rp.set_same 0 _).set_same 1 _) (by exact (Fr.set1 _ _ _ _).trans (Fr.set1 _ _ _ _)) (by
              intro e he
              simp only [List.mem_cons, List.not_mem_nil, or_false] at he
              rcases he with rfl | rfl | rfl
              · exact Or.inl rfl
              · exact Or.inr ⟨(List.mem_cons_of_mem _ List.mem_cons_self), by first | (simp only [ne_eq]; omega) | simp⟩
              · exact Or.inr ⟨(List.mem_cons_of_mem _ (List.mem_cons_of_mem _ List.mem_cons_self)), by first | (simp only [ne_eq]; omega) | simp⟩)
            obtain ⟨p0, p1, pz⟩ := row2 (hK9.row (List.mem_cons_of_mem _ List.mem_cons_self))
            have HK10 := Lib.hid hK10
            clear rp hK9 hK10
            by_cases h5 : rk = 5
            · have k5 : (rk == 5) = true := by simp [h5]
              clear h5
              go_wp2_with fail
              go_ret
              exact ⟨rfl, HK10.out.done⟩
            have k5 : (rk == 5) = false := by simp [h5]
            by_cases h4 : rk = 4
            · have k4 : (rk == 4) = true := by simp [h4]
              clear h5 h4
              go_wp2_with fail
              go_ret
              exact ⟨rfl, HK10.out.done⟩
            have k4 : (rk == 4) = false := by simp [h4]
            have hE := HE.out.1 h4 h5
            simp only [Prod.mk.injEq] at hE
            obtain ⟨⟨e1, e2⟩, e3⟩ := hE
            have e1 := e1.symm
            have e2 := e2.symm
            subst e1 e2 e3
            clear h4 h5
            have hfu : (S'.as rB (S'.fuel + (max fuel 0 + more - fuel))).fuel = S'.fuel + (max fuel 0 + more - fuel) := rfl
            have hdf : wrap64 (S'.fuel + (max fuel 0 + more - fuel) - S'.fuel) = wrap64 (more + max fuel 0 - fuel) := by congr 1; omega
            go_wp2_with fail
            refine HK10.out.toldA.mono ?_
            rintro e11 w11 ⟨to1, tc1, bs11, rfl, hK11, hE11, hsub11, hs11⟩
            have H11 := Lib.hid (And.intro hK11 (And.intro hE11 hsub11))
            clear hK11 hE11 hsub11 q0 q1 qz p0 p1 pz
            go_wp2_with fail
            refine H11.out.1.toldB.mono ?_
            rintro e12 w12 ⟨to2, tc2, bs12, rfl, hK12, hE12, hsub12, hs12⟩
            have hle : S'.told.length ≤ 1000000000 := by
              have h1 := HE.out.2.1.1
              rw [HR.out.2.1] at h1
              simp only [List.length_nil] at h1
              omega
            have hT := Lib.hid (ltold_c w12 to1 to2 tc1 tc2 S'.told (hK12.evs (H11.out.2.1.more hsub12)) (hK12.evs hE12) hle)
            have H12 := Lib.hid (And.intro hK12 (fun e he => hsub12 e (H11.out.2.2 e he)))
            clear hK12 hE12 hsub12 hle
            go_wp2_with fail
            refine hT.out.mono ?_
            rintro e13 w13 ⟨rfl, hf13⟩
            have hK13 := H12.out.1.frN hf13
            obtain ⟨q0, q1, qz⟩ := row2 (hK13.row (H12.out.2 _ List.mem_cons_self))
            obtain ⟨p0, p1, pz⟩ := row2 (hK13.row (H12.out.2 _ (List.mem_cons_of_mem _ List.mem_cons_self)))
            have HK13 := Lib.hid hK13
            clear hK13 hf13 hT
            have h34 : fuel.toNat ≤ 3000 := by omega
            by_cases h6 : rk = 6
            · have k6 : (rk == 6) = true := by simp [h6]
              clear h6
              go_wp2_with fail
              go_ret
              exact ⟨rfl, HK13.out.done⟩
            · have k6 : (rk == 6) = false := by simp [h6]
              clear h6
              go_wp2_with fail
              exact ⟨⟨i + 1, { S' with told := [] }, S'.fuel + (max fuel 0 + more - fuel), L, by omega, by simp, HK13.out.less (by simp), rfl, by show S'.mem.room = rA; rw [HE.out.2.2]; exact HR.out.2.2.1, by have := HE.out.2.1.2; have := HR.out.2.2.2.1; show S'.mem.blocks.length ≤ _; omega, by have := HR.out.2.2.2.2.1; omega⟩, by simp [intOf]; omega⟩
          · skip
            have hTl : (completeS S x.a x.n).told = S.told := completeS_told _ _ _
            have hBl : (completeS S x.a x.n).mem.blocks.length ≤ S.mem.blocks.length := (completeS_grow _ _).2
            have hRo : (completeS S x.a x.n).mem.room = S.mem.room := complete_room _ _ _
            have hC := Lib.hid fun wz (m : Nat) (A : Nat → Prop) (hI : MInv w.heap.size P A wz m S) => complete_m hI x.a x.n
            have hCb := Lib.hid fun wz (m : Nat) (A : Nat → Prop) (hI : MInv w.heap.size P A wz m (S.as rB fB)) => complete_m hI x.a x.n
            rw [complete_as] at hCb
            generalize completeS S x.a x.n = S' at *
            have HE := Lib.hid (And.intro hTl (And.intro hBl hRo))
            obtain ⟨q0, q1, q2, q3, qz⟩ := row4 (HQ.out.row List.mem_cons_self)
            clear hTl hBl hRo
            go_wp2_with fail
            refine (HQ.out.stepA (a' := S') fun A hI => hC.out _ _ _ hI).mono ?_
            rintro e5 w5 ⟨rfl, hK5, hs5⟩
            obtain ⟨q0, q1, q2, q3, qz⟩ := row4 (hK5.row List.mem_cons_self)
            have HK5 := Lib.hid hK5
            clear hK5
            go_wp2_with fail
            refine (HK5.out.stepB (b' := S'.as rB fB) fun A hI => hCb.out _ _ _ hI).mono ?_
            rintro e6 w6 ⟨rfl, hK6, hs6⟩
            have HK6 := Lib.hid hK6
            clear hK6
            go_wp2_with fail
            exact ⟨⟨i + 1, S', fB, L, by omega, by simp, HK6.out.less (by simp), by rw [HE.out.1]; exact HR.out.2.1, by rw [HE.out.2.2]; exact HR.out.2.2.1, by have := HE.out.2.1; have := HR.out.2.2.2.1; omega, by have := HR.out.2.2.2.2.1; omega⟩, by simp [intOf]; omega⟩
          · go_wp2_with fail
            exact ⟨⟨i + 1, S, fB, L, by omega, by simp, HQ.out.less (by simp), HR.out.2.1, HR.out.2.2.1, by have := HR.out.2.2.2.1; omega, by have := HR.out.2.2.2.2.1; omega⟩, by simp [intOf]; omega⟩
        · obtain rfl : i = l.length := by omega
          have HN := Lib.hid hPk.done
          have hL1 := Lib.hid fun wz (f : Fr Non wr wz) => (hPk.frN f).liveA
          have hL2 := Lib.hid fun wz (f : Fr Non wr wz) => (show Calls Try.prog 19 #[.pointer (some ⟨mb, 0, none⟩)] wz fun e w' => e = .returned (.int .i64 (live S.mem.blocks)) ∧ Fr Non wz w' from (hPk.frN f).liveB)
          clear hPk hSt hRm hbd hLl
          go_wp2_with fail
          refine (hL1.out _ (by exact (by repeat (first | exact Fr.refl _ _ | assumption | refine Fr.drewN ?_ _ | refine Fr.drew ?_ | refine Fr.drewl ?_ | refine Fr.drewNl ?_ _ | refine Fr.alloc ?_ _)))).mono ?_
          rintro e5 w5 ⟨rfl, hf5⟩
          have H5 := Lib.hid (Fr.trans (by exact (by repeat (first | exact Fr.refl _ _ | assumption | refine Fr.drewN ?_ _ | refine Fr.drew ?_ | refine Fr.drewl ?_ | refine Fr.drewNl ?_ _ | refine Fr.alloc ?_ _)) : Fr Non wr _) hf5)
          clear hf5
          go_wp2_with fail
          refine (hL2.out _ (by exact H5.out)).mono ?_
          rintro e6 w6 ⟨rfl, hf6⟩
          have H6 := Lib.hid ((HN.out.trans H5.out).trans hf6)
          clear hf6
          go_wp2_with fail
          go_ret
          exact ⟨rfl, H6.out⟩
    · have hN := Lib.hid (new_no (HH.out.1.fr HF2.out (high_non _)) hb2 hv words)
      go_wp2_with fail
      refine hN.out.mono ?_
      rintro e3 w3 ⟨rfl, hf3⟩
      have R3 := Lib.hid (hf3.row R2.out id)
      obtain ⟨q0, q1, qz⟩ := row2 R3.out
      have HF3 := Lib.hid (HF2.out.trans hf3)
      have hs3 := hf3.size
      have hN := Lib.hid (new_no (HH.out.1.fr HF3.out (high_non _)) (by omega) hv (max words 0 + room))
      clear hf3 p0 p1 pz
      go_wp2_with fail
      refine hN.out.mono ?_
      rintro e4 w4 ⟨rfl, hf4⟩
      have HF4 := Lib.hid (HF3.out.trans hf4)
      clear hf4 q0 q1 qz
      go_wp2_with fail
      go_ret
      exact ⟨rfl, HF4.out⟩

end Go.Proofs.Ytlbomnbpahmphaa
