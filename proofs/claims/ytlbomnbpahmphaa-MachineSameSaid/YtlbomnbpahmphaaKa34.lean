/- Walk: 'MachineSame': the whole law answers true. Conditions: the program, and the acts, lie as they are read. -/
import Derived.Test.YtlbomnbpahmphaaKa19
import Derived.Test.YtlbomnbpahmphaaKa29
import Derived.Test.YtlbomnbpahmphaaKa30
import Derived.Test.YtlbomnbpahmphaaKa32
import Derived.Test.YtlbomnbpahmphaaKa33
namespace Go.Proofs.Ytlbomnbpahmphaa
open Go.RowKit

theorem actS_grow {P : Pr} {kinds : List Int} {S : St} (hP : PrGood P kinds) (k a n : Int) (l : List Int) (fuel : Int) : Grow (fuel.toNat + 1) S (actS P S k a n l fuel).2 := by
  unfold actS
  split
  · exact (startS_grow a l).le (by omega)
  · split
    · exact pollS_grow hP _ _ _
    · split
      · exact cancelS_grow hP _ _ _
      · split
        · exact (completeS_grow a n).le (by omega)
        · exact Grow.refl _ _

set_option maxRecDepth 100000 in
set_option maxHeartbeats 4000000 in
theorem same_c (w : World) (P : Pr) (v : Value) (hP : PrAt w.heap.size P w v) (words fuel : Int) (ao bo : Option Addr) (ac bc : Nat) (l o : List Ax) (hl : AxAt w.heap.size w ao l) (ho : AxAt w.heap.size w bo o) :
    Calls Try.prog 4 #[v, .int .i64 words, .int .i64 fuel, .slice ao l.length ac, .slice bo o.length bc] w fun e w' => e = .returned (.bool true) ∧ Fr Non w w' := by
  obtain ⟨fo, fc, co, cc, rfl, hfu, hco⟩ := hP.val
  have HH := Lib.hid (And.intro hP (And.intro hl ho))
  clear hP hl ho hfu hco
  have h0l : (0 : Int) ≤ (l.length : Int) := by omega
  have h0o : (0 : Int) ≤ (o.length : Int) := by omega
  go_enter Try.func4, Try.ntmps4
  go_wp2_with fail
  refine (works03_c _).mono ?_
  rintro e1 w1 ⟨rfl, hf1⟩
  have r5 : Row w1 w.heap.size 25 [.slice fo P.funs.length fc, .slice co P.cos.length cc] := hf1.new_row id
  have hf1' : Fr Non w w1 := Fr.trans (by exact (by repeat (first | exact Fr.refl _ _ | assumption | refine Fr.drewN ?_ _ | refine Fr.drew ?_ | refine Fr.drewl ?_ | refine Fr.drewNl ?_ _ | refine Fr.alloc ?_ _))) hf1
  have HF1 := Lib.hid hf1'
  obtain ⟨q0, q1, qz⟩ := row2 r5
  have R1 := Lib.hid r5
  clear hf1 hf1' r5
  have hOv := Lib.hid (over03_c (HH.out.1.fr HF1.out (high_non _)))
  go_wp2_with fail
  refine hOv.out.mono ?_
  rintro e2 w2 ⟨⟨b, rfl⟩, hf2⟩
  have HF2 := Lib.hid (HF1.out.trans hf2)
  obtain ⟨p0, p1, pz⟩ := row2 (hf2.row R1.out id)
  have R2 := Lib.hid (hf2.row R1.out id)
  clear hf2 q0 q1 qz hOv
  cases b with
  | true =>
    go_wp2_with fail
    go_ret
    exact ⟨rfl, HF2.out⟩
  | false =>
    by_cases g1 : (60 : Int) < l.length
    · have d1 : decide ((60 : Int) < l.length) = true := decide_eq_true g1
      go_wp2_with fail
      go_ret
      exact ⟨rfl, HF2.out⟩
    have d1 : decide ((60 : Int) < l.length) = false := decide_eq_false g1
    by_cases g2 : (60 : Int) < o.length
    · have d2 : decide ((60 : Int) < o.length) = true := decide_eq_true g2
      go_wp2_with fail
      go_ret
      exact ⟨rfl, HF2.out⟩
    have d2 : decide ((60 : Int) < o.length) = false := decide_eq_false g2
    by_cases g3 : (3000 : Int) < fuel
    · have d3 : decide ((3000 : Int) < fuel) = true := decide_eq_true g3
      go_wp2_with fail
      go_ret
      exact ⟨rfl, HF2.out⟩
    have d3 : decide ((3000 : Int) < fuel) = false := decide_eq_false g3
    by_cases g4 : (2000 : Int) < words
    · have d4 : decide ((2000 : Int) < words) = true := decide_eq_true g4
      go_wp2_with fail
      go_ret
      exact ⟨rfl, HF2.out⟩
    have d4 : decide ((2000 : Int) < words) = false := decide_eq_false g4
    have hb2 := HF2.out.size
    by_cases hv : validS P = true
    · have hN := Lib.hid (new_ok (HH.out.1.fr HF2.out (high_non _)) hb2 hv words)
      go_wp2_with fail
      refine hN.out.mono ?_
      rintro e3 w3 ⟨ma, Aa, rfl, hf3, hI3, hA3⟩
      have R3 := Lib.hid (hf3.row R2.out id)
      obtain ⟨q0, q1, qz⟩ := row2 R3.out
      have HF3 := Lib.hid (HF2.out.trans hf3)
      have hs3 := hf3.size
      have H3 := Lib.hid ((Mach.none w.heap.size P w3).add hI3 (fun x hx => hx.elim))
      have hN := Lib.hid (new_ok (HH.out.1.fr HF3.out (high_non _)) (by omega) hv words)
      clear hf3 hI3 hA3 p0 p1 pz
      go_wp2_with fail
      refine hN.out.mono ?_
      rintro e4 w4 ⟨mb, Ab, rfl, hf4, hI4, hA4⟩
      have R4 := Lib.hid (hf4.row R3.out id)
      obtain ⟨p0, p1, pz⟩ := row2 R4.out
      have HF4 := Lib.hid (HF3.out.trans hf4)
      have hs4 := hf4.size
      have H4 := Lib.hid ((H3.out.frN hf4).rot.add hI4 (fun x hx e => by have := H3.out.lt x hx; have := hA4 x e; omega))
      have hN := Lib.hid (new_ok (HH.out.1.fr HF4.out (high_non _)) (by omega) hv words)
      clear hf4 hI4 hA4 q0 q1 qz
      go_wp2_with fail
      refine hN.out.mono ?_
      rintro e5 w5 ⟨mc, Ac, rfl, hf5, hI5, hA5⟩
      have HF5 := Lib.hid (HF4.out.trans hf5)
      have hs5 := hf5.size
      have H5 := Lib.hid ((H4.out.frN hf5).rot.add hI5 (fun x hx e => by have := H4.out.lt x hx; have := hA5 x e; omega))
      clear hf5 hI5 hA5 p0 p1 pz hN
      go_wp2_with fail
      have hPg := Lib.hid (valid_good hv HH.out.1.lab)
      have hPa := Lib.hid (valid_args hv)
      have hf5 : Fr (fun x => w.heap.size ≤ x) w w5 := HF5.out.mono fun _ _ h => h.elim
      have H6 := Lib.hid hf5
      clear hf5 HF1 HF2 HF3 HF4 HF5 H3 H4 R1 R2 R3 R4 hs3 hs4 hs5
      go_loopw [19] (fun v19 wr => ∃ (i : Nat) (U : Nat → Prop) (S T : St), i ≤ l.length ∧ v19 = .int .i64 i ∧ Mach w.heap.size P U wr (some (ma, S)) (some (mb, S)) (some (mc, T)) ∧ S.told = [] ∧ (S.mem.blocks.length ≤ i * 3001 ∧ T.told.length ≤ i * 3001 ∧ T.mem.blocks.length ≤ i * 3001) ∧ Fr (fun x => w.heap.size ≤ x) w wr) (fun v19 _ => l.length - (intOf v19).toNat)
      case atStart => exact ⟨0, _, _, _, by omega, rfl, H5.out, rfl, ⟨by simp [St.new], by simp [St.new], by simp [St.new]⟩, H6.out⟩
      case round =>
        obtain ⟨i, U, S, T, hi, rfl, hM, hSt, hbd, hf⟩ := hrel
        by_cases hlt : i < l.length
        · obtain ⟨x, hx⟩ : ∃ x, l[i]? = some x := ⟨l[i], List.getElem?_eq_getElem hlt⟩
          have hH : High w.heap.size (fun x => w.heap.size ≤ x) := fun x h => h
          obtain ⟨sb, so, la, lc, rfl, c0, c1, c2, c3, c4⟩ := (HH.out.2.1.fr hf hH) i x hx
          have e0 := c0.2
          have e1 := c1.2
          have e2 := c2.2
          have e3 := c3.2
          have hfew : FewB S fuel := by unfold FewB; rw [hSt]; simp only [List.length_nil]; omega
          have hfewT : FewB T fuel := by unfold FewB; omega
          have hG := actS_grow (S := S) hPg.out x.k x.a x.n x.args fuel
          obtain ⟨R, hR⟩ : ∃ R, R = actS P S x.k x.a x.n x.args fuel := ⟨_, rfl⟩
          have hC := Lib.hid fun wz (m : Nat) (A : Nat → Prop) (la : Option Addr) (lc : Nat) (hI : MInv w.heap.size P A wz m S) (c4 : IntsAt w.heap.size wz la x.args) => lone_m hI hPg.out hPa.out x.k x.a x.n la lc x.args c4 fuel hfew
          rw [← hR] at hG hC
          obtain ⟨⟨rk, rn⟩, S'⟩ := R
          simp only at hC hG
          have HX := Lib.hid hx
          have B4 := Lib.hid c4
          have HR := Lib.hid (And.intro hM (And.intro hf (And.intro hSt (And.intro hbd (And.intro hG hfewT)))))
          have hi0 : (0 : Int) ≤ (i : Int) := by omega
          have hi1 : (i : Int) < (l.length : Int) := by omega
          clear hM hf hSt hbd hG hR c0 c1 c2 c3 c4 hfew hfewT hx
          go_wp2_with fail
          refine (HR.out.1.step (S' := S') fun A hI => hC.out _ _ _ la lc hI B4.out).mono ?_
          rintro e6 w6 ⟨rfl, U6, hM6, hU6, hF6⟩
          have hs6 := hF6.size
          have hf6 : Fr (fun x => w.heap.size ≤ x) w w6 := HR.out.2.1.then hF6 fun x hx e => HR.out.1.high x e
          have H6b := Lib.hid (And.intro hM6 (And.intro hf6 (hF6.mono fun x _ hx => HR.out.1.high x hx)))
          clear hM6 hU6 hF6 hf6 e0 e1 e2 e3
          obtain ⟨sb2, so2, la2, lc2, hE, c0, c1, c2, c3, c4⟩ := (HH.out.2.1.fr (H6b.out.2.1.alloc (.cells #[.int .i64 rk, .int .i64 rn] 41)) hH) i x HX.out
          cases hE
          have hsb := c0.1
          have l0 := c0.2
          have l1 := c1.2
          have l2 := c2.2
          have l3 := c3.2
          have hb6 := H6b.out.2.1.size
          have nsb : ¬ sb = w6.heap.size := by omega
          have C4 := Lib.hid c4
          clear c0 c1 c2 c3 c4
          by_cases hio : (i : Int) < (o.length : Int)
          · have dio : decide ((i : Int) < (o.length : Int)) = true := decide_eq_true hio
            obtain ⟨y, hy⟩ : ∃ y, o[i]? = some y := ⟨o[i]'(by omega), List.getElem?_eq_getElem (by omega)⟩
            obtain ⟨tb, to, ma2, mc2, rfl, c0, c1, c2, c3, c4⟩ := (HH.out.2.2.fr (H6b.out.2.1.alloc (.cells #[.int .i64 rk, .int .i64 rn] 41)) hH) i y hy
            have htb := c0.1
            have e0 := c0.2
            have e1 := c1.2
            have e2 := c2.2
            have e3 := c3.2
            have ntb : ¬ tb = w6.heap.size := by omega
            have D4 := Lib.hid c4
            clear c0 c1 c2 c3 c4 hy
            have hcT := HR.out.2.2.2.2.2
            have hGT := actS_grow (S := T) hPg.out y.k y.a y.n y.args fuel
            obtain ⟨RT, hRT⟩ : ∃ RT, RT = actS P T y.k y.a y.n y.args fuel := ⟨_, rfl⟩
            have hCT := Lib.hid fun wz (m : Nat) (A : Nat → Prop) (la : Option Addr) (lc : Nat) (hI : MInv w.heap.size P A wz m T) (c4 : IntsAt w.heap.size wz la y.args) => lone_m hI hPg.out hPa.out y.k y.a y.n la lc y.args c4 fuel hcT
            rw [← hRT] at hGT hCT
            obtain ⟨⟨tk, tn⟩, T'⟩ := RT
            simp only at hCT hGT
            have hnU : ¬ U6 w6.heap.size := fun e => by have := H6b.out.1.lt _ e; omega
            have r20 : Row (w6.alloc (.cells #[.int .i64 rk, .int .i64 rn] 41)) w6.heap.size 41 [.int .i64 rk, .int .i64 rn] := Row.new' rfl
            have hfa : Fr Non w6 (w6.alloc (.cells #[.int .i64 rk, .int .i64 rn] 41)) := by exact (by repeat (first | exact Fr.refl _ _ | assumption | refine Fr.drewN ?_ _ | refine Fr.drew ?_ | refine Fr.drewl ?_ | refine Fr.drewNl ?_ _ | refine Fr.alloc ?_ _))
            have hsa : (w6.alloc (.cells #[.int .i64 rk, .int .i64 rn] 41)).heap.size = w6.heap.size + 1 := by simp
            have HB := Lib.hid (And.intro hnU (And.intro r20 (And.intro hfa hGT)))
            clear hcT hGT hRT hnU r20 hfa
            go_wp2_with fail
            refine ((H6b.out.1.frN HB.out.2.2.1).rot.rot.step (S' := T') fun A hI => hCT.out _ _ _ ma2 mc2 hI D4.out).mono ?_
            rintro e7 w7 ⟨rfl, U7, hM7, hU7, hF7⟩
            have hs7 := hF7.size
            have r20 := hF7.row HB.out.2.1 HB.out.1
            have hnU7 : ¬ U7 w6.heap.size := fun e => by rcases hU7 _ e with h | h; exact HB.out.1 h; omega
            have hf7 : Fr (fun x => w.heap.size ≤ x) w w7 := (H6b.out.2.1.then HB.out.2.2.1 fun _ _ h => h.elim).then hF7 fun x hx e => H6b.out.1.high x e
            have hbT : T'.told.length ≤ (i + 1) * 3001 ∧ T'.mem.blocks.length ≤ (i + 1) * 3001 := by
              have h1 := HB.out.2.2.2.1
              have h2 := HB.out.2.2.2.2
              have h3 := HR.out.2.2.2.1
              have h4 : fuel.toNat ≤ 3000 := by omega
              omega
            have hg7 : w6.heap.size < w7.heap.size := by omega
            have H7 := Lib.hid (And.intro hM7.rot (And.intro hf7 (And.intro r20 (And.intro hnU7 hbT))))
            generalize w6.heap.size = g at *
            clear hM7 hU7 hF7 r20 hnU7 hf7 hbT HB hCT D4 C4 l0 l1 l2 l3 e0 e1 e2 e3
            obtain ⟨sb3, so3, la3, lc3, hE3, c0, c1, c2, c3, c4⟩ := (HH.out.2.1.fr H7.out.2.1 hH) i x HX.out
            cases hE3
            have l0 := c0.2
            have l1 := c1.2
            have l2 := c2.2
            have l3 := c3.2
            have C4 := Lib.hid c4
            clear c0 c1 c2 c3 c4
            go_wp2_with fail
            refine (H7.out.1.rot.step (S' := S') fun A hI => hC.out _ _ _ la3 lc3 hI C4.out).mono ?_
            rintro e8 w8 ⟨rfl, U8, hM8, hU8, hF8⟩
            have hs8 := hF8.size
            have r20 := hF8.row H7.out.2.2.1 H7.out.2.2.2.1
            have hnU8 : ¬ U8 g := fun e => by rcases hU8 _ e with h | h; exact H7.out.2.2.2.1 h; omega
            have hnU8' : ¬ U8 w8.heap.size := fun e => by have := hM8.lt _ e; omega
            have hf8 : Fr (fun x => w.heap.size ≤ x) w w8 := H7.out.2.1.then hF8 fun x hx e => H7.out.1.high x e
            have H8 := Lib.hid (And.intro hM8.rot.rot (And.intro hf8 (And.intro r20 (And.intro hnU8 hnU8'))))
            clear hM8 hU8 hF8 r20 hnU8 hnU8' hf8 l0 l1 l2 l3 C4
            go_wp2_with fail
            have fa8 : Fr Non w8 (w8.alloc (.cells #[.int .i64 rk, .int .i64 rn] 41)) := by exact (by repeat (first | exact Fr.refl _ _ | assumption | refine Fr.drewN ?_ _ | refine Fr.drew ?_ | refine Fr.drewl ?_ | refine Fr.drewNl ?_ _ | refine Fr.alloc ?_ _))
            have r21 : Row (w8.alloc (.cells #[.int .i64 rk, .int .i64 rn] 41)) w8.heap.size 41 [.int .i64 rk, .int .i64 rn] := Row.new' rfl
            have hsb8 : (w8.alloc (.cells #[.int .i64 rk, .int .i64 rn] 41)).heap.size = w8.heap.size + 1 := by simp
            generalize w8.alloc (.cells #[.int .i64 rk, .int .i64 rn] 41) = V8 at *
            refine (H8.out.1.frN fa8).told.mono ?_
            rintro e9 w9 ⟨tv, U9, rfl, ho9, hM9, hU9, htv9, hF9⟩
            have hs9 := hF9.size
            have hUm : U8 ma := (H8.out.1.rot.rot |> fun h => by obtain ⟨A1, A2, A3, k1, k2, k3, _, _, _, k7⟩ := h; exact (k7 ma).2 (Or.inr (Or.inl (MInv.om k2))))
            have hUm9 : U9 mb := (by obtain ⟨A1, A2, A3, k1, k2, k3, _, _, _, k7⟩ := hM9; exact (k7 mb).2 (Or.inr (Or.inl (MInv.om k2))))
            have hgm : g ≠ ma := fun e => H8.out.2.2.2.1 (e ▸ hUm)
            have hgm8 : w8.heap.size ≠ ma := fun e => H8.out.2.2.2.2 (e ▸ hUm)
            have hgb : g ≠ mb := fun e => H8.out.2.2.2.1 (e ▸ (hU9 mb hUm9).1)
            have hgb8 : w8.heap.size ≠ mb := fun e => H8.out.2.2.2.2 (e ▸ (hU9 mb hUm9).1)
            have r20 := hF9.row (fa8.row H8.out.2.2.1 id) hgm
            have r21 := hF9.row r21 hgm8
            have hf9 : Fr (fun x => w.heap.size ≤ x) w w9 := (H8.out.2.1.then fa8 fun _ _ h => h.elim).then hF9 fun x hx e => by subst e; exact H8.out.1.high _ hUm
            have H9 := Lib.hid (And.intro hM9 (And.intro hf9 (And.intro r20 (And.intro r21 (And.intro ho9 (And.intro (hU9 mb hUm9).2 (And.intro hgb (And.intro hgb8 (hM9.high mb hUm9)))))))))
            clear hM9 hU9 htv9 hF9 r20 r21 hf9 ho9 fa8 hUm hUm9 hgm hgm8 hgb hgb8
            go_wp2_with fail
            refine H9.out.1.rot.told.mono ?_
            rintro e10 w10 ⟨tw, U10, rfl, ho10, hM10, hU10, htv10, hF10⟩
            have hs10 := hF10.size
            have r20 := hF10.row H9.out.2.2.1 H9.out.2.2.2.2.2.2.1
            have r21 := hF10.row H9.out.2.2.2.1 H9.out.2.2.2.2.2.2.2.1
            have ho9 := H9.out.2.2.2.2.1.fr hF10 (fun x hx e => H9.out.2.2.2.2.2.1 (by rw [← e]; exact hx))
            have hf10 : Fr (fun x => w.heap.size ≤ x) w w10 := H9.out.2.1.then hF10 fun x hx e => by subst e; exact H9.out.2.2.2.2.2.2.2.2
            obtain ⟨to1, tc1, rfl, _, _, _, _⟩ := ho9.form
            obtain ⟨to2, tc2, rfl, _, _, _, _⟩ := ho10.form
            have hle : S'.told.length ≤ 1000000000 := by
              have h1 := HR.out.2.2.2.2.1.1
              rw [HR.out.2.2.1] at h1
              simp only [List.length_nil] at h1
              omega
            have hT := Lib.hid (ltold_c w10 to1 to2 tc1 tc2 S'.told ho9.evs.2 ho10.evs.2 hle)
            have H10 := Lib.hid (And.intro hM10.rot.rot (And.intro hf10 (And.intro r20 r21)))
            clear hM10 hU10 htv10 hF10 r20 r21 hf10 ho9 ho10 hle
            go_wp2_with fail
            refine hT.out.mono ?_
            rintro e11 w11 ⟨rfl, hf11⟩
            have hs11 := hf11.size
            obtain ⟨a0, a1, az⟩ := row2 (hf11.row H10.out.2.2.1 id)
            obtain ⟨b0, b1, bz⟩ := row2 (hf11.row H10.out.2.2.2 id)
            have H11 := Lib.hid (And.intro (H10.out.1.frN hf11) (H10.out.2.1.then hf11 fun _ _ h => h.elim))
            have hL1 := Lib.hid fun wz (f : Fr Non w11 wz) => (H11.out.1.frN f).live
            have hL2 := Lib.hid fun wz (f : Fr Non w11 wz) => (H11.out.1.frN f).rot.live
            clear hf11 hT
            go_wp2_with fail
            refine (hL1.out _ (by exact (by repeat (first | exact Fr.refl _ _ | assumption | refine Fr.drewN ?_ _ | refine Fr.drew ?_ | refine Fr.drewl ?_ | refine Fr.drewNl ?_ _ | refine Fr.alloc ?_ _)))).mono ?_
            rintro e12 w12 ⟨rfl, hf12⟩
            have H12 := Lib.hid (Fr.trans (by exact (by repeat (first | exact Fr.refl _ _ | assumption | refine Fr.drewN ?_ _ | refine Fr.drew ?_ | refine Fr.drewl ?_ | refine Fr.drewNl ?_ _ | refine Fr.alloc ?_ _)) : Fr Non w11 _) hf12)
            clear hf12
            go_wp2_with fail
            refine (hL2.out _ (by exact H12.out)).mono ?_
            rintro e13 w13 ⟨rfl, hf13⟩
            have H13 := Lib.hid (H12.out.trans hf13)
            clear hf13
            go_wp2_with fail
            refine ⟨⟨i + 1, U10, { S' with told := [] }, _, by omega, by simp, H11.out.1.frN H13.out, rfl, ⟨?_, H7.out.2.2.2.2⟩, H11.out.2.then H13.out fun _ _ h => h.elim⟩, by simp [intOf]; omega⟩
            have h2 := HR.out.2.2.2.2.1.2
            have h3 := HR.out.2.2.2.1
            have h4 : fuel.toNat ≤ 3000 := by omega
            simp only
            omega
          · have dio : decide ((i : Int) < (o.length : Int)) = false := decide_eq_false hio
            go_wp2_with fail
            have H7 : Hid (Mach w.heap.size P U6 (w6.alloc (.cells #[.int .i64 rk, .int .i64 rn] 41)) (some (ma, S')) (some (mb, S)) (some (mc, T)) ∧ Fr (fun x => w.heap.size ≤ x) w (w6.alloc (.cells #[.int .i64 rk, .int .i64 rn] 41)) ∧ Row (w6.alloc (.cells #[.int .i64 rk, .int .i64 rn] 41)) w6.heap.size 41 [.int .i64 rk, .int .i64 rn] ∧ ¬ U6 w6.heap.size ∧ T.told.length ≤ (i + 1) * 3001 ∧ T.mem.blocks.length ≤ (i + 1) * 3001) :=
              Lib.hid ⟨H6b.out.1.frN (by exact (by repeat (first | exact Fr.refl _ _ | assumption | refine Fr.drewN ?_ _ | refine Fr.drew ?_ | refine Fr.drewl ?_ | refine Fr.drewNl ?_ _ | refine Fr.alloc ?_ _))), H6b.out.2.1.alloc _, Row.new' rfl, fun e => by have := H6b.out.1.lt _ e; omega, by have := HR.out.2.2.2.1; omega⟩
            have hg7 : w6.heap.size < (w6.alloc (.cells #[.int .i64 rk, .int .i64 rn] 41)).heap.size := by simp
            generalize w6.alloc (.cells #[.int .i64 rk, .int .i64 rn] 41) = w7 at *
            generalize w6.heap.size = g at *
            refine (H7.out.1.rot.step (S' := S') fun A hI => hC.out _ _ _ la2 lc2 hI C4.out).mono ?_
            rintro e8 w8 ⟨rfl, U8, hM8, hU8, hF8⟩
            have hs8 := hF8.size
            have r20 := hF8.row H7.out.2.2.1 H7.out.2.2.2.1
            have hnU8 : ¬ U8 g := fun e => by rcases hU8 _ e with h | h; exact H7.out.2.2.2.1 h; omega
            have hnU8' : ¬ U8 w8.heap.size := fun e => by have := hM8.lt _ e; omega
            have hf8 : Fr (fun x => w.heap.size ≤ x) w w8 := H7.out.2.1.then hF8 fun x hx e => H7.out.1.high x e
            have H8 := Lib.hid (And.intro hM8.rot.rot (And.intro hf8 (And.intro r20 (And.intro hnU8 hnU8'))))
            clear hM8 hU8 hF8 r20 hnU8 hnU8' hf8 l0 l1 l2 l3 C4
            go_wp2_with fail
            have fa8 : Fr Non w8 (w8.alloc (.cells #[.int .i64 rk, .int .i64 rn] 41)) := by exact (by repeat (first | exact Fr.refl _ _ | assumption | refine Fr.drewN ?_ _ | refine Fr.drew ?_ | refine Fr.drewl ?_ | refine Fr.drewNl ?_ _ | refine Fr.alloc ?_ _))
            have r21 : Row (w8.alloc (.cells #[.int .i64 rk, .int .i64 rn] 41)) w8.heap.size 41 [.int .i64 rk, .int .i64 rn] := Row.new' rfl
            have hsb8 : (w8.alloc (.cells #[.int .i64 rk, .int .i64 rn] 41)).heap.size = w8.heap.size + 1 := by simp
            generalize w8.alloc (.cells #[.int .i64 rk, .int .i64 rn] 41) = V8 at *
            refine (H8.out.1.frN fa8).told.mono ?_
            rintro e9 w9 ⟨tv, U9, rfl, ho9, hM9, hU9, htv9, hF9⟩
            have hs9 := hF9.size
            have hUm : U8 ma := (H8.out.1.rot.rot |> fun h => by obtain ⟨A1, A2, A3, k1, k2, k3, _, _, _, k7⟩ := h; exact (k7 ma).2 (Or.inr (Or.inl (MInv.om k2))))
            have hUm9 : U9 mb := (by obtain ⟨A1, A2, A3, k1, k2, k3, _, _, _, k7⟩ := hM9; exact (k7 mb).2 (Or.inr (Or.inl (MInv.om k2))))
            have hgm : g ≠ ma := fun e => H8.out.2.2.2.1 (e ▸ hUm)
            have hgm8 : w8.heap.size ≠ ma := fun e => H8.out.2.2.2.2 (e ▸ hUm)
            have hgb : g ≠ mb := fun e => H8.out.2.2.2.1 (e ▸ (hU9 mb hUm9).1)
            have hgb8 : w8.heap.size ≠ mb := fun e => H8.out.2.2.2.2 (e ▸ (hU9 mb hUm9).1)
            have r20 := hF9.row (fa8.row H8.out.2.2.1 id) hgm
            have r21 := hF9.row r21 hgm8
            have hf9 : Fr (fun x => w.heap.size ≤ x) w w9 := (H8.out.2.1.then fa8 fun _ _ h => h.elim).then hF9 fun x hx e => by subst e; exact H8.out.1.high _ hUm
            have H9 := Lib.hid (And.intro hM9 (And.intro hf9 (And.intro r20 (And.intro r21 (And.intro ho9 (And.intro (hU9 mb hUm9).2 (And.intro hgb (And.intro hgb8 (hM9.high mb hUm9)))))))))
            clear hM9 hU9 htv9 hF9 r20 r21 hf9 ho9 fa8 hUm hUm9 hgm hgm8 hgb hgb8
            go_wp2_with fail
            refine H9.out.1.rot.told.mono ?_
            rintro e10 w10 ⟨tw, U10, rfl, ho10, hM10, hU10, htv10, hF10⟩
            have hs10 := hF10.size
            have r20 := hF10.row H9.out.2.2.1 H9.out.2.2.2.2.2.2.1
            have r21 := hF10.row H9.out.2.2.2.1 H9.out.2.2.2.2.2.2.2.1
            have ho9 := H9.out.2.2.2.2.1.fr hF10 (fun x hx e => H9.out.2.2.2.2.2.1 (by rw [← e]; exact hx))
            have hf10 : Fr (fun x => w.heap.size ≤ x) w w10 := H9.out.2.1.then hF10 fun x hx e => by subst e; exact H9.out.2.2.2.2.2.2.2.2
            obtain ⟨to1, tc1, rfl, _, _, _, _⟩ := ho9.form
            obtain ⟨to2, tc2, rfl, _, _, _, _⟩ := ho10.form
            have hle : S'.told.length ≤ 1000000000 := by
              have h1 := HR.out.2.2.2.2.1.1
              rw [HR.out.2.2.1] at h1
              simp only [List.length_nil] at h1
              omega
            have hT := Lib.hid (ltold_c w10 to1 to2 tc1 tc2 S'.told ho9.evs.2 ho10.evs.2 hle)
            have H10 := Lib.hid (And.intro hM10.rot.rot (And.intro hf10 (And.intro r20 r21)))
            clear hM10 hU10 htv10 hF10 r20 r21 hf10 ho9 ho10 hle
            go_wp2_with fail
            refine hT.out.mono ?_
            rintro e11 w11 ⟨rfl, hf11⟩
            have hs11 := hf11.size
            obtain ⟨a0, a1, az⟩ := row2 (hf11.row H10.out.2.2.1 id)
            obtain ⟨b0, b1, bz⟩ := row2 (hf11.row H10.out.2.2.2 id)
            have H11 := Lib.hid (And.intro (H10.out.1.frN hf11) (H10.out.2.1.then hf11 fun _ _ h => h.elim))
            have hL1 := Lib.hid fun wz (f : Fr Non w11 wz) => (H11.out.1.frN f).live
            have hL2 := Lib.hid fun wz (f : Fr Non w11 wz) => (H11.out.1.frN f).rot.live
            clear hf11 hT
            go_wp2_with fail
            refine (hL1.out _ (by exact (by repeat (first | exact Fr.refl _ _ | assumption | refine Fr.drewN ?_ _ | refine Fr.drew ?_ | refine Fr.drewl ?_ | refine Fr.drewNl ?_ _ | refine Fr.alloc ?_ _)))).mono ?_
            rintro e12 w12 ⟨rfl, hf12⟩
            have H12 := Lib.hid (Fr.trans (by exact (by repeat (first | exact Fr.refl _ _ | assumption | refine Fr.drewN ?_ _ | refine Fr.drew ?_ | refine Fr.drewl ?_ | refine Fr.drewNl ?_ _ | refine Fr.alloc ?_ _)) : Fr Non w11 _) hf12)
            clear hf12
            go_wp2_with fail
            refine (hL2.out _ (by exact H12.out)).mono ?_
            rintro e13 w13 ⟨rfl, hf13⟩
            have H13 := Lib.hid (H12.out.trans hf13)
            clear hf13
            go_wp2_with fail
            refine ⟨⟨i + 1, U10, { S' with told := [] }, _, by omega, by simp, H11.out.1.frN H13.out, rfl, ⟨?_, H7.out.2.2.2.2⟩, H11.out.2.then H13.out fun _ _ h => h.elim⟩, by simp [intOf]; omega⟩
            have h2 := HR.out.2.2.2.2.1.2
            have h3 := HR.out.2.2.2.1
            have h4 : fuel.toNat ≤ 3000 := by omega
            simp only
            omega
        · obtain rfl : i = l.length := by omega
          have hfN : Fr Non w wr := hf.mono fun x hx h => by omega
          have HN := Lib.hid hfN
          clear hf hfN hM hSt hbd
          go_wp2_with fail
          go_ret
          exact ⟨rfl, HN.out⟩
    · have hN := Lib.hid (new_no (HH.out.1.fr HF2.out (high_non _)) hb2 hv words)
      go_wp2_with fail
      refine hN.out.mono ?_
      rintro e3 w3 ⟨rfl, hf3⟩
      have R3 := Lib.hid (hf3.row R2.out id)
      obtain ⟨q0, q1, qz⟩ := row2 R3.out
      have HF3 := Lib.hid (HF2.out.trans hf3)
      have hs3 := hf3.size
      have hN := Lib.hid (new_no (HH.out.1.fr HF3.out (high_non _)) (by omega) hv words)
      clear hf3 p0 p1 pz
      go_wp2_with fail
      refine hN.out.mono ?_
      rintro e4 w4 ⟨rfl, hf4⟩
      have R4 := Lib.hid (hf4.row R3.out id)
      obtain ⟨p0, p1, pz⟩ := row2 R4.out
      have HF4 := Lib.hid (HF3.out.trans hf4)
      have hs4 := hf4.size
      have hN := Lib.hid (new_no (HH.out.1.fr HF4.out (high_non _)) (by omega) hv words)
      clear hf4 q0 q1 qz
      go_wp2_with fail
      refine hN.out.mono ?_
      rintro e5 w5 ⟨rfl, hf5⟩
      have HF5 := Lib.hid (HF4.out.trans hf5)
      clear hf5 p0 p1 pz hN
      go_wp2_with fail
      go_ret
      exact ⟨rfl, HF5.out⟩

end Go.Proofs.Ytlbomnbpahmphaa
