/- Walk: 'ExecBegins': the whole law answers true. Conditions: the program, the bools, the acts, lie as they are read. -/
import Derived.Test.YtlbomnbpahmphaaMa47
import Derived.Test.YtlbomnbpahmphaaMa48
import Derived.Test.YtlbomnbpahmphaaMa49
namespace Go.Proofs.Ytlbomnbpahmphaa
open Go.RowKit

set_option maxRecDepth 100000 in
set_option maxHeartbeats 1000000 in
theorem begins_c (w : World) (P : Pr) (v : Value) (hP : PrAt w.heap.size P w v) (opn : List Bool) (oo : Option Addr) (oc : Nat) (hopn : BoolsAt w.heap.size w oo opn) (ao : Option Addr) (ac : Nat) (l : List Ax) (hl : AxAt w.heap.size w ao l) (hac : l.length ≤ ac) (fuel words tasks n : Int) :
    Calls Try.prog 5 #[v, .slice oo opn.length oc, .slice ao l.length ac, .int .i64 fuel, .int .i64 words, .int .i64 tasks, .int .i64 n] w fun e w' => e = .returned (.bool true) ∧ Fr Non w w' := by
  obtain ⟨fo, fc, co, cc, rfl, hfu, hco⟩ := hP.val
  have HH := Lib.hid (And.intro hP (And.intro hl hopn))
  clear hP hl hfu hco hopn
  have h0l : (0 : Int) ≤ (l.length : Int) := by omega
  go_enter Try.func5, Try.ntmps5
  go_wp2_with fail
  refine (works21_c _).mono ?_
  rintro e1 w1 ⟨rfl, hf1⟩
  have r7 : Row w1 w.heap.size 25 [.slice fo P.funs.length fc, .slice co P.cos.length cc] := hf1.new_row id
  have hf1' : Fr Non w w1 := Fr.trans (by exact (by repeat (first | exact .refl _ _ | assumption | apply Fr.drewN | apply Fr.drew | apply Fr.drewl | apply Fr.drewNl | apply Fr.alloc))) hf1
  have HF1 := Lib.hid hf1'
  obtain ⟨q0, q1, qz⟩ := row2 r7
  have R1 := Lib.hid r7
  clear hf1 hf1' r7
  have hOv := Lib.hid (over21_c (HH.out.1.fr HF1.out (high_non _)) ao l.length ac fuel words)
  go_wp2_with fail
  refine hOv.out.mono ?_
  rintro e2 w2 ⟨⟨b, rfl, hb40⟩, hf2⟩
  have HF2 := Lib.hid (HF1.out.trans hf2)
  have R2 := Lib.hid (hf2.row R1.out id)
  obtain ⟨p0, p1, pz⟩ := row2 R2.out
  clear hf2 q0 q1 qz hOv
  cases b with
  | true =>
    go_wp2_with fail
    go_ret
    exact ⟨rfl, HF2.out⟩
  | false =>
    obtain ⟨hl40, hf3000, _⟩ := hb40 rfl
    clear hb40
    by_cases g1 : n < 0
    · have d1 : decide (n < 0) = true := decide_eq_true g1
      go_wp2_with fail
      go_ret
      exact ⟨rfl, HF2.out⟩
    have d1 : decide (n < 0) = false := decide_eq_false g1
    by_cases g2 : (l.length : Int) < n
    · have d2 : decide ((l.length : Int) < n) = true := decide_eq_true g2
      go_wp2_with fail
      go_ret
      exact ⟨rfl, HF2.out⟩
    have d2 : decide ((l.length : Int) < n) = false := decide_eq_false g2
    obtain ⟨k, rfl⟩ : ∃ k : Nat, n = (k : Int) := ⟨n.toNat, by omega⟩
    have hk : k ≤ l.length := by omega
    have hkc : k ≤ ac := by omega
    have hkn : (l.take k).length = k := by rw [List.length_take]; omega
    have hs2 := HF2.out.size
    have hlt := R2.out.lt
    have hRa := Lib.hid fun wz (f : Fr Non w2 wz) => run_e wz P _ ((HH.out.1.fr (HF2.out.trans f) (high_non _)).up (by have := f.size; omega)) opn oo oc ((HH.out.2.2.fr (HF2.out.trans f) (high_non _)).up (by have := f.size; omega)) ao ac (l.take k) (((HH.out.2.1.take k).fr (HF2.out.trans f) (high_non _)).up (by have := f.size; omega)) (by omega) fuel words tasks hf3000
    have hRb := Lib.hid fun wz (f : Fr Non w2 wz) => run_e wz P _ ((HH.out.1.fr (HF2.out.trans f) (high_non _)).up (by have := f.size; omega)) opn oo oc ((HH.out.2.2.fr (HF2.out.trans f) (high_non _)).up (by have := f.size; omega)) ao ac l ((HH.out.2.1.fr (HF2.out.trans f) (high_non _)).up (by have := f.size; omega)) (by omega) fuel words tasks hf3000
    have hB := begins_x (P := P) (opn := opn) (fuel := fuel) (words := words) (tasks := tasks) (l.take k) (l.drop k)
    rw [List.take_append_drop] at hB
    have hla := runX_len (P := P) (opn := opn) (words := words) (tasks := tasks) hf3000 (l.take k) (by omega) HH.out.1.lab
    have hlb := runX_len (P := P) (opn := opn) (words := words) (tasks := tasks) hf3000 l (by omega) HH.out.1.lab
    rw [hkn] at hRa
    generalize runX P opn (l.take k) fuel words tasks = T1 at *
    generalize runX P opn l fuel words tasks = T2 at *
    have hw2 : w.heap.size < w2.heap.size := R2.out.lt
    go_wp2_with fail
    have cW := @Mix.cls_drew w2 [w.heap.size]
    refine Mix.wp_region_mix [0] [(1, 0), (0, 1), (0, 2), (0, 3), (0, 4), (0, 5), (0, 6), (0, 7), (2, 8), (0, 9)] (fun U => ∃ g, U = Mix.upon w2 [w.heap.size] g) (by kernel_rfl) (by kernel_rfl) cW ?_
    clear cW
    repeat (first | ((first | refine Mix.S_pure rfl rfl ?_ | refine Mix.S_load rfl rfl ?_); intro K hK; simp only [nA, nB, nC]; go_big_quiet_op; go_big_quiet_on) | refine Mix.S_skip0 rfl rfl ?_ | refine Mix.S_skip1 rfl rfl ?_)
    refine Mix.S_eff (o := _) rfl rfl ?_
    intro K hK
    simp only [nA, nB, nC]
    go_simp
    refine (hRa.out _ (by exact (Fr.refl _ _).drew)).mono ?_
    rintro e3 w3 ⟨ta, rfl, hoa, hga, hf3⟩
    have hf3' : Fr Non w2 w3 := Fr.trans (by exact (Fr.refl _ _).drew) hf3
    refine hK _ _ ⟨Mix.cls_fr (D := Non) hf3 (by simp [Non]; omega), ?_⟩
    clear hK K
    obtain ⟨a1, c1, rfl, hc1, hm1, _, _⟩ := hoa.form
    obtain ⟨q0, q1, qz⟩ := row2 (hf3'.row R2.out id)
    have HA := Lib.hid (And.intro hoa hf3')
    clear hoa hga hf3 hf3' p0 p1 pz hRa
    repeat (first | ((first | refine Mix.S_pure rfl rfl ?_ | refine Mix.S_load rfl rfl ?_); intro K hK; simp only [nA, nB, nC]; go_big_quiet_op; go_big_quiet_on) | refine Mix.S_skip0 rfl rfl ?_ | refine Mix.S_skip1 rfl rfl ?_)
    refine Mix.S_done ?_
    go_wp2_with fail
    refine (hRb.out _ (HA.out.2.trans (by exact (by repeat (first | exact .refl _ _ | assumption | apply Fr.drewN | apply Fr.drew | apply Fr.drewl | apply Fr.drewNl | apply Fr.alloc))))).mono ?_
    rintro e4 w4 ⟨tb, rfl, hob, hgb, hf4⟩
    have hf4' : Fr Non w3 w4 := Fr.trans (by exact (by repeat (first | exact .refl _ _ | assumption | apply Fr.drewN | apply Fr.drew | apply Fr.drewl | apply Fr.drewNl | apply Fr.alloc))) hf4
    obtain ⟨a2, c2, rfl, hc2, hm2, _, _⟩ := hob.form
    obtain ⟨⟨t, rfl⟩, hends⟩ := hB
    have hva := (HA.out.1.fr hf4' (fun _ _ => id)).evs.2
    have hvb := hob.evs.2
    have hlen : (T1 ++ t).length = T1.length + t.length := List.length_append
    have hvb1 : Evs w4 a2 T1 := fun h0 => by
      obtain ⟨b, o, e, hc⟩ := hvb (by omega)
      refine ⟨b, o, e, fun j u hu => hc j u ?_⟩
      rw [evs_append, List.getElem?_append_left (List.getElem?_eq_some_iff.1 hu).1]
      exact hu
    have hS := Lib.hid fun wz (f : Fr Non w4 wz) => same21_c wz a1 a2 c1 c2 T1 (hva.fr f (fun _ _ => id)) (hvb1.fr f (fun _ _ => id)) (by omega)
    have hEn := Lib.hid fun wz (f : Fr Non w4 wz) => ends21_c wz a1 c1 T1 (hva.fr f (fun _ _ => id)) (by omega)
    have HB := Lib.hid (HA.out.2.trans hf4')
    have hN : T1.length ≤ (T1 ++ t).length := by omega
    have hee : endsB T1 = true → T1.length = (T1 ++ t).length := fun h => by rw [hends h]
    clear hob hgb hf4 hf4' hva hvb hvb1 hends q0 q1 qz hRb
    clear hlen hla hlb
    generalize (T1 ++ t).length = N2 at *
    generalize hN1 : T1.length = N1 at *
    have d3 : decide ((N2 : Int) < (N1 : Int)) = false := decide_eq_false (by omega)
    have hi0 : (0 : Int) ≤ (N1 : Int) := by omega
    have hi1 : (N1 : Int) ≤ (c2 : Int) := by omega
    have hi2 : N1 ≤ c2 := by omega
    go_wp2_with fail
    refine (hS.out _ (by exact (by repeat (first | exact .refl _ _ | assumption | apply Fr.drewN | apply Fr.drew | apply Fr.drewl | apply Fr.drewNl | apply Fr.alloc)))).mono ?_
    rintro e5 w5 ⟨rfl, hf5⟩
    have hf5' : Fr Non w4 w5 := Fr.trans (by exact (by repeat (first | exact .refl _ _ | assumption | apply Fr.drewN | apply Fr.drew | apply Fr.drewl | apply Fr.drewNl | apply Fr.alloc))) hf5
    have H5 := Lib.hid hf5'
    clear hf5 hf5' hS
    go_wp2_with fail
    refine (hEn.out _ (H5.out.trans (by exact (by repeat (first | exact .refl _ _ | assumption | apply Fr.drewN | apply Fr.drew | apply Fr.drewl | apply Fr.drewNl | apply Fr.alloc))))).mono ?_
    rintro e6 w6 ⟨rfl, hf6⟩
    have hf6' : Fr Non w5 w6 := Fr.trans (by exact (by repeat (first | exact .refl _ _ | assumption | apply Fr.drewN | apply Fr.drew | apply Fr.drewl | apply Fr.drewNl | apply Fr.alloc))) hf6
    have H6 := Lib.hid hf6'
    clear hf6 hf6' hEn
    cases hE : endsB T1 with
    | true =>
      have hq : N1 = N2 := hee hE
      subst hq
      clear hee hE d3 hN hN1 hi0 hi1 hi2 hc1 hc2 hm1 hm2
      go_wp2_with fail
      go_ret
      exact ⟨rfl, HF2.out.trans (HB.out.trans (H5.out.trans (H6.out.trans (by exact (by repeat (first | exact .refl _ _ | assumption | apply Fr.drewN | apply Fr.drew | apply Fr.drewl | apply Fr.drewNl | apply Fr.alloc))))))⟩
    | false =>
      clear hee hE
      go_wp2_with fail
      go_ret
      exact ⟨rfl, HF2.out.trans (HB.out.trans (H5.out.trans (H6.out.trans (by exact (by repeat (first | exact .refl _ _ | assumption | apply Fr.drewN | apply Fr.drew | apply Fr.drewl | apply Fr.drewNl | apply Fr.alloc))))))⟩

end Go.Proofs.Ytlbomnbpahmphaa
