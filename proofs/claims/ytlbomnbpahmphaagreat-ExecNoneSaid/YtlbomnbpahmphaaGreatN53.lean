/- Walk: 'ExecNone': the whole law answers true. Conditions: the program and the acts lie as they are read. -/
import Derived.Test.YtlbomnbpahmphaaGreatN43
import Derived.Test.YtlbomnbpahmphaaGreatN44
import Derived.Test.YtlbomnbpahmphaaGreatN45
import Derived.Test.YtlbomnbpahmphaaGreatN46
import Derived.Test.YtlbomnbpahmphaaGreatN47
import Derived.Test.YtlbomnbpahmphaaGreatN52
namespace Go.Proofs.YtlbomnbpahmphaaGreat
open Go.RowKit

theorem noneE_append (l m : List Sc) : noneE (l ++ m) = noneE l ++ noneE m := by simp [noneE]

set_option maxRecDepth 100000 in
set_option maxHeartbeats 4000000 in
theorem none_c (w : World) (P : Pr) (v : Value) (hP : PrAt w.heap.size P w v) (ao : Option Addr) (ac : Nat) (l : List Ax) (hl : AxAt w.heap.size w ao l) (fuel words tasks : Int) :
 Calls Tryz.prog 5 #[v, .slice ao l.length ac, .int .i64 fuel, .int .i64 words, .int .i64 tasks] w fun e w' => e = .returned (.bool true) ∧ Fr Non w w' := by
 obtain ⟨fo, fc, co, cc, rfl, hfu, hco⟩ := hP.val
 have HH := Lib.hid (And.intro hP (And.intro hl (And.intro hfu hco)))
 clear hP hl hfu hco
 go_enter Tryz.func5, Tryz.ntmps5
 go_wp2_with fail
 refine (works21_c _).mono ?_
 rintro e1 w1 ⟨rfl, hf1⟩
 have r7 : Row w1 w.heap.size 25 [.slice fo P.funs.length fc, .slice co P.cos.length cc] := hf1.new_row id
 have hf1' : Fr Non w w1 := Fr.trans (by exact (by repeat (first | exact .refl _ _ | assumption | apply Fr.drewN | apply Fr.drew | apply Fr.drewl | apply Fr.drewNl | apply Fr.alloc))) hf1
 have HF1 := Lib.hid hf1'
 obtain ⟨q0, q1, qz⟩ := row2 r7
 have R1 := Lib.hid r7
 clear hf1 hf1' r7
 have hOv := Lib.hid (over21_c (HH.out.1.fr HF1.out (high_non _)) ao l.length ac fuel words)
 go_wp2_with fail
 refine hOv.out.mono ?_
 rintro e2 w2 ⟨⟨b, rfl, hb40⟩, hf2⟩
 have HF2 := Lib.hid (HF1.out.trans hf2)
 have R2 := Lib.hid (hf2.row R1.out id)
 obtain ⟨p0, p1, pz⟩ := row2 R2.out
 clear hf2 q0 q1 qz hOv
 cases b with
 | true =>
  clear hb40
  go_wp2_with fail
  go_ret
  exact ⟨rfl, HF2.out⟩
 | false =>
  obtain ⟨hl40, hf3000, hz⟩ := hb40 rfl
  clear hb40 hz
  by_cases g1 : tasks < 1
  · have d1 : decide (tasks < 1) = true := decide_eq_true g1
    go_wp2_with fail
    go_ret
    exact ⟨rfl, HF2.out⟩
  have d1 : decide (tasks < 1) = false := decide_eq_false g1
  have hV := Lib.hid (rvalid_c fo fc co cc (HH.out.2.2.1.fr HF2.out (high_non _)) (HH.out.2.2.2.fr HF2.out (high_non _)) HF2.out.size HH.out.1.lab)
  go_wp2_with fail
  refine hV.out.mono ?_
  rintro e3 w3 ⟨rfl, hf3⟩
  have HF3 := Lib.hid (HF2.out.trans hf3)
  have R3 := Lib.hid (hf3.row R2.out id)
  clear hf3 hV p0 p1 pz
  obtain ⟨p0, p1, pz⟩ := row2 R3.out
  cases hv : validS P with
  | false =>
   go_wp2_with fail
   go_ret
   exact ⟨rfl, HF3.out⟩
  | true =>
   have hP3 := (HH.out.1.fr HF3.out (high_non _)).up HF3.out.size
   have hl3 := (HH.out.2.1.fr HF3.out (high_non _)).up HF3.out.size
   have hrun := run_e w3 P _ hP3 [] none 0 (fun i n h => by simp at h) ao ac l hl3 (by omega) fuel words tasks hf3000
   rw [none_x hv (by omega) l] at hrun
   obtain ⟨T, hT⟩ : ∃ T, T = noneE (l.map Ax.sc) := ⟨_, rfl⟩
   rw [← hT] at hrun
   have hTl : T.length ≤ 40 := by
    rw [hT]
    unfold noneE
    rw [List.length_map]
    refine Nat.le_trans (List.length_filter_le _ _) ?_
    rw [List.length_map]
    exact hl40
   have HRUN := Lib.hid hrun
   have HT := Lib.hid hT
   clear hrun hT hP3 hl3 hv
   go_wp2_with fail
   refine HRUN.out.mono ?_
   rintro e4 w4 ⟨tr, rfl, ho, hg, hf4⟩
   have hf4' := HF3.out.trans hf4
   obtain ⟨ta, tc, rfl, hz1, hz2, hz3, hz4⟩ := ho.form
   have hev := ho.evs.2
   have HO := Lib.hid (And.intro hev hf4')
   clear ho hg hf4 hf4' hz1 hz2 hz3 hz4 hev HRUN p0 p1 pz
   go_wp2_with fail
   go_loopg [14, 15] l.length (fun q v14 v15 wq => wq = w4 ∧ ∃ (i n : Nat), i ≤ l.length ∧ q = l.length - i ∧ v15 = .int .i64 i ∧ v14 = .int .i64 n ∧ n = (noneE ((l.take i).map Ax.sc)).length)
   case atStart => exact ⟨rfl, 0, 0, Nat.zero_le _, rfl, rfl, rfl, rfl⟩
   case round =>
    obtain ⟨rfl, i, n, hi, rfl, rfl, rfl, hn⟩ := hrel
    have hi0 : (0 : Int) ≤ (i : Int) := by omega
    by_cases hil : i < l.length
    · have hi1 : (i : Int) < (l.length : Int) := by omega
      have hwi : IntKind.i64.wrap ((i : Int) + 1) = (i : Int) + 1 := IntWalk.i64_in _ (by omega)
      obtain ⟨x, hx⟩ : ∃ x, l[i]? = some x := ⟨l[i], List.getElem?_eq_getElem hil⟩
      have hst : noneE ((l.take (i + 1)).map Ax.sc) = noneE ((l.take i).map Ax.sc) ++ noneE [x.sc] := by
       have hx2 : l[i] = x := by have := List.getElem?_eq_getElem hil; rw [this] at hx; exact Option.some.inj hx
       rw [List.take_succ_eq_append_getElem hil, List.map_append, noneE_append, hx2]
       rfl
      have hsp : T = noneE ((l.take (i + 1)).map Ax.sc) ++ noneE ((l.drop (i + 1)).map Ax.sc) := by rw [HT.out, ← noneE_append, ← List.map_append, List.take_append_drop]
      obtain ⟨b, o, la, lc, ea, c0, c1, c2, c3, c4⟩ := HH.out.2.1 i x hx
      subst ea
      have k0 := HO.out.2.cell c0.2 id
      have k1 := HO.out.2.cell c1.2 id
      have kl := World.block_lt_of_cell? _ _ k0
      clear c0 c1 c2 c3 c4
      obtain ⟨xk, xa, xn, xl⟩ := x
      simp only at k0 k1
      by_cases h5 : xk = 5
      · subst h5
        have hnn : n = (noneE ((l.take (i + 1)).map Ax.sc)).length := by rw [hst, hn]; simp [noneE, Ax.sc]
        have HN := Lib.hid hnn
        clear hst hsp hn hnn hx
        go_wp2_with fail
        go_roundg (l.length - (i + 1))
        case measure => omega
        case rel => exact ⟨rfl, i + 1, n, by omega, by simp, by simp, rfl, HN.out⟩
      · have h5b : (xk == 5) = false := beq_false_of_ne h5
        obtain ⟨task, htask⟩ : ∃ task, task = (if xk = 2 then -1 else xa) := ⟨_, rfl⟩
        have hone : noneE [Ax.sc ⟨xk, xa, xn, xl⟩] = [⟨1, task, 0, 0⟩] := by
         rw [htask]
         simp [noneE, Ax.sc, h5]
        rw [hone] at hst
        have hnn : n + 1 = (noneE ((l.take (i + 1)).map Ax.sc)).length := by rw [hst, hn]; simp
        have hget : T[n]? = some ⟨1, task, 0, 0⟩ := by rw [hsp, hst, hn]; simp
        have hnl : n < T.length := (List.getElem?_eq_some_iff.1 hget).1
        obtain ⟨tb, tO, eta, htc⟩ := HO.out.1 (by omega)
        subst eta
        obtain ⟨z0, z1, z2, z3⟩ := evs_get' hget
        have t0 := htc _ _ z0
        have t1 := htc _ _ z1
        have t2 := htc _ _ z2
        have t3 := htc _ _ z3
        rw [← Nat.add_assoc] at t1 t2 t3
        simp only at t0 t1 t2 t3
        have tl := World.block_lt_of_cell? _ _ t0
        have hn0 : (0 : Int) ≤ (n : Int) := by omega
        have hn1 : (n : Int) < (T.length : Int) := by omega
        have hn2 : decide ((T.length : Int) ≤ (n : Int)) = false := decide_eq_false (by omega)
        have hn3 : decide (T.length ≤ n) = false := decide_eq_false (by omega)
        have hwn : IntKind.i64.wrap ((n : Int) + 1) = (n : Int) + 1 := IntWalk.i64_in _ (by omega)
        have tt : (task == task) = true := by simp
        have HN := Lib.hid hnn
        clear hst hsp hn hnn hx hone hget htc z0 z1 z2 z3
        by_cases h2 : xk = 2
        · subst h2
          rw [if_pos rfl] at htask
          subst htask
          go_wp2_with fail
          go_roundg (l.length - (i + 1))
          case measure => omega
          case rel => exact ⟨rfl, i + 1, n + 1, by omega, by simp, by simp, by simp, HN.out⟩
        · have h2b : (xk == 2) = false := beq_false_of_ne h2
          rw [if_neg h2] at htask
          subst htask
          go_wp2_with fail
          go_roundg (l.length - (i + 1))
          case measure => omega
          case rel => exact ⟨rfl, i + 1, n + 1, by omega, by simp, by simp, by simp, HN.out⟩
    · have hii : i = l.length := by omega
      subst hii
      rw [List.take_length, ← HT.out] at hn
      have hnlt : ¬ ((l.length : Int) < (l.length : Int)) := by omega
      subst hn
      have hee : ((T.length : Int) == (T.length : Int)) = true := by simp
      go_wp2_with fail
      go_ret
      exact ⟨rfl, HO.out.2⟩

end Go.Proofs.YtlbomnbpahmphaaGreat
