/- THE LAW 'ExecRefuses': for every program, every script, fuel, room and number of tasks, it answers true and leaves what came in as it was. No condition. -/
import Derived.Test.YtlbomnbpahmphaaGreatRows
import Derived.Test.YtlbomnbpahmphaaGreatChecked
import Derived.Test.YtlbomnbpahmphaaGreatR54
import Derived.Test.YtlbomnbpahmphaaGreatR55
namespace Go.Proofs.YtlbomnbpahmphaaGreat
open Go.ChangeShapes Go.WideShapes Go.ChangeAt Go.RowKit

set_option maxRecDepth 100000 in
theorem refuses_lifted (os : Os) (started : os.Started) (H : Type) (enc : TypeId × Value → H) :
 ReturnsInHanded {} Tryz.checked os 4 .any (Rows.execRefusesSpec.pre6 enc Tryz.prog Tryz.f4 Rows.execRefusesRow.domain false) (Rows.execRefusesSpec.post enc Tryz.prog Tryz.f4 false true false false) := by
 refine returnsInHanded_of_change_sized (C := Tryz.checked) law_own started (by kernel_rfl) Tryz.func4
  (ChangeSpec.witness6 (enc := enc) (C := Tryz.checked) false ⟨#[], #[.agg #[.slice none 0 0, .slice none 0 0], .slice none 0 0, .slice none 0 0, .int .i64 0, .int .i64 0, .int .i64 0, .int .i64 0, .int .i64 0], []⟩ 8 (by kernel_rfl) (by kernel_rfl) (by kernel_rfl) (by kernel_rfl)) ?_
 intro W base args ds gs before hval hW _ hsz0 _
 have hW' := hW
 have hsz : (DataW.weightsEach Tryz.prog (Tryz.f4.params.toList ++ Rows.execRefusesSpec.plain.varTypes Tryz.prog) (ds ++ gs)).all (· ≤ reachBytes) = true := hsz0
 obtain ⟨p, q, hA0, hV, rfl, hfz, hnd⟩ := hW
 have hA : DataW.TrodAll enc Tryz.prog W 0 (fun _ => true) true Tryz.f4.params.toList args.toList ds p := hA0
 rw [Tryz.params4] at hA hval hsz
 obtain ⟨v0, vs0, d0, ds0, p0, q0, hargs, rfl, rfl, h0, r0⟩ := trodAll_cons hA
 obtain ⟨v1, vs1, d1, ds1, p1, q1, rfl, rfl, rfl, h1, r1⟩ := trodAll_cons r0
 obtain ⟨v2, vs2, d2, ds2, p2, q2, rfl, rfl, rfl, h2, r2⟩ := trodAll_cons r1
 obtain ⟨v3, vs3, d3, ds3, p3, q3, rfl, rfl, rfl, h3, r3⟩ := trodAll_cons r2
 obtain ⟨v4, vs4, d4, ds4, p4, q4, rfl, rfl, rfl, h4, r4⟩ := trodAll_cons r3
 obtain ⟨v5, vs5, d5, ds5, p5, q5, rfl, rfl, rfl, h5, r5⟩ := trodAll_cons r4
 obtain ⟨v6, vs6, d6, ds6, p6, q6, rfl, rfl, rfl, h6, r6⟩ := trodAll_cons r5
 obtain ⟨v7, vs7, d7, ds7, p7, q7, rfl, rfl, rfl, h7, r7⟩ := trodAll_cons r6
 obtain ⟨rfl, rfl, rfl⟩ := trodAll_nil r7
 obtain rfl : args = #[v0, v1, v2, v3, v4, v5, v6, v7] := by cases args; simp_all
 obtain ⟨rfl, rfl⟩ := trodVars_none hV
 obtain ⟨P, hP⟩ := arg_prog (hval 0 _ _ rfl rfl) h0 (light_arg hsz (j := 0) rfl rfl)
 obtain ⟨oo, opn, oc, rfl, ho⟩ := arg_bools (hval 1 _ _ rfl rfl) h1 (light_arg hsz (j := 1) rfl rfl)
 obtain ⟨ao, l, ac, rfl, hl, hac⟩ := arg_acts21 (hval 2 _ _ rfl rfl) h2 (light_arg hsz (j := 2) rfl rfl)
 obtain ⟨n3, rfl, rfl, rfl, _⟩ := open_int Tryz.underlying3 (hval 3 _ _ rfl rfl) h3
 obtain ⟨n4, rfl, rfl, rfl, _⟩ := open_int Tryz.underlying3 (hval 4 _ _ rfl rfl) h4
 obtain ⟨n5, rfl, rfl, rfl, _⟩ := open_int Tryz.underlying3 (hval 5 _ _ rfl rfl) h5
 obtain ⟨n6, rfl, rfl, rfl, _⟩ := open_int Tryz.underlying3 (hval 6 _ _ rfl rfl) h6
 obtain ⟨n7, rfl, rfl, rfl, _⟩ := open_int Tryz.underlying3 (hval 7 _ _ rfl rfl) h7
 refine (refuses_c W P v0 hP opn oo oc ho ao ac l hl hac n3 n4 n5 n6 n7).mono fun e W' ⟨he, hf⟩ => ?_
 subst he
 exact ⟨_, rfl, law_post (tb := 4) hf hW' 8 (by kernel_rfl) rfl (by kernel_rfl) Tryz.underlying4 rfl rfl rfl⟩

theorem execRefuses_holds : Rows.ExecRefusesSaid :=
 OpenClaim.holds_of_wide 4 Tryz.f4 rfl rfl rfl rfl rfl rfl rfl ⟨rfl, rfl, rfl, rfl, rfl⟩ rfl rfl rfl rfl rfl (by kernel_rfl) Tryz.func4 (by kernel_rfl)
  (of_decide_eq_true (by kernel_rfl)) (by unfold Func.isWrapper; first | (rw [if_pos (by decide +kernel)]; kernel_rfl) | (rw [if_neg (by decide +kernel)]; exact ⟨rfl, rfl⟩))
  (fun os started H enc _ => refuses_lifted os started H enc)

end Go.Proofs.YtlbomnbpahmphaaGreat
