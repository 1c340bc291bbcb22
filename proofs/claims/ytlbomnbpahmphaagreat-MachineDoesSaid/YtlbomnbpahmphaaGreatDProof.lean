/- THE LAW 'MachineDoes': for every program, every room, fuel and row of acts, it answers true and leaves what came in as it was. No condition. -/
import Derived.Test.YtlbomnbpahmphaaGreatRows
import Derived.Test.YtlbomnbpahmphaaGreatChecked
import Derived.Test.YtlbomnbpahmphaaGreatD48
import Derived.Test.YtlbomnbpahmphaaGreatD45
set_option maxRecDepth 100000
namespace Go.Proofs.YtlbomnbpahmphaaGreat
open Go.ChangeShapes Go.WideShapes Go.ChangeAt Go.RowKit
theorem does_lifted (os:Os) (started:os.Started) (H:Type) (enc:TypeId × Value→H) :
 ReturnsInHanded {} Tryz.checked os 3 .any (Rows.machineDoesSpec.pre6 enc Tryz.prog Tryz.f3 Rows.machineDoesRow.domain false) (Rows.machineDoesSpec.post enc Tryz.prog Tryz.f3 false true false false):=by
 refine returnsInHanded_of_change_sized (C:=Tryz.checked) law_own started (by kernel_rfl) Tryz.func3
  (ChangeSpec.witness6 (enc:=enc) (C:=Tryz.checked) false ⟨#[],#[.agg #[.slice none 0 0,.slice none 0 0],.int .i64 0,.int .i64 0,.slice none 0 0],[]⟩ 8 (by kernel_rfl) (by kernel_rfl) (by kernel_rfl) (by kernel_rfl)) ?_
 intro W base args ds gs before hval hW _ hsz0 _;have hW':=hW;have hsz:(DataW.weightsEach Tryz.prog (Tryz.f3.params.toList ++ Rows.machineDoesSpec.plain.varTypes Tryz.prog) (ds ++ gs)).all (·≤reachBytes)=true:=hsz0;obtain ⟨p,q,hA0,hV,rfl,hfz,hnd⟩:=hW;have hA:DataW.TrodAll enc Tryz.prog W 0 (fun _=>true) true Tryz.f3.params.toList args.toList ds p:=hA0;rw [Tryz.params3] at hA hval hsz;obtain ⟨v0,vs0,d0,ds0,p0,q0,hargs,rfl,rfl,h0,r0⟩:=trodAll_cons hA;obtain ⟨v1,vs1,d1,ds1,p1,q1,rfl,rfl,rfl,h1,r1⟩:=trodAll_cons r0;obtain ⟨v2,vs2,d2,ds2,p2,q2,rfl,rfl,rfl,h2,r2⟩:=trodAll_cons r1;obtain ⟨v3,vs3,d3,ds3,p3,q3,rfl,rfl,rfl,h3,r3⟩:=trodAll_cons r2;obtain ⟨rfl,rfl,rfl⟩:=trodAll_nil r3;obtain rfl:args=#[v0,v1,v2,v3]:=by cases args;simp_all
 obtain ⟨rfl,rfl⟩:=trodVars_none hV;obtain ⟨P,hP,hfit⟩:=arg_progD (hval 0 _ _ rfl rfl) h0 (light_arg hsz (j:=0) rfl rfl);obtain ⟨n1,rfl,rfl,rfl,_⟩:=open_int Tryz.underlying3 (hval 1 _ _ rfl rfl) h1;obtain ⟨n2,rfl,rfl,rfl,_⟩:=open_int Tryz.underlying3 (hval 2 _ _ rfl rfl) h2;obtain ⟨ao,l,cap,rfl,hl,hlf⟩:=arg_actsD (hval 3 _ _ rfl rfl) h3 (light_arg hsz (j:=3) rfl rfl);refine (does_c W P v0 hP hfit n1 n2 ao cap l hl hlf).mono fun e W' ⟨he,hf⟩=>?_;subst he;exact ⟨_,rfl,law_post (tb:=4) hf hW' 8 (by kernel_rfl) rfl (by kernel_rfl) Tryz.underlying4 rfl rfl rfl⟩
theorem machineDoes_holds:Rows.MachineDoesSaid :=
 OpenClaim.holds_of_wide 3 Tryz.f3 rfl rfl rfl rfl rfl rfl rfl ⟨rfl,rfl,rfl,rfl,rfl⟩ rfl rfl rfl rfl rfl (by kernel_rfl) Tryz.func3 (by kernel_rfl)
  (of_decide_eq_true (by kernel_rfl)) (by unfold Func.isWrapper;first|(rw [if_pos (by decide +kernel)];kernel_rfl)|(rw [if_neg (by decide +kernel)];exact ⟨rfl,rfl⟩))
  (fun os started H enc _=>does_lifted os started H enc)
end Go.Proofs.YtlbomnbpahmphaaGreat
