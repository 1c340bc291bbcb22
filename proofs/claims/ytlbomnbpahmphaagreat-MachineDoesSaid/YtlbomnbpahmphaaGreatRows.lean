/-
  No cell of these rows narrows 'for every input' (looked for: loops, veiled, ifaces, maps, wideKeys, modest, calm, conditions, laid).
  DERIVED. THE GIVEN ROWS OF THIS SEAT. 3 by the template 'for every input the law returns true; each argument reads behind the call as it read before'; 0 by the template 'total and deterministic' (their statements: YtlbomnbpahmphaaGreatTotals.lean).
  GIVEN WITH THE SEED: the statements are not yours to turn. If you find one false, say at which input.
  Laid BY PROGRAM, IN A SANDBOX (cutbox-rows.mjs): the forced cells as the released guide's own fill.sh prints them over the translation ff9f94bd6f828687… (all of the seat's roots in one cut). By AI agents, Wed Nov 11 2026. No macro, syntax, notation, axiom, sorry.
-/
import Derived.Test.YtlbomnbpahmphaaGreatChecked
import GoSem.Claim
import GoSem.ClaimJoined
import GoSem.ClaimMapViews
import Derived.JoinedTies
import Derived.KernelRfl
namespace Go.Proofs.YtlbomnbpahmphaaGreat
/- THE CELL 'sum', in the pinned program and in every row, IS THE sha256 OF THE DUMP (.gsa) THAT YtlbomnbpahmphaaGreatProg.lean LOADS. Nothing in Lean hashes anything: it is a label: what it is worth is what the hold of that sum in a sandbox is worth. -/
noncomputable def Tryz.pinned : Pinned := { name := "ytlbomnbpahmphaagreat", sum := "ff9f94bd6f828687fb9bd9f13d8447b178f24fc351808c1820ee49545788d6e1", checked := Tryz.checked }
namespace Rows
def none {H : Type} : Left H := { results := [], args := [] }

/-- 'cocoonlaw03.MachineDoes': WHATEVER THE INPUT: true; the input reads as it did. -/
def machineDoesSpec : ChangeSpec := { name := "machineDoes", fn := fun _ => fun
  | [d1, d2, d3, d4] => { results := [.lit (.bool true)], args := [d1, d2, d3, d4] }
  | _ => none }
def machineDoesRow : OpenClaim := { program := "ytlbomnbpahmphaagreat", sum := "ff9f94bd6f828687fb9bd9f13d8447b178f24fc351808c1820ee49545788d6e1", func := "cocoon/cocoonlaw03.MachineDoes", spec := "machineDoes", unfollowed := true, recurses := true, apart := false }
def MachineDoesSaid : Prop := machineDoesRow.holds Tryz.pinned (OpenSpec.ofChange machineDoesSpec)

/-- ITS FALSE NEIGHBOUR: 'it returns false'. Refute it at one input. -/
def machineDoesWrong : ChangeSpec := { name := "machineDoes", fn := fun _ => fun
  | [d1, d2, d3, d4] => { results := [.lit (.bool false)], args := [d1, d2, d3, d4] }
  | _ => none }
def MachineDoesWrongFalsely : Prop := machineDoesRow.holds Tryz.pinned (OpenSpec.ofChange machineDoesWrong)

/-- 'cocoonlaw21.ExecRefuses': WHATEVER THE INPUT: true; the input reads as it did. -/
def execRefusesSpec : ChangeSpec := { name := "execRefuses", fn := fun _ => fun
  | [d1, d2, d3, d4, d5, d6, d7, d8] => { results := [.lit (.bool true)], args := [d1, d2, d3, d4, d5, d6, d7, d8] }
  | _ => none }
def execRefusesRow : OpenClaim := { program := "ytlbomnbpahmphaagreat", sum := "ff9f94bd6f828687fb9bd9f13d8447b178f24fc351808c1820ee49545788d6e1", func := "cocoon/cocoonlaw21.ExecRefuses", spec := "execRefuses", unfollowed := true, recurses := true, apart := false }
def ExecRefusesSaid : Prop := execRefusesRow.holds Tryz.pinned (OpenSpec.ofChange execRefusesSpec)

/-- ITS FALSE NEIGHBOUR: 'it returns false'. Refute it at one input. -/
def execRefusesWrong : ChangeSpec := { name := "execRefuses", fn := fun _ => fun
  | [d1, d2, d3, d4, d5, d6, d7, d8] => { results := [.lit (.bool false)], args := [d1, d2, d3, d4, d5, d6, d7, d8] }
  | _ => none }
def ExecRefusesWrongFalsely : Prop := execRefusesRow.holds Tryz.pinned (OpenSpec.ofChange execRefusesWrong)

/-- 'cocoonlaw21.ExecNone': WHATEVER THE INPUT: true; the input reads as it did. -/
def execNoneSpec : ChangeSpec := { name := "execNone", fn := fun _ => fun
  | [d1, d2, d3, d4, d5] => { results := [.lit (.bool true)], args := [d1, d2, d3, d4, d5] }
  | _ => none }
def execNoneRow : OpenClaim := { program := "ytlbomnbpahmphaagreat", sum := "ff9f94bd6f828687fb9bd9f13d8447b178f24fc351808c1820ee49545788d6e1", func := "cocoon/cocoonlaw21.ExecNone", spec := "execNone", unfollowed := true, recurses := true, apart := false }
def ExecNoneSaid : Prop := execNoneRow.holds Tryz.pinned (OpenSpec.ofChange execNoneSpec)

/-- ITS FALSE NEIGHBOUR: 'it returns false'. Refute it at one input. -/
def execNoneWrong : ChangeSpec := { name := "execNone", fn := fun _ => fun
  | [d1, d2, d3, d4, d5] => { results := [.lit (.bool false)], args := [d1, d2, d3, d4, d5] }
  | _ => none }
def ExecNoneWrongFalsely : Prop := execNoneRow.holds Tryz.pinned (OpenSpec.ofChange execNoneWrong)

/- THE SECOND FORM. 'bulk': how many values and letters a reading holds, each counted each time it is reached (what is shared counts as often as it is met; a slice's spare places count too). A statement '..UptoSaid' is the law's where the arguments, and the package variables that the reading takes, are together of bulk at most 1048576: NARROWER than '..Said'. Prove '..Said' where nothing that the law and all that it calls make is longer than what came in: it says more and counts as full. Else prove '..UptoSaid'. A law counts once. -/
mutual
def uptoBulk {H : Type} : DataW H → Nat
  | .lit (.string bytes) => bytes.length + 1
  | .lit _ => 1
  | .nil => 1
  | .ptr d => uptoBulk d + 1
  | .slice elems spare => uptoBulkAll elems + uptoBulkAll spare + 1
  | .agg parts => uptoBulkAll parts + 1
  | .iface _ d => uptoBulk d + 1
  | .map entries => uptoBulkEntries entries + 1
  | .held _ => 1
def uptoBulkAll {H : Type} : List (DataW H) → Nat
  | [] => 0
  | d :: r => uptoBulk d + uptoBulkAll r
def uptoBulkEntries {H : Type} : List (Lit × DataW H) → Nat
  | [] => 0
  | x :: r => uptoBulkEntry x + uptoBulkEntries r
def uptoBulkEntry {H : Type} : Lit × DataW H → Nat
  | (.string bytes, d) => bytes.length + uptoBulk d + 1
  | (_, d) => uptoBulk d + 1
 end
def uptoSmall : (H : Type) → List (DataW H) → Bool := fun _ ds => decide (uptoBulkAll ds ≤ 1048576)
def OpenSpec.upto (s : _root_.Go.ChangeSpec) : _root_.Go.OpenSpec := { _root_.Go.OpenSpec.ofChange s with cond := some uptoSmall }

/-- 'cocoonlaw03.MachineDoes', WHERE WHAT IT READS IS OF BULK AT MOST 1048576: true; the input reads as it did. -/
def machineDoesUptoRow : OpenClaim := { program := "ytlbomnbpahmphaagreat", sum := "ff9f94bd6f828687fb9bd9f13d8447b178f24fc351808c1820ee49545788d6e1", func := "cocoon/cocoonlaw03.MachineDoes", spec := "machineDoes", unfollowed := true, recurses := true, apart := false, narrowed := true }
def MachineDoesUptoSaid : Prop := machineDoesUptoRow.holds Tryz.pinned (OpenSpec.upto machineDoesSpec)

/-- 'cocoonlaw21.ExecRefuses', WHERE WHAT IT READS IS OF BULK AT MOST 1048576: true; the input reads as it did. -/
def execRefusesUptoRow : OpenClaim := { program := "ytlbomnbpahmphaagreat", sum := "ff9f94bd6f828687fb9bd9f13d8447b178f24fc351808c1820ee49545788d6e1", func := "cocoon/cocoonlaw21.ExecRefuses", spec := "execRefuses", unfollowed := true, recurses := true, apart := false, narrowed := true }
def ExecRefusesUptoSaid : Prop := execRefusesUptoRow.holds Tryz.pinned (OpenSpec.upto execRefusesSpec)

/-- 'cocoonlaw21.ExecNone', WHERE WHAT IT READS IS OF BULK AT MOST 1048576: true; the input reads as it did. -/
def execNoneUptoRow : OpenClaim := { program := "ytlbomnbpahmphaagreat", sum := "ff9f94bd6f828687fb9bd9f13d8447b178f24fc351808c1820ee49545788d6e1", func := "cocoon/cocoonlaw21.ExecNone", spec := "execNone", unfollowed := true, recurses := true, apart := false, narrowed := true }
def ExecNoneUptoSaid : Prop := execNoneUptoRow.holds Tryz.pinned (OpenSpec.upto execNoneSpec)

end Rows
end Go.Proofs.YtlbomnbpahmphaaGreat
