/-
  No cell of these rows narrows 'for every input' (looked for: loops, veiled, ifaces, maps, wideKeys, modest, calm, conditions, laid).
  DERIVED. THE GIVEN ROWS OF THIS SEAT. 6 by the template 'for every input the law returns true; each argument reads behind the call as it read before'; 0 by the template 'total and deterministic' (their statements: YtlbomnbpahmphaaTotals.lean).
  GIVEN WITH THE SEED: the statements are not yours to turn. If you find one false, say at which input.
  Laid BY PROGRAM, IN A SANDBOX (cutbox-rows.mjs): the forced cells as the released guide's own fill.sh prints them over the translation b08bc1538cd86872… (all of the seat's roots in one cut). By AI agents, Wed Nov 11 2026. No macro, syntax, notation, axiom, sorry.
-/
import Derived.Test.YtlbomnbpahmphaaChecked
import GoSem.Claim
import GoSem.ClaimJoined
import GoSem.ClaimMapViews
import Derived.JoinedTies
import Derived.KernelRfl
namespace Go.Proofs.Ytlbomnbpahmphaa
/- THE CELL 'sum', in the pinned program and in every row, IS THE sha256 OF THE DUMP (.gsa) THAT YtlbomnbpahmphaaProg.lean LOADS. Nothing in Lean hashes anything: it is a label: what it is worth is what the hold of that sum in a sandbox is worth. -/
noncomputable def Try.pinned : Pinned := { name := "ytlbomnbpahmphaa", sum := "b08bc1538cd86872c59776161e9f93186af4b8fa3a0e62d76edf64babd8885ce", checked := Try.checked }
namespace Rows
def none {H : Type} : Left H := { results := [], args := [] }

/-- 'cocoonlaw03.MachineMore': WHATEVER THE INPUT: true; the input reads as it did. -/
def machineMoreSpec : ChangeSpec := { name := "machineMore", fn := fun _ => fun
  | [d1, d2, d3, d4, d5, d6] => { results := [.lit (.bool true)], args := [d1, d2, d3, d4, d5, d6] }
  | _ => none }
def machineMoreRow : OpenClaim := { program := "ytlbomnbpahmphaa", sum := "b08bc1538cd86872c59776161e9f93186af4b8fa3a0e62d76edf64babd8885ce", func := "cocoon/cocoonlaw03.MachineMore", spec := "machineMore", unfollowed := true, recurses := true, apart := false }
def MachineMoreSaid : Prop := machineMoreRow.holds Try.pinned (OpenSpec.ofChange machineMoreSpec)

/-- ITS FALSE NEIGHBOUR: 'it returns false'. Refute it at one input. -/
def machineMoreWrong : ChangeSpec := { name := "machineMore", fn := fun _ => fun
  | [d1, d2, d3, d4, d5, d6] => { results := [.lit (.bool false)], args := [d1, d2, d3, d4, d5, d6] }
  | _ => none }
def MachineMoreWrongFalsely : Prop := machineMoreRow.holds Try.pinned (OpenSpec.ofChange machineMoreWrong)

/-- 'cocoonlaw03.MachineSame': WHATEVER THE INPUT: true; the input reads as it did. -/
def machineSameSpec : ChangeSpec := { name := "machineSame", fn := fun _ => fun
  | [d1, d2, d3, d4, d5] => { results := [.lit (.bool true)], args := [d1, d2, d3, d4, d5] }
  | _ => none }
def machineSameRow : OpenClaim := { program := "ytlbomnbpahmphaa", sum := "b08bc1538cd86872c59776161e9f93186af4b8fa3a0e62d76edf64babd8885ce", func := "cocoon/cocoonlaw03.MachineSame", spec := "machineSame", unfollowed := true, recurses := true, apart := false }
def MachineSameSaid : Prop := machineSameRow.holds Try.pinned (OpenSpec.ofChange machineSameSpec)

/-- ITS FALSE NEIGHBOUR: 'it returns false'. Refute it at one input. -/
def machineSameWrong : ChangeSpec := { name := "machineSame", fn := fun _ => fun
  | [d1, d2, d3, d4, d5] => { results := [.lit (.bool false)], args := [d1, d2, d3, d4, d5] }
  | _ => none }
def MachineSameWrongFalsely : Prop := machineSameRow.holds Try.pinned (OpenSpec.ofChange machineSameWrong)

/-- 'cocoonlaw21.ExecBegins': WHATEVER THE INPUT: true; the input reads as it did. -/
def execBeginsSpec : ChangeSpec := { name := "execBegins", fn := fun _ => fun
  | [d1, d2, d3, d4, d5, d6, d7] => { results := [.lit (.bool true)], args := [d1, d2, d3, d4, d5, d6, d7] }
  | _ => none }
def execBeginsRow : OpenClaim := { program := "ytlbomnbpahmphaa", sum := "b08bc1538cd86872c59776161e9f93186af4b8fa3a0e62d76edf64babd8885ce", func := "cocoon/cocoonlaw21.ExecBegins", spec := "execBegins", unfollowed := true, recurses := true, apart := false }
def ExecBeginsSaid : Prop := execBeginsRow.holds Try.pinned (OpenSpec.ofChange execBeginsSpec)

/-- ITS FALSE NEIGHBOUR: 'it returns false'. Refute it at one input. -/
def execBeginsWrong : ChangeSpec := { name := "execBegins", fn := fun _ => fun
  | [d1, d2, d3, d4, d5, d6, d7] => { results := [.lit (.bool false)], args := [d1, d2, d3, d4, d5, d6, d7] }
  | _ => none }
def ExecBeginsWrongFalsely : Prop := execBeginsRow.holds Try.pinned (OpenSpec.ofChange execBeginsWrong)

/-- 'cocoonlaw21.ExecOnce': WHATEVER THE INPUT: true; the input reads as it did. -/
def execOnceSpec : ChangeSpec := { name := "execOnce", fn := fun _ => fun
  | [d1, d2, d3, d4, d5, d6] => { results := [.lit (.bool true)], args := [d1, d2, d3, d4, d5, d6] }
  | _ => none }
def execOnceRow : OpenClaim := { program := "ytlbomnbpahmphaa", sum := "b08bc1538cd86872c59776161e9f93186af4b8fa3a0e62d76edf64babd8885ce", func := "cocoon/cocoonlaw21.ExecOnce", spec := "execOnce", unfollowed := true, recurses := true, apart := false }
def ExecOnceSaid : Prop := execOnceRow.holds Try.pinned (OpenSpec.ofChange execOnceSpec)

/-- ITS FALSE NEIGHBOUR: 'it returns false'. Refute it at one input. -/
def execOnceWrong : ChangeSpec := { name := "execOnce", fn := fun _ => fun
  | [d1, d2, d3, d4, d5, d6] => { results := [.lit (.bool false)], args := [d1, d2, d3, d4, d5, d6] }
  | _ => none }
def ExecOnceWrongFalsely : Prop := execOnceRow.holds Try.pinned (OpenSpec.ofChange execOnceWrong)

/-- 'cocoonlaw21.ExecWakes': WHATEVER THE INPUT: true; the input reads as it did. -/
def execWakesSpec : ChangeSpec := { name := "execWakes", fn := fun _ => fun
  | [d1, d2, d3, d4, d5, d6, d7, d8] => { results := [.lit (.bool true)], args := [d1, d2, d3, d4, d5, d6, d7, d8] }
  | _ => none }
def execWakesRow : OpenClaim := { program := "ytlbomnbpahmphaa", sum := "b08bc1538cd86872c59776161e9f93186af4b8fa3a0e62d76edf64babd8885ce", func := "cocoon/cocoonlaw21.ExecWakes", spec := "execWakes", unfollowed := true, recurses := true, apart := false }
def ExecWakesSaid : Prop := execWakesRow.holds Try.pinned (OpenSpec.ofChange execWakesSpec)

/-- ITS FALSE NEIGHBOUR: 'it returns false'. Refute it at one input. -/
def execWakesWrong : ChangeSpec := { name := "execWakes", fn := fun _ => fun
  | [d1, d2, d3, d4, d5, d6, d7, d8] => { results := [.lit (.bool false)], args := [d1, d2, d3, d4, d5, d6, d7, d8] }
  | _ => none }
def ExecWakesWrongFalsely : Prop := execWakesRow.holds Try.pinned (OpenSpec.ofChange execWakesWrong)

/-- 'cocoonlaw21.ExecIdle': WHATEVER THE INPUT: true; the input reads as it did. -/
def execIdleSpec : ChangeSpec := { name := "execIdle", fn := fun _ => fun
  | [d1, d2] => { results := [.lit (.bool true)], args := [d1, d2] }
  | _ => none }
def execIdleRow : OpenClaim := { program := "ytlbomnbpahmphaa", sum := "b08bc1538cd86872c59776161e9f93186af4b8fa3a0e62d76edf64babd8885ce", func := "cocoon/cocoonlaw21.ExecIdle", spec := "execIdle", unfollowed := true, recurses := true, apart := false }
def ExecIdleSaid : Prop := execIdleRow.holds Try.pinned (OpenSpec.ofChange execIdleSpec)

/-- ITS FALSE NEIGHBOUR: 'it returns false'. Refute it at one input. -/
def execIdleWrong : ChangeSpec := { name := "execIdle", fn := fun _ => fun
  | [d1, d2] => { results := [.lit (.bool false)], args := [d1, d2] }
  | _ => none }
def ExecIdleWrongFalsely : Prop := execIdleRow.holds Try.pinned (OpenSpec.ofChange execIdleWrong)

/- THE SECOND FORM. 'bulk': how many values and letters a reading holds, each counted each time it is reached (what is shared counts as often as it is met; a slice's spare places count too). A statement '..UptoSaid' is the law's where the arguments, and the package variables that the reading takes, are together of bulk at most 1048576: NARROWER than '..Said'. Prove '..Said' where nothing that the law and all that it calls make is longer than what came in: it says more and counts as full. Else prove '..UptoSaid'. A law counts once. -/
mutual
def uptoBulk {H : Type} : DataW H → Nat
  | .lit (.string bytes) => bytes.length + 1
  | .lit _ => 1
  | .nil => 1
  | .ptr d => uptoBulk d + 1
  | .slice elems spare => uptoBulkAll elems + uptoBulkAll spare + 1
  | .agg parts => uptoBulkAll parts + 1
  | .iface _ d => uptoBulk d + 1
  | .map entries => uptoBulkEntries entries + 1
  | .held _ => 1
def uptoBulkAll {H : Type} : List (DataW H) → Nat
  | [] => 0
  | d :: r => uptoBulk d + uptoBulkAll r
def uptoBulkEntries {H : Type} : List (Lit × DataW H) → Nat
  | [] => 0
  | x :: r => uptoBulkEntry x + uptoBulkEntries r
def uptoBulkEntry {H : Type} : Lit × DataW H → Nat
  | (.string bytes, d) => bytes.length + uptoBulk d + 1
  | (_, d) => uptoBulk d + 1
 end
def uptoSmall : (H : Type) → List (DataW H) → Bool := fun _ ds => decide (uptoBulkAll ds ≤ 1048576)
def OpenSpec.upto (s : _root_.Go.ChangeSpec) : _root_.Go.OpenSpec := { _root_.Go.OpenSpec.ofChange s with cond := some uptoSmall }

/-- 'cocoonlaw03.MachineMore', WHERE WHAT IT READS IS OF BULK AT MOST 1048576: true; the input reads as it did. -/
def machineMoreUptoRow : OpenClaim := { program := "ytlbomnbpahmphaa", sum := "b08bc1538cd86872c59776161e9f93186af4b8fa3a0e62d76edf64babd8885ce", func := "cocoon/cocoonlaw03.MachineMore", spec := "machineMore", unfollowed := true, recurses := true, apart := false, narrowed := true }
def MachineMoreUptoSaid : Prop := machineMoreUptoRow.holds Try.pinned (OpenSpec.upto machineMoreSpec)

/-- 'cocoonlaw03.MachineSame', WHERE WHAT IT READS IS OF BULK AT MOST 1048576: true; the input reads as it did. -/
def machineSameUptoRow : OpenClaim := { program := "ytlbomnbpahmphaa", sum := "b08bc1538cd86872c59776161e9f93186af4b8fa3a0e62d76edf64babd8885ce", func := "cocoon/cocoonlaw03.MachineSame", spec := "machineSame", unfollowed := true, recurses := true, apart := false, narrowed := true }
def MachineSameUptoSaid : Prop := machineSameUptoRow.holds Try.pinned (OpenSpec.upto machineSameSpec)

/-- 'cocoonlaw21.ExecBegins', WHERE WHAT IT READS IS OF BULK AT MOST 1048576: true; the input reads as it did. -/
def execBeginsUptoRow : OpenClaim := { program := "ytlbomnbpahmphaa", sum := "b08bc1538cd86872c59776161e9f93186af4b8fa3a0e62d76edf64babd8885ce", func := "cocoon/cocoonlaw21.ExecBegins", spec := "execBegins", unfollowed := true, recurses := true, apart := false, narrowed := true }
def ExecBeginsUptoSaid : Prop := execBeginsUptoRow.holds Try.pinned (OpenSpec.upto execBeginsSpec)

/-- 'cocoonlaw21.ExecOnce', WHERE WHAT IT READS IS OF BULK AT MOST 1048576: true; the input reads as it did. -/
def execOnceUptoRow : OpenClaim := { program := "ytlbomnbpahmphaa", sum := "b08bc1538cd86872c59776161e9f93186af4b8fa3a0e62d76edf64babd8885ce", func := "cocoon/cocoonlaw21.ExecOnce", spec := "execOnce", unfollowed := true, recurses := true, apart := false, narrowed := true }
def ExecOnceUptoSaid : Prop := execOnceUptoRow.holds Try.pinned (OpenSpec.upto execOnceSpec)

/-- 'cocoonlaw21.ExecWakes', WHERE WHAT IT READS IS OF BULK AT MOST 1048576: true; the input reads as it did. -/
def execWakesUptoRow : OpenClaim := { program := "ytlbomnbpahmphaa", sum := "b08bc1538cd86872c59776161e9f93186af4b8fa3a0e62d76edf64babd8885ce", func := "cocoon/cocoonlaw21.ExecWakes", spec := "execWakes", unfollowed := true, recurses := true, apart := false, narrowed := true }
def ExecWakesUptoSaid : Prop := execWakesUptoRow.holds Try.pinned (OpenSpec.upto execWakesSpec)

/-- 'cocoonlaw21.ExecIdle', WHERE WHAT IT READS IS OF BULK AT MOST 1048576: true; the input reads as it did. -/
def execIdleUptoRow : OpenClaim := { program := "ytlbomnbpahmphaa", sum := "b08bc1538cd86872c59776161e9f93186af4b8fa3a0e62d76edf64babd8885ce", func := "cocoon/cocoonlaw21.ExecIdle", spec := "execIdle", unfollowed := true, recurses := true, apart := false, narrowed := true }
def ExecIdleUptoSaid : Prop := execIdleUptoRow.holds Try.pinned (OpenSpec.upto execIdleSpec)

end Rows
end Go.Proofs.Ytlbomnbpahmphaa
