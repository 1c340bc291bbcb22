/- The plain law of waking, as the law asks it. No condition. -/
import Derived.Test.YtlbomnbpahmphaaMa47
import Derived.Test.YtlbomnbpahmphaaMc01
namespace Go.Proofs.Ytlbomnbpahmphaa

section
variable {P : Pr} {opn : List Bool} {fuel words tasks : Int}

theorem wakes_x (l m : List Ax) (task : Int) :
    runX P opn (l ++ [⟨3, task, 0, []⟩, ⟨3, task, 0, []⟩] ++ m) fuel words tasks = runX P opn (l ++ [⟨3, task, 0, []⟩] ++ m) fuel words tasks ∨
    ∃ r, runX P opn (l ++ [⟨3, task, 0, []⟩] ++ m) fuel words tasks = runX P opn l fuel words tasks ++ [⟨1, task, 0, 0⟩] ++ r ∧ runX P opn (l ++ [⟨3, task, 0, []⟩, ⟨3, task, 0, []⟩] ++ m) fuel words tasks = runX P opn l fuel words tasks ++ [⟨1, task, 0, 0⟩, ⟨1, task, 0, 0⟩] ++ r := by
  unfold runX
  by_cases hv : validS P = true
  · simp only [if_pos hv, List.map_append]
    exact wakes (E := ⟨P, opn, fuel, max tasks 0⟩) (Dr.new words) rfl (l.map Ax.sc) (m.map Ax.sc) task
  · simp only [if_neg hv]
    exact Or.inl trivial
end

end Go.Proofs.Ytlbomnbpahmphaa
