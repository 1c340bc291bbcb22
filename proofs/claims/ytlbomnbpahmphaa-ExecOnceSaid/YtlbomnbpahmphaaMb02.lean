/- The plain law of spawning once, as the law asks it. No condition. -/
import Derived.Test.YtlbomnbpahmphaaMa47
import Derived.Test.YtlbomnbpahmphaaMb01
namespace Go.Proofs.Ytlbomnbpahmphaa

section
variable {P : Pr} {opn : List Bool} {fuel words tasks : Int}

theorem once_x (l : List Ax) : ∃ c, ckL (max tasks 0) ⟨[], [], []⟩ (runX P opn l fuel words tasks) = some c := by
  unfold runX
  by_cases hv : validS P = true
  · simp only [if_pos hv]
    exact once (E := ⟨P, opn, fuel, max tasks 0⟩) words (l.map Ax.sc)
  · simp only [if_neg hv]
    exact ⟨_, rfl⟩
end

end Go.Proofs.Ytlbomnbpahmphaa
