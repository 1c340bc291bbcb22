/- The plain laws of layer 21, as the laws ask them. No condition. -/
import Derived.Test.YtlbomnbpahmphaaGreatN43
import Derived.Test.YtlbomnbpahmphaaGreatN44
import Derived.Test.YtlbomnbpahmphaaGreatN18
namespace Go.Proofs.YtlbomnbpahmphaaGreat

section
variable {P : Pr} {opn : List Bool} {fuel words tasks : Int}

end

end Go.Proofs.YtlbomnbpahmphaaGreat
