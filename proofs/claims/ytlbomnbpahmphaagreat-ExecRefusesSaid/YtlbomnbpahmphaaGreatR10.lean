/- Walks: 'mem.New'. -/
import Derived.Test.YtlbomnbpahmphaaGreatR01
import Derived.Test.YtlbomnbpahmphaaGreatR08
namespace Go.Proofs.YtlbomnbpahmphaaGreat
open Go.RowKit

def roomOf (words : Int) : Int := min (max words 0) 1048576

set_option maxRecDepth 100000 in
theorem memNew_c (w : World) (words : Int) : Calls Tryz.prog 32 #[.int .i64 words] w fun e w' => ∃ g, e = .returned (.pointer (some ⟨g, 0, none⟩)) ∧ g = w.heap.size ∧ Row w' g 135 [.int .i64 (roomOf words), .int .i64 0, .int .i64 0, .slice none 0 0] ∧ Fr Non w w' := by
 have hk : (words < 0 ∧ roomOf words = 0) ∨ (0 ≤ words ∧ words ≤ 1048576 ∧ roomOf words = words) ∨ (1048576 < words ∧ roomOf words = 1048576) := by unfold roomOf; omega
 generalize roomOf words = r at *
 rcases hk with ⟨h1, rfl⟩ | ⟨h1, h2, rfl⟩ | ⟨h1, rfl⟩
 all_goals go_enter Tryz.func32, Tryz.ntmps32
 all_goals go_wp2
 all_goals first | omega | skip
 all_goals go_ret
 all_goals exact ⟨_, rfl, rfl, Row.new' rfl, by exact (by repeat (first | exact .refl _ _ | assumption | apply Fr.drewN | apply Fr.drew | apply Fr.drewl | apply Fr.drewNl | apply Fr.alloc))⟩

end Go.Proofs.YtlbomnbpahmphaaGreat
