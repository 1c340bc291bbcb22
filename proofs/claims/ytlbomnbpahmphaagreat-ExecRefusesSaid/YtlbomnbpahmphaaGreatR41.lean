/- Walks: 'exec.Run' over acts that neither spawn nor complete, and over code that may not be run. -/
import Derived.Test.YtlbomnbpahmphaaGreatR35
import Derived.Test.YtlbomnbpahmphaaGreatR40
namespace Go.Proofs.YtlbomnbpahmphaaGreat
open Go.RowKit

set_option maxRecDepth 100000 in
set_option maxHeartbeats 400000 in
theorem run_bad (w : World) (fo : Option Addr) (fn fc : Nat) (co : Option Addr) (cn cc : Nat) (oo : Option Addr) (on oc : Nat) (ao : Option Addr) (an ac : Nat) (fuel words tasks : Int)
 (hV : ∀ w1, Fr Non w w1 → Calls Tryz.prog 31 #[.agg #[.slice fo fn fc, .slice co cn cc]] w1 fun e w' => e = .returned (.bool false) ∧ Fr Non w1 w') :
 Calls Tryz.prog 27 #[.agg #[.slice fo fn fc, .slice co cn cc], .slice oo on oc, .slice ao an ac, .int .i64 fuel, .int .i64 words, .int .i64 tasks] w fun e w' => ∃ tr, e = .returned tr ∧ Own w' tr 74 4 1 (evs [⟨13, 0, 0, 30⟩]) ∧ (∀ g, tr.ownBlock = some g → w.heap.size ≤ g) ∧ Fr Non w w' := by
 have HV := Lib.hid hV
 clear hV
 go_enter Tryz.func27, Tryz.ntmps27
 go_wp2_with fail
 refine (new_bad _ _ _ _ _ _ _ _ (fun w1 h1 => HV.out w1 (Fr.trans (by exact (by repeat (first | exact .refl _ _ | assumption | apply Fr.drewN | apply Fr.drew | apply Fr.drewl | apply Fr.drewNl | apply Fr.alloc))) h1))).mono ?_
 rintro e1 w1 ⟨rfl, hf⟩
 have hf' : Hid (Fr Non w w1) := Lib.hid (Fr.trans (by exact (by repeat (first | exact .refl _ _ | assumption | apply Fr.drewN | apply Fr.drew | apply Fr.drewl | apply Fr.drewNl | apply Fr.alloc))) hf)
 have hs := hf.size
 simp only [World.size_alloc] at hs
 clear hf
 go_wp2_with fail
 go_ret
 exact ⟨_, rfl, Own.mk (arr := [.int .i64 13, .int .i64 0, .int .i64 0, .int .i64 30]) (Row.new' (by simp)) rfl (by omega) (by unfold maxLen; omega), fun g hg => (by simp [Value.ownBlock] at hg; omega), ((hf'.out.alloc _).alloc _)⟩

set_option maxRecDepth 100000 in
set_option maxHeartbeats 400000 in
theorem run_idle (w : World) (fo : Option Addr) (fn fc : Nat) (co : Option Addr) (cn cc : Nat) (oo : Option Addr) (on oc : Nat) (ao : Option Addr) (ac : Nat) (fuel words tasks : Int) (l : List Ac) (hl : Acts w ao l) (hn : l.length ≤ 1000) (hk : ∀ x ∈ l, ¬ x.k = 0 ∧ ¬ x.k = 5)
 (hV : ∀ w1, Fr Non w w1 → Calls Tryz.prog 31 #[.agg #[.slice fo fn fc, .slice co cn cc]] w1 fun e w' => e = .returned (.bool true) ∧ Fr Non w1 w') :
 Calls Tryz.prog 27 #[.agg #[.slice fo fn fc, .slice co cn cc], .slice oo on oc, .slice ao l.length ac, .int .i64 fuel, .int .i64 words, .int .i64 tasks] w fun e w' => ∃ tr, e = .returned tr ∧ Own w' tr 74 4 l.length (evs (l.map refuse)) ∧ (∀ g, tr.ownBlock = some g → w.heap.size ≤ g) ∧ Fr Non w w' := by
 have HV := Lib.hid hV
 clear hV
 go_enter Tryz.func27, Tryz.ntmps27
 go_wp2_with fail
 refine (new_good _ _ _ _ _ _ _ _ (fun w1 h1 => HV.out w1 (Fr.trans (by exact (by repeat (first | exact .refl _ _ | assumption | apply Fr.drewN | apply Fr.drew | apply Fr.drewl | apply Fr.drewNl | apply Fr.alloc))) h1))).mono ?_
 rintro e1 w1 ⟨g, mb, eb, rfl, hg, _, _, hg1, _, _, _, _, hf⟩
 have hf' : Hid (Fr Non w w1) := Lib.hid (Fr.trans (by exact (by repeat (first | exact .refl _ _ | assumption | apply Fr.drewN | apply Fr.drew | apply Fr.drewl | apply Fr.drewNl | apply Fr.alloc))) hf)
 have hs := hf.size
 simp only [World.size_alloc] at hs hg1
 clear hf hg
 have hsf : ∀ (W : World) (a : Addr), (store a (.func (.func 57) #[] #[])).run Tryz.prog W = stored Tryz.prog W a (.func (.func 57) #[] #[]) .plain := fun W a => run_store _ W a _ _ rfl
 go_wp2_with fail
 refine (drive_idle _ _ _ _ _ _ ao ac l (by exact hl.fr (((hf'.out.alloc _).alloc _).alloc _)) hn hk tasks).mono ?_
 rintro e2 w2 ⟨tr, rfl, ho, hg2, hf2⟩
 have HO := Lib.hid (And.intro ho (And.intro hg2 hf2))
 clear ho hg2 hf2
 go_wp2_with fail
 go_ret
 obtain ⟨ho, hg2, hf2⟩ := HO.out
 refine ⟨tr, rfl, ho, fun x hx => ?_, (((hf'.out.alloc _).alloc _).alloc _).trans hf2⟩
 have := hg2 x hx
 simp at this
 omega

end Go.Proofs.YtlbomnbpahmphaaGreat
