/- Walks: 'works' of the laws of layer 21. -/
import Derived.Test.YtlbomnbpahmphaaGreatR41
import Derived.Test.YtlbomnbpahmphaaGreatR22
namespace Go.Proofs.YtlbomnbpahmphaaGreat
open Go.RowKit

set_option maxRecDepth 100000 in
set_option maxHeartbeats 400000 in
theorem works21_c (w : World) : Calls Tryz.prog 25 #[] w fun e w' => e = .returned (.bool true) ∧ Fr Non w w' := by
 go_enter Tryz.func25, Tryz.ntmps25
 go_wp2_with fail
 refine (run_idle _ none 0 0 none 0 0 none 0 0 (some ⟨w.heap.size, 0, none⟩) 1 9 9 9 [⟨2, 0, 0, none, 0, 0⟩] (fun _ => ⟨w.heap.size, 0, rfl, (Row.new' rfl).news⟩) (by simp) (by simp) (fun w1 _ => valid_empty w1)).mono ?_
 rintro e1 w1 ⟨tr1, rfl, ho1, hg1, hf1⟩
 have hf1' : Hid (Fr Non w w1) := Lib.hid (Fr.trans (by exact (by repeat (first | exact .refl _ _ | assumption | apply Fr.drewN | apply Fr.drew | apply Fr.drewl | apply Fr.drewNl | apply Fr.alloc))) hf1)
 have hs1 := hf1.size
 simp only [World.size_alloc] at hs1 hg1
 obtain ⟨ao1, c1, rfl, _, _, h1, h2⟩ := ho1.form
 obtain ⟨g1, rfl⟩ := h1 (by simp)
 have hg1' := hg1 g1 rfl
 have hlt1 := (h2 _ rfl).2
 have HO1 := Lib.hid ho1
 clear ho1 hg1 hf1 h1 h2
 go_wp2_with fail
 refine (run_bad _ (some ⟨w1.heap.size + 1, 0, none⟩) 1 1 none 0 0 none 0 0 none 0 0 9 9 9 (fun w2 h2 => valid_one w2 (w1.heap.size + 1) 0 (some ⟨w1.heap.size, 0, none⟩) 0 1 (h2.cell ((Row.new' (by simp)).cell (o := 0) rfl) id))).mono ?_
 rintro e2 w2 ⟨tr2, rfl, ho2, hg2, hf2⟩
 have hf2' : Hid (Fr Non w1 w2) := Lib.hid (Fr.trans (by exact (by repeat (first | exact .refl _ _ | assumption | apply Fr.drewN | apply Fr.drew | apply Fr.drewl | apply Fr.drewNl | apply Fr.alloc))) hf2)
 have hs2 := hf2.size
 simp only [World.size_alloc] at hs2 hg2
 obtain ⟨ao2, c2, rfl, _, _, h1, h2⟩ := ho2.form
 obtain ⟨g2, rfl⟩ := h1 (by simp)
 have ho1' := HO1.out.fr hf2'.out (fun _ _ => id)
 have x0 := ho1'.cell rfl (j := 0) rfl
 have x1 := ho1'.cell rfl (j := 1) rfl
 have x2 := ho1'.cell rfl (j := 2) rfl
 have x3 := ho1'.cell rfl (j := 3) rfl
 have y0 := ho2.cell rfl (j := 0) rfl
 have y1 := ho2.cell rfl (j := 1) rfl
 have y2 := ho2.cell rfl (j := 2) rfl
 have y3 := ho2.cell rfl (j := 3) rfl
 clear ho2 hg2 hf2 h1 h2 ho1'
 go_wp2_with fail
 go_ret
 refine ⟨rfl, ?_⟩
 have hf3 := hf1'.out.trans hf2'.out
 exact (by repeat (first | exact .refl _ _ | assumption | apply Fr.drewN | apply Fr.drew | apply Fr.drewl | apply Fr.drewNl | apply Fr.alloc))

end Go.Proofs.YtlbomnbpahmphaaGreat
