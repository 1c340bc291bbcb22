/- Walks: 'Kinds', 'Valid' over a program without coroutines and of no function, or of one that is empty. -/
import Derived.Test.YtlbomnbpahmphaaGreatR10
import Derived.Test.YtlbomnbpahmphaaGreatR07
namespace Go.Proofs.YtlbomnbpahmphaaGreat
open Go.RowKit

theorem Tryz.infoInt : (Tryz.prog.info? 3).map (fun i => (i.zero, i.size, i.bytes)) = some (some (.int .i64 0), 1, 8) := by kernel_rfl
theorem madeCells_int (k : Nat) : (madeCells #[.int .i64 0] (k * 1)).toList = List.replicate k (.int .i64 0) := by
 refine List.eq_replicate_iff.2 ⟨by simp [madeCells], ?_⟩
 simp [madeCells, Nat.mod_one]

set_option maxRecDepth 100000 in
theorem kinds_tiny (w : World) (fo : Option Addr) (n fc : Nat) (hn : n ≤ 1) :
 Calls Tryz.prog 62 #[.agg #[.slice fo n fc, .slice none 0 0]] w fun e w' => ∃ g, e = .returned (.slice (some ⟨g, 0, none⟩) n n) ∧ Row w' g 3 (List.replicate n (.int .i64 0)) ∧ w.heap.size ≤ g ∧ Fr Non w w' := by
 obtain ⟨j0, hj, hj0, hj1, hj2⟩ := info_parts Tryz.infoInt
 have hm2 : ∀ W : World, (Instr.makeSlice 36 (.int .i64 n) (.int .i64 n)).run Tryz.prog W = .ok (.slice (Option.some ⟨W.heap.size, 0, none⟩) n n) (W.alloc (.cells (madeCells #[.int .i64 0] (n * 1)) 3)) := by
  intro W
  have := run_make (P := Tryz.prog) W 36 3 j0 _ Tryz.underlying36 hj hj0 .i64 .i64 (n : Int) (n : Int) (by omega) (by omega) (by rw [hj2]; omega) (by omega)
  rw [hj1] at this
  simpa [Value.cells] using this
 have hZ := madeCells_int n
 generalize madeCells #[.int .i64 0] (n * 1) = zZ at *
 have HZ := Lib.hid hZ
 clear hZ
 go_enter Tryz.func62, Tryz.ntmps62
 go_wp2_with fail
 have b1 : (((w.alloc (.cells #[.slice fo n fc, .slice none 0 0] 25)).alloc (.cells zZ 3)).alloc (.cells #[.slice (some ⟨w.heap.size + 1, 0, none⟩) n n] 36)).cell? ⟨w.heap.size, 1, none⟩ = some (.slice none 0 0) := (Row.alloc (Row.alloc (Row.new' rfl) _) _).cell (o := 1) rfl
 have b2 : (((w.alloc (.cells #[.slice fo n fc, .slice none 0 0] 25)).alloc (.cells zZ 3)).alloc (.cells #[.slice (some ⟨w.heap.size + 1, 0, none⟩) n n] 36)).cell? ⟨w.heap.size + 1 + 1, 0, none⟩ = some (.slice (some ⟨w.heap.size + 1, 0, none⟩) n n) := (Row.new' (by simp)).cell (o := 0) rfl
 have hr : Row (((w.alloc (.cells #[.slice fo n fc, .slice none 0 0] 25)).alloc (.cells zZ 3)).alloc (.cells #[.slice (some ⟨w.heap.size + 1, 0, none⟩) n n] 36)) (w.heap.size + 1) 3 (List.replicate n (.int .i64 0)) := by
  rw [← HZ.out]; exact (Row.new' (by simp)).alloc _
 have hf : Fr Non w (((w.alloc (.cells #[.slice fo n fc, .slice none 0 0] 25)).alloc (.cells zZ 3)).alloc (.cells #[.slice (some ⟨w.heap.size + 1, 0, none⟩) n n] 36)) := by exact (by repeat (first | exact .refl _ _ | assumption | apply Fr.drewN | apply Fr.drew | apply Fr.drewl | apply Fr.drewNl | apply Fr.alloc))
 generalize ((w.alloc (.cells #[.slice fo n fc, .slice none 0 0] 25)).alloc (.cells zZ 3)).alloc (.cells #[.slice (some ⟨w.heap.size + 1, 0, none⟩) n n] 36) = W at *
 have HR := Lib.hid (And.intro hr hf)
 clear hr hf
 go_loopw [17] (fun v17 wr => v17 = .int .i64 0 ∧ wr = W) (fun _ _ => 0)
 case atStart => exact ⟨rfl, rfl⟩
 case round =>
  obtain ⟨rfl, rfl⟩ := hrel
  go_wp2_with fail
  go_loopw [29] (fun v29 wr2 => v29 = .int .i64 0 ∧ wr2 = wr) (fun _ _ => 0)
  case atStart => exact ⟨rfl, rfl⟩
  case round =>
   obtain ⟨rfl, rfl⟩ := hrel
   go_wp2_with fail
   go_ret
   exact ⟨_, rfl, HR.out.1, by omega, HR.out.2⟩

set_option maxRecDepth 100000 in
theorem valid_empty (w : World) : Calls Tryz.prog 31 #[.agg #[.slice none 0 0, .slice none 0 0]] w fun e w' => e = .returned (.bool true) ∧ Fr Non w w' := by
 go_enter Tryz.func31, Tryz.ntmps31
 go_wp2_with fail
 refine (kinds_tiny _ none 0 0 (by omega)).mono ?_
 rintro e1 w1 ⟨g, rfl, hr, hg, hf⟩
 have b0 := hf.new_cell (by simp [Non]) (o := 0) rfl
 have b1 := hf.new_cell (by simp [Non]) (o := 1) rfl
 have HF : Hid (Fr Non w w1) := Lib.hid (Fr.trans (by exact (by repeat (first | exact .refl _ _ | assumption | apply Fr.drewN | apply Fr.drew | apply Fr.drewl | apply Fr.drewNl | apply Fr.alloc))) hf)
 clear hr hg hf
 go_wp2_with fail
 go_loopw [24] (fun v24 wr => v24 = .int .i64 0 ∧ wr = w1) (fun _ _ => 0)
 case atStart => exact ⟨rfl, rfl⟩
 case round =>
  obtain ⟨rfl, rfl⟩ := hrel
  go_wp2_with fail
  go_loopw [36] (fun v36 wr2 => v36 = .int .i64 0 ∧ wr2 = wr) (fun _ _ => 0)
  case atStart => exact ⟨rfl, rfl⟩
  case round =>
   obtain ⟨rfl, rfl⟩ := hrel
   go_wp2_with fail
   go_ret
   exact ⟨rfl, HF.out⟩

set_option maxRecDepth 100000 in
theorem right_none (w : World) (c : Nat) (f0 f1 f2 : Value) (fo : Option Addr) (fc : Nat) (k : Int) (hc : Row w c 132 [f0, f1, f2, .slice fo 0 fc, .int .i64 k]) : Calls Tryz.prog 64 #[.pointer (some ⟨c, 0, none⟩)] w fun e w' => e = .returned (.bool false) ∧ Fr Non w w' := by
 have c3 := hc.cell (o := 3) rfl
 clear hc
 go_enter Tryz.func64, Tryz.ntmps64
 go_wp2_with fail
 go_ret
 exact ⟨rfl, by exact (by repeat (first | exact .refl _ _ | assumption | apply Fr.drewN | apply Fr.drew | apply Fr.drewl | apply Fr.drewNl | apply Fr.alloc))⟩

set_option maxRecDepth 100000 in
set_option maxHeartbeats 400000 in
theorem valid_one (w : World) (b fo : Nat) (ao : Option Addr) (ac : Nat) (fc : Nat) (hb : w.cell? ⟨b, fo, none⟩ = some (.slice ao 0 ac)) : Calls Tryz.prog 31 #[.agg #[.slice (some ⟨b, fo, none⟩) 1 fc, .slice none 0 0]] w fun e w' => e = .returned (.bool false) ∧ Fr Non w w' := by
 go_enter Tryz.func31, Tryz.ntmps31
 go_wp2_with fail
 refine (kinds_tiny _ (some ⟨b, fo, none⟩) 1 fc (by omega)).mono ?_
 rintro e1 w1 ⟨g, rfl, hr, hg, hf⟩
 have b0 := hf.new_cell (by simp [Non]) (o := 0) rfl
 have b1 := hf.new_cell (by simp [Non]) (o := 1) rfl
 have hf' : Fr Non w w1 := Fr.trans (by exact (by repeat (first | exact .refl _ _ | assumption | apply Fr.drewN | apply Fr.drew | apply Fr.drewl | apply Fr.drewNl | apply Fr.alloc))) hf
 have hb1 := hf'.cell hb id
 have r0 := hr.cell (o := 0) rfl
 have hblt := World.block_lt_of_cell? w _ hb
 have hs := hf.size
 simp only [World.size_alloc] at hs hg
 have hlt := hr.lt
 have HF : Hid (Fr Non w w1) := Lib.hid hf'
 clear hr hf hf'
 go_wp2_with fail
 go_loopw [24] (fun v24 wr => v24 = .int .i64 0 ∧ wr = w1) (fun _ _ => 0)
 case atStart => exact ⟨rfl, rfl⟩
 case round =>
  obtain ⟨rfl, rfl⟩ := hrel
  go_wp2_with fail
  go_loopw [36] (fun v36 wr2 => v36 = .int .i64 0 ∧ wr2 = wr) (fun _ _ => 0)
  case atStart => exact ⟨rfl, rfl⟩
  case round =>
   obtain ⟨rfl, rfl⟩ := hrel
   go_wp2_with fail
   go_still_tail 8, (by kernel_rfl)
   change wpList _ _ _ _ _ wr.drew
   have r0' : wr.drew.cell? ⟨g, 0, none⟩ = some (.int .i64 0) := r0
   have HF' : Hid (Fr Non w wr.drew) := Lib.hid HF.out.drew
   generalize wr.drew = w2 at *
   go_wp2_with fail
   refine (right_none _ _ _ _ _ ao ac _ (by exact Row.new' rfl)).mono ?_
   rintro e3 w3 ⟨rfl, hf3⟩
   have HF2 : Hid (Fr Non w w3) := Lib.hid (Fr.trans (HF'.out.alloc _) hf3)
   clear hf3
   go_wp2_with fail
   go_ret
   exact ⟨rfl, HF2.out⟩

end Go.Proofs.YtlbomnbpahmphaaGreat
