/- Walks: the checker's 'one'. Condition: the checker's record lies there; so do the labels. Printed by genone.py. -/
import Derived.Test.YtlbomnbpahmphaaSa17
import Derived.Test.YtlbomnbpahmphaaSa05
namespace Go.Proofs.Ytlbomnbpahmphaa
open Go.RowKit

section
variable {base : Nat} {P : Pr} {kinds : List Int} {f : List In} {kind : Int} {w : World} {c : Nat}

set_option maxRecDepth 100000 in
set_option maxHeartbeats 4000000 in
theorem one_c (h : Chk base P kinds f kind w c) (x : In) (la : Option Addr) (lc : Nat) (hl : ArgsAt w la x.l) (hn : x.l.length ≤ 17592186043904) :
    Calls Try.prog 68 #[.pointer (some ⟨c, 0, none⟩), .agg #[.int .i64 x.op, .int .i64 x.a, .int .i64 x.b, .int .i64 x.c, .slice la x.l.length lc]] w fun e w' => e = .returned (.bool (oneS kinds P.cos.length f.length kind x)) ∧ Fr Non w w' := by
  have hmf : ∀ (fn : Fn) (first cap : Array Value) (W : World), (Instr.makeFunc fn first cap).run Try.prog W = .ok (.func fn first cap) W := fun _ _ _ _ => rfl
  have hS := Lib.hid fun w1 => shapeOf_c w1 x la lc
  have hF := Lib.hid fun w1 (g : Fr Non w w1) fd n => field_c (h.fr g) fd n
  have hA := Lib.hid fun w1 (g : Fr Non w w1) => allowed_c (h.fr g) x la lc
  have hC := Lib.hid fun w1 (g : Fr Non w w1) q (hq : w1.cell? ⟨q, 0, none⟩ = some (.pointer (some ⟨c, 0, none⟩))) => containsFunc_c (h.fr g) q hq x.l la lc (hl.fr g (fun _ _ _ h => h)) hn
  obtain ⟨r, hr⟩ : ∃ r, r = oneS kinds P.cos.length f.length kind x := ⟨_, rfl⟩
  rw [← hr]
  unfold oneS at hr
  have hcl : c < w.heap.size := by obtain ⟨_, _, _, _, _, _, _, _, h1, _⟩ := h; exact h1.lt
  clear h hl
  obtain ⟨op, a, b, cc, l⟩ := x
  simp only at hS hA hC hr hn ⊢
  generalize shapeS op = sh at *
  obtain ⟨sa, sb, sc, sl, ok⟩ := sh
  simp only at hS hr
  generalize (l.all fun j => withinS j f.length) = al at *
  have HR := Lib.hid hr
  clear hr
  go_enter Try.func68, Try.ntmps68
  go_wp2_with fail
  refine (hS.out _).mono ?_
  rintro e1 w1 ⟨rfl, hf⟩
  have hf1 : Fr Non w w1 := Fr.trans (by exact (by repeat (first | exact Fr.refl _ _ | assumption | refine Fr.drewN ?_ _ | refine Fr.drew ?_ | refine Fr.drewl ?_ | refine Fr.drewNl ?_ _ | refine Fr.alloc ?_ _))) hf
  have rq : Row w1 w.heap.size 115 [.pointer (some ⟨c, 0, none⟩)] := hf.row (by exact (Row.new' rfl).alloc _) id
  have rx : Row w1 (w.heap.size + 1) 112 [.int .i64 op, .int .i64 a, .int .i64 b, .int .i64 cc, .slice la l.length lc] := hf.row (by exact Row.new' (by simp)) id
  have fV : Fr Non w1 (w1.alloc (.cells #[.int .i64 sa, .int .i64 sb, .int .i64 sc, .int .i64 sl] 153)) := (Fr.refl _ _).alloc _
  have rs : Row (w1.alloc (.cells #[.int .i64 sa, .int .i64 sb, .int .i64 sc, .int .i64 sl] 153)) w1.heap.size 153 [.int .i64 sa, .int .i64 sb, .int .i64 sc, .int .i64 sl] := Row.new' rfl
  have HW := Lib.hid (And.intro (hf1.trans fV) (And.intro (fV.row rq id) (And.intro (fV.row rx id) rs)))
  have hwl : w.heap.size < w1.heap.size := rq.lt
  have hwl1 : w.heap.size + 1 < w1.heap.size := rx.lt
  clear hf hf1 rq rx fV rs
  cases ok with
  | false =>
    go_wp2_with fail
    go_ret
    exact ⟨by rw [HR.out]; rfl, HW.out.1⟩
  | true =>
    have hV : ∃ V, V = w1.alloc (.cells #[.int .i64 sa, .int .i64 sb, .int .i64 sc, .int .i64 sl] 153) ∧ w1.heap.size < V.heap.size := ⟨_, rfl, by simp⟩
    obtain ⟨V, hVe, hVl⟩ := hV
    generalize hg : w1.heap.size = g at *
    have q0 := HW.out.2.1.cell (o := 0) rfl
    obtain ⟨x0, x1, x2, x3, x4, xz⟩ := row5 HW.out.2.2.1
    obtain ⟨s0, s1, s2, s3, sz⟩ := row4 HW.out.2.2.2
    go_wp2_with fail
    refine (hF.out _ HW.out.1 sa a).mono ?_
    rintro e1 v1 ⟨rfl, hf⟩
    have hs1 := hf.size
    have HW1 := Lib.hid (And.intro (HW.out.1.trans hf) (And.intro (hf.row HW.out.2.1 id) (And.intro (hf.row HW.out.2.2.1 id) (hf.row HW.out.2.2.2 id))))
    clear hf q0 x0 x1 x2 x3 x4 xz s0 s1 s2 s3 sz
    have q0 := HW1.out.2.1.cell (o := 0) rfl
    obtain ⟨x0, x1, x2, x3, x4, xz⟩ := row5 HW1.out.2.2.1
    obtain ⟨s0, s1, s2, s3, sz⟩ := row4 HW1.out.2.2.2
    cases hb1 : fieldS kinds P.cos.length sa a with
    | false =>
      go_wp2_with fail
      go_ret
      exact ⟨by rw [HR.out, hb1]; simp, HW1.out.1⟩
    | true =>
      go_wp2_with fail
      refine (hF.out _ HW1.out.1 sb b).mono ?_
      rintro e1 v2 ⟨rfl, hf⟩
      have hs2 := hf.size
      have HW2 := Lib.hid (And.intro (HW1.out.1.trans hf) (And.intro (hf.row HW1.out.2.1 id) (And.intro (hf.row HW1.out.2.2.1 id) (hf.row HW1.out.2.2.2 id))))
      clear hf q0 x0 x1 x2 x3 x4 xz s0 s1 s2 s3 sz
      have q0 := HW2.out.2.1.cell (o := 0) rfl
      obtain ⟨x0, x1, x2, x3, x4, xz⟩ := row5 HW2.out.2.2.1
      obtain ⟨s0, s1, s2, s3, sz⟩ := row4 HW2.out.2.2.2
      cases hb2 : fieldS kinds P.cos.length sb b with
      | false =>
        go_wp2_with fail
        go_ret
        exact ⟨by rw [HR.out, hb1, hb2]; simp, HW2.out.1⟩
      | true =>
        go_wp2_with fail
        refine (hF.out _ HW2.out.1 sc cc).mono ?_
        rintro e1 v3 ⟨rfl, hf⟩
        have hs3 := hf.size
        have HW3 := Lib.hid (And.intro (HW2.out.1.trans hf) (And.intro (hf.row HW2.out.2.1 id) (And.intro (hf.row HW2.out.2.2.1 id) (hf.row HW2.out.2.2.2 id))))
        clear hf q0 x0 x1 x2 x3 x4 xz s0 s1 s2 s3 sz
        have q0 := HW3.out.2.1.cell (o := 0) rfl
        obtain ⟨x0, x1, x2, x3, x4, xz⟩ := row5 HW3.out.2.2.1
        obtain ⟨s0, s1, s2, s3, sz⟩ := row4 HW3.out.2.2.2
        cases hb3 : fieldS kinds P.cos.length sc cc with
        | false =>
          go_wp2_with fail
          go_ret
          exact ⟨by rw [HR.out, hb1, hb2, hb3]; simp, HW3.out.1⟩
        | true =>
          go_wp2_with fail
          refine (hA.out _ HW3.out.1).mono ?_
          rintro e1 v4 ⟨rfl, hf⟩
          have hs4 := hf.size
          have HW4 := Lib.hid (And.intro (HW3.out.1.trans hf) (And.intro (hf.row HW3.out.2.1 id) (And.intro (hf.row HW3.out.2.2.1 id) (hf.row HW3.out.2.2.2 id))))
          clear hf q0 x0 x1 x2 x3 x4 xz s0 s1 s2 s3 sz
          have q0 := HW4.out.2.1.cell (o := 0) rfl
          obtain ⟨x0, x1, x2, x3, x4, xz⟩ := row5 HW4.out.2.2.1
          obtain ⟨s0, s1, s2, s3, sz⟩ := row4 HW4.out.2.2.2
          cases hb4 : allowedS kind op with
          | false =>
            go_wp2_with fail
            go_ret
            exact ⟨by rw [HR.out, hb1, hb2, hb3, hb4]; simp, HW4.out.1⟩
          | true =>
            have hsl : (0 ≤ sl ∧ decide (0 ≤ sl) = true ∧ decide (sl < 0) = false) ∨ (¬ 0 ≤ sl ∧ decide (0 ≤ sl) = false ∧ decide (sl < 0) = true) := by
              by_cases h : 0 ≤ sl
              · exact Or.inl ⟨h, decide_eq_true h, decide_eq_false (by omega)⟩
              · exact Or.inr ⟨h, decide_eq_false h, decide_eq_true (by omega)⟩
            rcases hsl with ⟨h5, h6, h7⟩ | ⟨h5, h6, h7⟩
            · have hlc : ((l.length : Int) = sl ∧ ((l.length : Int) == sl) = true) ∨ (¬ (l.length : Int) = sl ∧ ((l.length : Int) == sl) = false) := by
                by_cases h : (l.length : Int) = sl
                · exact Or.inl ⟨h, by simp [h]⟩
                · exact Or.inr ⟨h, beq_false_of_ne h⟩
              rcases hlc with ⟨h8, h9⟩ | ⟨h8, h9⟩
              · go_wp2_with fail
                refine (hC.out _ HW4.out.1 w.heap.size q0).mono ?_
                rintro e1 v5 ⟨rfl, hf⟩
                go_wp2_with fail
                go_ret
                refine ⟨?_, HW4.out.1.trans hf⟩
                rw [HR.out, hb1, hb2, hb3, hb4]
                have : ((l.length : Int) != sl) = false := by simp [h8]
                rw [this, h7]
                simp
              · go_wp2_with fail
                go_ret
                refine ⟨?_, HW4.out.1⟩
                rw [HR.out, hb1, hb2, hb3, hb4]
                have : ((l.length : Int) != sl) = true := by simp [h8]
                rw [this, h6]
                simp
            · have hlc : ((l.length : Int) = 0 ∧ ((l.length : Int) == 0) = true) ∨ (¬ (l.length : Int) = 0 ∧ ((l.length : Int) == 0) = false) := by
                by_cases h : (l.length : Int) = 0
                · exact Or.inl ⟨h, by simp [h]⟩
                · exact Or.inr ⟨h, beq_false_of_ne h⟩
              rcases hlc with ⟨h8, h9⟩ | ⟨h8, h9⟩
              · go_wp2_with fail
                go_ret
                refine ⟨?_, HW4.out.1⟩
                rw [HR.out, hb1, hb2, hb3, hb4]
                rw [h6, h7, h9]
                simp
              · go_wp2_with fail
                refine (hC.out _ HW4.out.1 w.heap.size q0).mono ?_
                rintro e1 v5 ⟨rfl, hf⟩
                go_wp2_with fail
                go_ret
                refine ⟨?_, HW4.out.1.trans hf⟩
                rw [HR.out, hb1, hb2, hb3, hb4]
                rw [h6, h7, h9]
                simp
end

end Go.Proofs.Ytlbomnbpahmphaa

/- Walks: 'Kinds', 'Valid' over a program without coroutines and of no function, or of one that is empty. -/
namespace Go.Proofs.Ytlbomnbpahmphaa
open Go.RowKit

theorem Try.infoInt : (Try.prog.info? 3).map (fun i => (i.zero, i.size, i.bytes)) = some (some (.int .i64 0), 1, 8) := by kernel_rfl
theorem madeCells_int (k : Nat) : (madeCells #[.int .i64 0] (k * 1)).toList = List.replicate k (.int .i64 0) := by
  refine List.eq_replicate_iff.2 ⟨by simp [madeCells], ?_⟩
  simp [madeCells, Nat.mod_one]

set_option maxRecDepth 100000 in
theorem kinds_tiny (w : World) (fo : Option Addr) (n fc : Nat) (hn : n ≤ 1) :
    Calls Try.prog 47 #[.agg #[.slice fo n fc, .slice none 0 0]] w fun e w' => ∃ g, e = .returned (.slice (some ⟨g, 0, none⟩) n n) ∧ Row w' g 3 (List.replicate n (.int .i64 0)) ∧ w.heap.size ≤ g ∧ Fr Non w w' := by
  obtain ⟨j0, hj, hj0, hj1, hj2⟩ := info_parts Try.infoInt
  have hm2 : ∀ W : World, (Instr.makeSlice 34 (.int .i64 n) (.int .i64 n)).run Try.prog W = .ok (.slice (Option.some ⟨W.heap.size, 0, none⟩) n n) (W.alloc (.cells (madeCells #[.int .i64 0] (n * 1)) 3)) := by
    intro W
    have := run_make (P := Try.prog) W 34 3 j0 _ Try.underlying34 hj hj0 .i64 .i64 (n : Int) (n : Int) (by omega) (by omega) (by rw [hj2]; omega) (by omega)
    rw [hj1] at this
    simpa [Value.cells] using this
  have hZ := madeCells_int n
  generalize madeCells #[.int .i64 0] (n * 1) = zZ at *
  have HZ := Lib.hid hZ
  clear hZ
  go_enter Try.func47, Try.ntmps47
  go_wp2_with fail
  have b1 : (((w.alloc (.cells #[.slice fo n fc, .slice none 0 0] 25)).alloc (.cells zZ 3)).alloc (.cells #[.slice (some ⟨w.heap.size + 1, 0, none⟩) n n] 34)).cell? ⟨w.heap.size, 1, none⟩ = some (.slice none 0 0) := (Row.alloc (Row.alloc (Row.new' rfl) _) _).cell (o := 1) rfl
  have b2 : (((w.alloc (.cells #[.slice fo n fc, .slice none 0 0] 25)).alloc (.cells zZ 3)).alloc (.cells #[.slice (some ⟨w.heap.size + 1, 0, none⟩) n n] 34)).cell? ⟨w.heap.size + 1 + 1, 0, none⟩ = some (.slice (some ⟨w.heap.size + 1, 0, none⟩) n n) := (Row.new' (by simp)).cell (o := 0) rfl
  have hr : Row (((w.alloc (.cells #[.slice fo n fc, .slice none 0 0] 25)).alloc (.cells zZ 3)).alloc (.cells #[.slice (some ⟨w.heap.size + 1, 0, none⟩) n n] 34)) (w.heap.size + 1) 3 (List.replicate n (.int .i64 0)) := by
    rw [← HZ.out]; exact (Row.new' (by simp)).alloc _
  have hf : Fr Non w (((w.alloc (.cells #[.slice fo n fc, .slice none 0 0] 25)).alloc (.cells zZ 3)).alloc (.cells #[.slice (some ⟨w.heap.size + 1, 0, none⟩) n n] 34)) := by exact (by repeat (first | exact Fr.refl _ _ | assumption | refine Fr.drewN ?_ _ | refine Fr.drew ?_ | refine Fr.drewl ?_ | refine Fr.drewNl ?_ _ | refine Fr.alloc ?_ _))
  generalize ((w.alloc (.cells #[.slice fo n fc, .slice none 0 0] 25)).alloc (.cells zZ 3)).alloc (.cells #[.slice (some ⟨w.heap.size + 1, 0, none⟩) n n] 34) = W at *
  have HR := Lib.hid (And.intro hr hf)
  clear hr hf
  go_loopw [17] (fun v17 wr => v17 = .int .i64 0 ∧ wr = W) (fun _ _ => 0)
  case atStart => exact ⟨rfl, rfl⟩
  case round =>
    obtain ⟨rfl, rfl⟩ := hrel
    go_wp2_with fail
    go_loopw [29] (fun v29 wr2 => v29 = .int .i64 0 ∧ wr2 = wr) (fun _ _ => 0)
    case atStart => exact ⟨rfl, rfl⟩
    case round =>
      obtain ⟨rfl, rfl⟩ := hrel
      go_wp2_with fail
      go_ret
      exact ⟨_, rfl, HR.out.1, by omega, HR.out.2⟩

set_option maxRecDepth 100000 in
theorem valid_empty (w : World) : Calls Try.prog 28 #[.agg #[.slice none 0 0, .slice none 0 0]] w fun e w' => e = .returned (.bool true) ∧ Fr Non w w' := by
  go_enter Try.func28, Try.ntmps28
  go_wp2_with fail
  refine (kinds_tiny _ none 0 0 (by omega)).mono ?_
  rintro e1 w1 ⟨g, rfl, hr, hg, hf⟩
  have b0 := hf.new_cell (by simp [Non]) (o := 0) rfl
  have b1 := hf.new_cell (by simp [Non]) (o := 1) rfl
  have HF : Hid (Fr Non w w1) := Lib.hid (Fr.trans (by exact (by repeat (first | exact Fr.refl _ _ | assumption | refine Fr.drewN ?_ _ | refine Fr.drew ?_ | refine Fr.drewl ?_ | refine Fr.drewNl ?_ _ | refine Fr.alloc ?_ _))) hf)
  clear hr hg hf
  go_wp2_with fail
  go_loopw [24] (fun v24 wr => v24 = .int .i64 0 ∧ wr = w1) (fun _ _ => 0)
  case atStart => exact ⟨rfl, rfl⟩
  case round =>
    obtain ⟨rfl, rfl⟩ := hrel
    go_wp2_with fail
    go_loopw [36] (fun v36 wr2 => v36 = .int .i64 0 ∧ wr2 = wr) (fun _ _ => 0)
    case atStart => exact ⟨rfl, rfl⟩
    case round =>
      obtain ⟨rfl, rfl⟩ := hrel
      go_wp2_with fail
      go_ret
      exact ⟨rfl, HF.out⟩

set_option maxRecDepth 100000 in
theorem right_none (w : World) (c : Nat) (f0 f1 f2 : Value) (fo : Option Addr) (fc : Nat) (k : Int) (hc : Row w c 117 [f0, f1, f2, .slice fo 0 fc, .int .i64 k]) : Calls Try.prog 49 #[.pointer (some ⟨c, 0, none⟩)] w fun e w' => e = .returned (.bool false) ∧ Fr Non w w' := by
  have c3 := hc.cell (o := 3) rfl
  clear hc
  go_enter Try.func49, Try.ntmps49
  go_wp2_with fail
  go_ret
  exact ⟨rfl, by exact (by repeat (first | exact Fr.refl _ _ | assumption | refine Fr.drewN ?_ _ | refine Fr.drew ?_ | refine Fr.drewl ?_ | refine Fr.drewNl ?_ _ | refine Fr.alloc ?_ _))⟩

set_option maxRecDepth 100000 in
set_option maxHeartbeats 400000 in
theorem valid_one (w : World) (b fo : Nat) (ao : Option Addr) (ac : Nat) (fc : Nat) (hb : w.cell? ⟨b, fo, none⟩ = some (.slice ao 0 ac)) : Calls Try.prog 28 #[.agg #[.slice (some ⟨b, fo, none⟩) 1 fc, .slice none 0 0]] w fun e w' => e = .returned (.bool false) ∧ Fr Non w w' := by
  go_enter Try.func28, Try.ntmps28
  go_wp2_with fail
  refine (kinds_tiny _ (some ⟨b, fo, none⟩) 1 fc (by omega)).mono ?_
  rintro e1 w1 ⟨g, rfl, hr, hg, hf⟩
  have b0 := hf.new_cell (by simp [Non]) (o := 0) rfl
  have b1 := hf.new_cell (by simp [Non]) (o := 1) rfl
  have hf' : Fr Non w w1 := Fr.trans (by exact (by repeat (first | exact Fr.refl _ _ | assumption | refine Fr.drewN ?_ _ | refine Fr.drew ?_ | refine Fr.drewl ?_ | refine Fr.drewNl ?_ _ | refine Fr.alloc ?_ _))) hf
  have hb1 := hf'.cell hb id
  have r0 := hr.cell (o := 0) rfl
  have hblt := World.block_lt_of_cell? w _ hb
  have hs := hf.size
  simp only [World.size_alloc] at hs hg
  have hlt := hr.lt
  have HF : Hid (Fr Non w w1) := Lib.hid hf'
  clear hr hf hf'
  go_wp2_with fail
  go_loopw [24] (fun v24 wr => v24 = .int .i64 0 ∧ wr = w1) (fun _ _ => 0)
  case atStart => exact ⟨rfl, rfl⟩
  case round =>
    obtain ⟨rfl, rfl⟩ := hrel
    go_wp2_with fail
    go_loopw [36] (fun v36 wr2 => v36 = .int .i64 0 ∧ wr2 = wr) (fun _ _ => 0)
    case atStart => exact ⟨rfl, rfl⟩
    case round =>
      obtain ⟨rfl, rfl⟩ := hrel
      go_wp2_with fail
      go_still_tail 8, (by kernel_rfl)
      change wpList _ _ _ _ _ wr.drew
      have r0' : wr.drew.cell? ⟨g, 0, none⟩ = some (.int .i64 0) := r0
      have HF' : Hid (Fr Non w wr.drew) := Lib.hid HF.out.drew
      generalize wr.drew = w2 at *
      go_wp2_with fail
      refine (right_none _ _ _ _ _ ao ac _ (by exact Row.new' rfl)).mono ?_
      rintro e3 w3 ⟨rfl, hf3⟩
      have HF2 : Hid (Fr Non w w3) := Lib.hid (Fr.trans (HF'.out.alloc _) hf3)
      clear hf3
      go_wp2_with fail
      go_ret
      exact ⟨rfl, HF2.out⟩

end Go.Proofs.Ytlbomnbpahmphaa

/- Walks: the checker's 'Reads'. No condition. -/
namespace Go.Proofs.Ytlbomnbpahmphaa
open Go.RowKit

def fldS (x : In) : List (Int × Int) := [((shapeS x.op).a, x.a), ((shapeS x.op).b, x.b), ((shapeS x.op).c, x.c)]
def someS (l : List (Int × Int)) : List Int := (l.filter fun e => e.1 == 1).map (·.2)
theorem reads_some (x : In) : someS (fldS x) = readsS x := by
  unfold someS fldS readsS
  cases h1 : ((shapeS x.op).a == 1) <;> cases h2 : ((shapeS x.op).b == 1) <;> cases h3 : ((shapeS x.op).c == 1) <;> simp [List.filter_cons, h1, h2, h3]
def ints (l : List Int) : List Value := l.map (Value.int .i64)

theorem Try.infoField : (Try.prog.info? 151).map (fun i => (i.zero, i.size, i.bytes)) = some (some (.int .i64 0), 1, 8) := by kernel_rfl
theorem run_index_arr {T e : TypeId} {j : TypeInfo} {d : TypeDesc} {cs : Array Value} {n : Nat} (hT : Try.prog.underlying T = some (.array n e)) (he : Try.prog.underlying e = some d) (hd : (match d with | .struct _ | .array _ _ => true | _ => false) = false) (hj : Try.prog.info? e = some j) (hs : j.size = 1) (W : World) (i : Nat) (hi : i < n) {v : Value} (hv : cs[i]? = some v) :
    (Instr.index T (.agg cs) (.int .i64 i)).run Try.prog W = .ok v W := by
  have hagg : (isAgg e).run Try.prog W = .ok false W := by
    unfold isAgg
    rw [Sem.run_bind, run_underlying he W]
    cases d <;> simp_all
  have h1 : (0 : Int) ≤ (i : Int) ∧ (i : Int) < (n : Int) := by omega
  have hlt : i < cs.size := (Array.getElem?_eq_some_iff.1 hv).1
  have hv2 : cs[i] = v := (Array.getElem?_eq_some_iff.1 hv).2
  simp [Instr.index, asIntOf, run_underlying hT, hi, sizeOf, typeInfo, hj, hs, part, hagg, Result.andThen, hv]

set_option maxRecDepth 100000 in
set_option maxHeartbeats 2000000 in
theorem reads_c (w : World) (x : In) (la : Option Addr) (lc : Nat) : Calls Try.prog 87 #[.agg #[.int .i64 x.op, .int .i64 x.a, .int .i64 x.b, .int .i64 x.c, .slice la x.l.length lc]] w fun e w' =>
    ∃ v, e = .returned v ∧ Own w' v 3 1 (readsS x).length (ints (readsS x)) ∧ (∀ g, v.ownBlock = some g → w.heap.size ≤ g) ∧ Fr Non w w' := by
  have hS := Lib.hid fun w1 => shapeOf_c w1 x la lc
  obtain ⟨j0, hj, hj0, hj1, hj2⟩ := info_parts Try.infoInt
  obtain ⟨k0, hk0', hk1', hk2', hk3'⟩ := info_parts Try.infoField
  obtain ⟨F, hF⟩ : ∃ F, F = fldS x := ⟨_, rfl⟩
  have hRS := reads_some x
  rw [← hF] at hRS
  rw [← hRS]
  unfold fldS at hF
  clear hRS
  obtain ⟨op, a, b, c, l⟩ := x
  simp only at hS hF ⊢
  generalize shapeS op = sh at *
  obtain ⟨sa, sb, sc, sl, ok⟩ := sh
  simp only at hS hF
  have HF := Lib.hid hF
  clear hF
  go_enter Try.func87, Try.ntmps87
  go_wp2_with fail
  refine (hS.out _).mono ?_
  rintro e1 w1 ⟨rfl, hf⟩
  have hf1 : Fr Non w w1 := Fr.trans (by exact (by repeat (first | exact Fr.refl _ _ | assumption | refine Fr.drewN ?_ _ | refine Fr.drew ?_ | refine Fr.drewl ?_ | refine Fr.drewNl ?_ _ | refine Fr.alloc ?_ _))) hf
  have rx : Row w1 w.heap.size 112 [.int .i64 op, .int .i64 a, .int .i64 b, .int .i64 c, .slice la l.length lc] := hf.row (by exact Row.new' rfl) id
  have hwl := rx.lt
  have HX := Lib.hid (And.intro hf1 rx)
  clear hf hf1 rx
  go_wp2_with fail
  have hfW : Fr Non w1 (w1.alloc (.cells #[.int .i64 sa, .int .i64 sb, .int .i64 sc, .int .i64 sl] 153)) := (Fr.refl _ _).alloc _
  have hxW := hfW.row HX.out.2 id
  have hwf := HX.out.1.trans hfW
  generalize w1.alloc (.cells #[.int .i64 sa, .int .i64 sb, .int .i64 sc, .int .i64 sl] 153) = W at *
  have HW := Lib.hid (And.intro hwf hxW)
  have hWs := hfW.size
  clear hfW hxW hwf HX
  go_loopw [5, 20] (fun v5 v20 wr => (v20 = .int .i64 0 ∧ Own wr v5 3 1 (someS (F.take 0)).length (ints (someS (F.take 0))) ∧ (∀ g, v5.ownBlock = some g → W.heap.size ≤ g) ∧ Fr Non W wr) ∨ (v20 = .int .i64 1 ∧ Own wr v5 3 1 (someS (F.take 1)).length (ints (someS (F.take 1))) ∧ (∀ g, v5.ownBlock = some g → W.heap.size ≤ g) ∧ Fr Non W wr) ∨ (v20 = .int .i64 2 ∧ Own wr v5 3 1 (someS (F.take 2)).length (ints (someS (F.take 2))) ∧ (∀ g, v5.ownBlock = some g → W.heap.size ≤ g) ∧ Fr Non W wr) ∨ (v20 = .int .i64 3 ∧ Own wr v5 3 1 (someS (F.take 3)).length (ints (someS (F.take 3))) ∧ (∀ g, v5.ownBlock = some g → W.heap.size ≤ g) ∧ Fr Non W wr)) (fun _ v20 _ => 3 - (intOf v20).toNat)
  case atStart => exact Or.inl ⟨rfl, Own.nil _ _ _, fun g hg => (by cases hg), Fr.refl _ _⟩
  case round =>
    rcases hrel with ⟨rfl, hO, hg, hfr⟩ | ⟨rfl, hO, hg, hfr⟩ | ⟨rfl, hO, hg, hfr⟩ | ⟨rfl, hO, hg, hfr⟩
    · have hix : ∀ W' : World, (Instr.index 176 (.agg #[.int .i64 sa, .int .i64 sb, .int .i64 sc]) (.int .i64 0)).run Try.prog W' = .ok (.int .i64 sa) W' := fun W' => run_index_arr Try.underlying176 Try.underlying151 rfl hk0' hk2' W' 0 (by omega) rfl
      have hiy : ∀ W' : World, (Instr.index 177 (.agg #[.int .i64 a, .int .i64 b, .int .i64 c]) (.int .i64 0)).run Try.prog W' = .ok (.int .i64 a) W' := fun W' => run_index_arr Try.underlying177 Try.underlying3 rfl hj hj1 W' 0 (by omega) rfl
      have hst : someS (F.take 1) = someS (F.take 0) ++ (if sa == 1 then [a] else []) := by
        rw [HF.out]; unfold someS
        cases h : (sa == 1) <;> simp [List.filter_cons, List.filter_append, h]
        all_goals (repeat' split) <;> simp_all
      obtain ⟨x0, x1, x2, x3, x4, xz⟩ := row5 (hfr.row HW.out.2 id)
      have hws := hfr.size
      have hwr : w.heap.size < wr.heap.size := by omega
      have hlen : (someS (F.take 0)).length ≤ 3 := by rw [HF.out]; unfold someS; rw [List.length_map]; exact Nat.le_trans (List.length_filter_le _ _) (by simp)
      cases hk : (sa == 1) with
      | true =>
        rw [hk, if_pos rfl] at hst
        obtain ⟨g, cap, w2, hrun, ho2, hf2, hg2, hlt2⟩ := run_app (P := Try.prog) (w := wr.alloc (.cells #[.int .i64 a] 3)) (hO.fr ((Fr.refl Non wr).alloc _) (fun _ _ h => h)) 34 34 j0 _ 8 Try.underlying34 hj hj0 hj1 hj2 rfl (by omega) wr.heap.size 0 1 1 [.int .i64 a] rfl (by exact (Row.new' rfl).news) (fun u hu => by simp at hu; subst hu; rfl) (by omega) (by omega) (by unfold maxLen; omega)
        have HO := Lib.hid (And.intro ho2 (And.intro hf2 (And.intro hg2 (And.intro hg (And.intro hst hfr)))))
        obtain ⟨ao, cap0, e5, _⟩ := hO.form
        clear ho2 hf2 hg2 hO hg hst hfr hlt2
        go_wp2_with (at_builtin; refine wpList_app rfl (.tmp 26) (.tmp 36) _ rfl rfl rfl _ rfl hrun ?_)
        obtain ⟨ho2, hf2, hg2, hg, hst, hfr⟩ := HO.out
        refine ⟨Or.inr (Or.inl ⟨rfl, ?_, ?_, ?_⟩), by simp [intOf]⟩
        · rw [hst, List.length_append]
          unfold ints at ho2 ⊢
          rw [List.map_append]
          exact ho2
        · intro q hq
          simp [Value.ownBlock] at hq
          subst hq
          rcases hg2 with h | h
          · exact hg _ h
          · simp at h; omega
        · exact Fr.then (D := Non) (by exact hfr.alloc _) hf2 (fun y hy hy' => absurd hy (by have := hg y hy'; omega))
      | false =>
        rw [hk, if_neg (by simp), List.append_nil] at hst
        have HO := Lib.hid (And.intro hO (And.intro hg (And.intro hst hfr)))
        clear hO hg hst hfr
        go_wp2_with fail
        obtain ⟨hO, hg, hst, hfr⟩ := HO.out
        refine ⟨Or.inr (Or.inl ⟨rfl, ?_, hg, hfr⟩), by simp [intOf]⟩
        rw [hst]
        exact hO
    · have hix : ∀ W' : World, (Instr.index 176 (.agg #[.int .i64 sa, .int .i64 sb, .int .i64 sc]) (.int .i64 1)).run Try.prog W' = .ok (.int .i64 sb) W' := fun W' => run_index_arr Try.underlying176 Try.underlying151 rfl hk0' hk2' W' 1 (by omega) rfl
      have hiy : ∀ W' : World, (Instr.index 177 (.agg #[.int .i64 a, .int .i64 b, .int .i64 c]) (.int .i64 1)).run Try.prog W' = .ok (.int .i64 b) W' := fun W' => run_index_arr Try.underlying177 Try.underlying3 rfl hj hj1 W' 1 (by omega) rfl
      have hst : someS (F.take 2) = someS (F.take 1) ++ (if sb == 1 then [b] else []) := by
        rw [HF.out]; unfold someS
        cases h : (sb == 1) <;> simp [List.filter_cons, List.filter_append, h]
        all_goals (repeat' split) <;> simp_all
      obtain ⟨x0, x1, x2, x3, x4, xz⟩ := row5 (hfr.row HW.out.2 id)
      have hws := hfr.size
      have hwr : w.heap.size < wr.heap.size := by omega
      have hlen : (someS (F.take 1)).length ≤ 3 := by rw [HF.out]; unfold someS; rw [List.length_map]; exact Nat.le_trans (List.length_filter_le _ _) (by simp)
      cases hk : (sb == 1) with
      | true =>
        rw [hk, if_pos rfl] at hst
        obtain ⟨g, cap, w2, hrun, ho2, hf2, hg2, hlt2⟩ := run_app (P := Try.prog) (w := wr.alloc (.cells #[.int .i64 b] 3)) (hO.fr ((Fr.refl Non wr).alloc _) (fun _ _ h => h)) 34 34 j0 _ 8 Try.underlying34 hj hj0 hj1 hj2 rfl (by omega) wr.heap.size 0 1 1 [.int .i64 b] rfl (by exact (Row.new' rfl).news) (fun u hu => by simp at hu; subst hu; rfl) (by omega) (by omega) (by unfold maxLen; omega)
        have HO := Lib.hid (And.intro ho2 (And.intro hf2 (And.intro hg2 (And.intro hg (And.intro hst hfr)))))
        obtain ⟨ao, cap0, e5, _⟩ := hO.form
        clear ho2 hf2 hg2 hO hg hst hfr hlt2
        go_wp2_with (at_builtin; refine wpList_app rfl (.tmp 26) (.tmp 36) _ rfl rfl rfl _ rfl hrun ?_)
        obtain ⟨ho2, hf2, hg2, hg, hst, hfr⟩ := HO.out
        refine ⟨Or.inr (Or.inr (Or.inl ⟨rfl, ?_, ?_, ?_⟩)), by simp [intOf]⟩
        · rw [hst, List.length_append]
          unfold ints at ho2 ⊢
          rw [List.map_append]
          exact ho2
        · intro q hq
          simp [Value.ownBlock] at hq
          subst hq
          rcases hg2 with h | h
          · exact hg _ h
          · simp at h; omega
        · exact Fr.then (D := Non) (by exact hfr.alloc _) hf2 (fun y hy hy' => absurd hy (by have := hg y hy'; omega))
      | false =>
        rw [hk, if_neg (by simp), List.append_nil] at hst
        have HO := Lib.hid (And.intro hO (And.intro hg (And.intro hst hfr)))
        clear hO hg hst hfr
        go_wp2_with fail
        obtain ⟨hO, hg, hst, hfr⟩ := HO.out
        refine ⟨Or.inr (Or.inr (Or.inl ⟨rfl, ?_, hg, hfr⟩)), by simp [intOf]⟩
        rw [hst]
        exact hO
    · have hix : ∀ W' : World, (Instr.index 176 (.agg #[.int .i64 sa, .int .i64 sb, .int .i64 sc]) (.int .i64 2)).run Try.prog W' = .ok (.int .i64 sc) W' := fun W' => run_index_arr Try.underlying176 Try.underlying151 rfl hk0' hk2' W' 2 (by omega) rfl
      have hiy : ∀ W' : World, (Instr.index 177 (.agg #[.int .i64 a, .int .i64 b, .int .i64 c]) (.int .i64 2)).run Try.prog W' = .ok (.int .i64 c) W' := fun W' => run_index_arr Try.underlying177 Try.underlying3 rfl hj hj1 W' 2 (by omega) rfl
      have hst : someS (F.take 3) = someS (F.take 2) ++ (if sc == 1 then [c] else []) := by
        rw [HF.out]; unfold someS
        cases h : (sc == 1) <;> simp [List.filter_cons, List.filter_append, h]
        all_goals (repeat' split) <;> simp_all
      obtain ⟨x0, x1, x2, x3, x4, xz⟩ := row5 (hfr.row HW.out.2 id)
      have hws := hfr.size
      have hwr : w.heap.size < wr.heap.size := by omega
      have hlen : (someS (F.take 2)).length ≤ 3 := by rw [HF.out]; unfold someS; rw [List.length_map]; exact Nat.le_trans (List.length_filter_le _ _) (by simp)
      cases hk : (sc == 1) with
      | true =>
        rw [hk, if_pos rfl] at hst
        obtain ⟨g, cap, w2, hrun, ho2, hf2, hg2, hlt2⟩ := run_app (P := Try.prog) (w := wr.alloc (.cells #[.int .i64 c] 3)) (hO.fr ((Fr.refl Non wr).alloc _) (fun _ _ h => h)) 34 34 j0 _ 8 Try.underlying34 hj hj0 hj1 hj2 rfl (by omega) wr.heap.size 0 1 1 [.int .i64 c] rfl (by exact (Row.new' rfl).news) (fun u hu => by simp at hu; subst hu; rfl) (by omega) (by omega) (by unfold maxLen; omega)
        have HO := Lib.hid (And.intro ho2 (And.intro hf2 (And.intro hg2 (And.intro hg (And.intro hst hfr)))))
        obtain ⟨ao, cap0, e5, _⟩ := hO.form
        clear ho2 hf2 hg2 hO hg hst hfr hlt2
        go_wp2_with (at_builtin; refine wpList_app rfl (.tmp 26) (.tmp 36) _ rfl rfl rfl _ rfl hrun ?_)
        obtain ⟨ho2, hf2, hg2, hg, hst, hfr⟩ := HO.out
        refine ⟨Or.inr (Or.inr (Or.inr ⟨rfl, ?_, ?_, ?_⟩)), by simp [intOf]⟩
        · rw [hst, List.length_append]
          unfold ints at ho2 ⊢
          rw [List.map_append]
          exact ho2
        · intro q hq
          simp [Value.ownBlock] at hq
          subst hq
          rcases hg2 with h | h
          · exact hg _ h
          · simp at h; omega
        · exact Fr.then (D := Non) (by exact hfr.alloc _) hf2 (fun y hy hy' => absurd hy (by have := hg y hy'; omega))
      | false =>
        rw [hk, if_neg (by simp), List.append_nil] at hst
        have HO := Lib.hid (And.intro hO (And.intro hg (And.intro hst hfr)))
        clear hO hg hst hfr
        go_wp2_with fail
        obtain ⟨hO, hg, hst, hfr⟩ := HO.out
        refine ⟨Or.inr (Or.inr (Or.inr ⟨rfl, ?_, hg, hfr⟩)), by simp [intOf]⟩
        rw [hst]
        exact hO
    · have hFF : F.take 3 = F := by rw [HF.out]; rfl
      rw [hFF] at hO
      have HO := Lib.hid (And.intro hO (And.intro hg hfr))
      clear hO hg hfr
      go_wp2_with fail
      go_ret
      obtain ⟨hO, hg, hfr⟩ := HO.out
      exact ⟨_, rfl, hO, fun g e => Nat.le_trans HW.out.1.size (hg g e), HW.out.1.trans hfr⟩

end Go.Proofs.Ytlbomnbpahmphaa

/- The plain law: the checker's marks come to an end. Condition: labels within the function. -/
namespace Go.Proofs.Ytlbomnbpahmphaa

theorem wrap32_nat (n : Int) : 0 ≤ IntKind.u32.wrap n ∧ IntKind.u32.wrap n < 4294967296 := by
  have := Int.emod_nonneg n (show (4294967296 : Int) ≠ 0 by decide)
  have := Int.emod_lt_of_pos n (show (0 : Int) < 4294967296 by decide)
  simp [IntKind.wrap, IntKind.signed, IntKind.bits]
  omega
def In32 (a : Int) : Prop := 0 ≤ a ∧ a < 4294967296
theorem andU_in (a b : Int) : In32 (andU a b) := wrap32_nat _
theorem orU_in (a b : Int) : In32 (orU a b) := wrap32_nat _
theorem shlU_in (r : Int) : In32 (shlU r) := ⟨Int.emod_nonneg _ (by decide), Int.emod_lt_of_pos _ (by decide)⟩
theorem wrap32_id {n : Int} (h0 : 0 ≤ n) (h1 : n < 4294967296) : IntKind.u32.wrap n = n := by
  simp [IntKind.wrap, IntKind.signed, IntKind.bits]
  omega
theorem andU_le {a : Int} (ha : In32 a) (b : Int) : andU a b ≤ a := by
  have h1 : (BitVec.ofInt 32 a).toNat = a.toNat := by
    rw [BitVec.toNat_ofInt]
    have := ha.1
    have := ha.2
    omega
  obtain ⟨m, hm⟩ : ∃ m : Nat, m = ((BitVec.ofInt 32 a) &&& (BitVec.ofInt 32 b)).toNat := ⟨_, rfl⟩
  have h2 : m ≤ a.toNat := by
    rw [hm, BitVec.toNat_and, h1]
    exact Nat.and_le_left
  have h3 : andU a b = IntKind.u32.wrap (m : Int) := by
    rw [hm]
    rfl
  have := ha.1
  have := ha.2
  rw [h3, wrap32_id (by omega) (by omega)]
  omega

def sumS (g : Nat → Nat) : Nat → Nat
  | 0 => 0
  | n + 1 => sumS g n + g n
theorem sumS_le {g g' : Nat → Nat} (h : ∀ i, g' i ≤ g i) (n : Nat) : sumS g' n ≤ sumS g n := by
  induction n with
  | zero => exact Nat.le_refl _
  | succ n ih => have := h n; simp only [sumS]; omega
theorem sumS_lt {g g' : Nat → Nat} (h : ∀ i, g' i ≤ g i) {j n : Nat} (hj : j < n) (hlt : g' j < g j) : sumS g' n < sumS g n := by
  induction n with
  | zero => omega
  | succ n ih =>
    simp only [sumS]
    by_cases e : j = n
    · subst e
      have := sumS_le h j
      omega
    · have := ih (by omega)
      have := h n
      omega
def bit1 (a i : Nat) : Nat := if a.testBit i then 1 else 0
def bitsOf (a : Nat) : Nat := sumS (bit1 a) 32
theorem bitsOf_le (a : Nat) : bitsOf a ≤ 32 := by
  have : ∀ n, sumS (bit1 a) n ≤ n := by
    intro n
    induction n with
    | zero => exact Nat.le_refl _
    | succ n ih =>
      simp only [sumS]
      have : bit1 a n ≤ 1 := by unfold bit1; split <;> omega
      omega
  exact this 32
theorem bits_lt {a : Int} (ha : In32 a) {b : Int} (hne : andU a b ≠ a) : bitsOf (andU a b).toNat < bitsOf a.toNat := by
  have h1 : (BitVec.ofInt 32 a).toNat = a.toNat := by
    rw [BitVec.toNat_ofInt]
    have := ha.1
    have := ha.2
    omega
  obtain ⟨m, hm⟩ : ∃ m : Nat, m = ((BitVec.ofInt 32 a) &&& (BitVec.ofInt 32 b)).toNat := ⟨_, rfl⟩
  have hm2 : m = a.toNat &&& (BitVec.ofInt 32 b).toNat := by rw [hm, BitVec.toNat_and, h1]
  have h2 : m ≤ a.toNat := by rw [hm2]; exact Nat.and_le_left
  have h3 : andU a b = (m : Int) := by
    have h4 : andU a b = IntKind.u32.wrap (m : Int) := by rw [hm]; rfl
    have := ha.1
    have := ha.2
    rw [h4, wrap32_id (by omega) (by omega)]
  rw [h3] at hne ⊢
  rw [Int.toNat_natCast]
  have hne2 : m ≠ a.toNat := fun e => hne (by have := ha.1; omega)
  have hle : ∀ i, bit1 m i ≤ bit1 a.toNat i := by
    intro i
    unfold bit1
    rw [hm2, Nat.testBit_and]
    cases a.toNat.testBit i <;> simp
    split <;> omega
  by_cases hex : ∃ i, i < 32 ∧ bit1 m i < bit1 a.toNat i
  · obtain ⟨i, hi, hlt⟩ := hex
    exact sumS_lt hle hi hlt
  · exfalso
    apply hne2
    apply Nat.eq_of_testBit_eq
    intro i
    by_cases hi : i < 32
    · have h5 : ¬ bit1 m i < bit1 a.toNat i := fun h => hex ⟨i, hi, h⟩
      have h6 := hle i
      unfold bit1 at h5 h6
      cases hx : m.testBit i <;> cases hy : a.toNat.testBit i <;> simp [hx, hy] at h5 h6 ⊢
    · have hb : a.toNat < 2 ^ i := Nat.lt_of_lt_of_le (show a.toNat < 2 ^ 32 by have := ha.1; have := ha.2; omega) (Nat.pow_le_pow_right (by omega) (by omega))
      rw [Nat.testBit_lt_two_pow hb, Nat.testBit_lt_two_pow (Nat.lt_of_le_of_lt h2 hb)]

def valS (W : List (Int × Int)) (n : Nat) : Nat := match evOf W (n : Int) with | some v => bitsOf v.toNat | none => 33
theorem evOf_cons (x : Int × Int) (l : List (Int × Int)) (k : Int) : evOf (x :: l) k = if x.1 == k then some x.2 else evOf l k := by
  unfold evOf
  rw [List.find?_cons]
  cases (x.1 == k) <;> rfl
theorem evOf_set (W : List (Int × Int)) (k v j : Int) : evOf (setS W k v) j = if j = k then some v else evOf W j := by
  induction W with
  | nil =>
    simp only [setS, evOf_cons]
    by_cases h : k = j
    · subst h; simp
    · simp [h, Ne.symm h]
  | cons x l ih =>
    simp only [setS]
    by_cases h : x.1 = k
    · subst h
      simp only [beq_self_eq_true, if_true, evOf_cons]
      by_cases h2 : x.1 = j
      · subst h2; simp
      · simp [h2, Ne.symm h2]
    · have h' : (x.1 == k) = false := beq_false_of_ne h
      simp only [h', Bool.false_eq_true, if_false, evOf_cons]
      by_cases h2 : x.1 = j
      · subst h2
        simp [h]
      · simp only [beq_false_of_ne h2, Bool.false_eq_true, if_false]
        exact ih
/-- What is still to be had. -/
def potS (n : Nat) (W : List (Int × Int)) (st : List Int) : Nat := 2 * sumS (valS W) n + st.length
structure MarksOk (n : Nat) (W : List (Int × Int)) (st : List Int) : Prop where
  val : ∀ k v, evOf W k = some v → In32 v
  st : ∀ a ∈ st, 0 ≤ a ∧ a < (n : Int)

theorem set_pot {n : Nat} {W : List (Int × Int)} {st : List Int} {k v : Int} (h : MarksOk n W st) (hk : 0 ≤ k ∧ k < (n : Int)) (hv : In32 v) (hlt : bitsOf v.toNat < valS W k.toNat) : potS n (setS W k v) (k :: st) + 1 ≤ potS n W st ∧ MarksOk n (setS W k v) (k :: st) := by
  obtain ⟨j, rfl⟩ := Int.eq_ofNat_of_zero_le hk.1
  have hj : j < n := by omega
  have hval : ∀ i, valS (setS W (j : Int) v) i = if i = j then bitsOf v.toNat else valS W i := by
    intro i
    unfold valS
    rw [evOf_set]
    by_cases e : i = j
    · subst e; simp
    · have : ¬ ((i : Int) = (j : Int)) := by omega
      simp [e, this]
  rw [Int.toNat_natCast] at hlt
  have h1 : sumS (valS (setS W (j : Int) v)) n < sumS (valS W) n := by
    refine sumS_lt (fun i => ?_) hj ?_
    · rw [hval]
      split
      · rename_i e; subst e; omega
      · exact Nat.le_refl _
    · rw [hval, if_pos rfl]; exact hlt
  refine ⟨by unfold potS; simp only [List.length_cons]; omega, ?_, ?_⟩
  · intro k2 v2 e
    rw [evOf_set] at e
    split at e
    · cases e; exact hv
    · exact h.val k2 v2 e
  · intro a ha
    rcases List.mem_cons.1 ha with rfl | ha
    · exact hk
    · exact h.st a ha

theorem meet_pot {n : Nat} {now : Int} (hnow : In32 now) : ∀ (l : List Int) (W : List (Int × Int)) (st : List Int), (∀ a ∈ l, 0 ≤ a ∧ a < (n : Int)) → MarksOk n W st → potS n (meetS W st now l).1 (meetS W st now l).2 ≤ potS n W st ∧ MarksOk n (meetS W st now l).1 (meetS W st now l).2
  | [], W, st, _, h => ⟨Nat.le_refl _, h⟩
  | a :: l, W, st, hl, h => by
    have ha := hl a List.mem_cons_self
    have hl' : ∀ b ∈ l, 0 ≤ b ∧ b < (n : Int) := fun b hb => hl b (List.mem_cons_of_mem _ hb)
    have hc : ((a.toNat : Nat) : Int) = a := by omega
    unfold meetS
    cases he : evOf W a with
    | some was =>
      simp only
      by_cases hb : andU was now = was
      · rw [if_pos (by simp [hb])]
        exact meet_pot hnow l W st hl' h
      · rw [if_neg (by simp [hb])]
        have hw := h.val a was he
        have hin := andU_in was now
        have hlt : bitsOf (andU was now).toNat < valS W a.toNat := by
          unfold valS
          rw [hc, he]
          exact bits_lt hw hb
        obtain ⟨p1, p2⟩ := set_pot h ha hin hlt
        obtain ⟨q1, q2⟩ := meet_pot hnow l _ _ hl' p2
        exact ⟨by omega, q2⟩
    | none =>
      simp only
      have hlt : bitsOf now.toNat < valS W a.toNat := by
        unfold valS
        rw [hc, he]
        have := bitsOf_le now.toNat
        simp only
        omega
      obtain ⟨p1, p2⟩ := set_pot h ha hnow hlt
      obtain ⟨q1, q2⟩ := meet_pot hnow l _ _ hl' p2
      exact ⟨by omega, q2⟩

theorem sumS_bound (W : List (Int × Int)) (n : Nat) : sumS (valS W) n ≤ n * 33 := by
  induction n with
  | zero => simp [sumS]
  | succ n ih =>
    simp only [sumS]
    have : valS W n ≤ 33 := by
      unfold valS
      cases he : evOf W (n : Int) with
      | some v => have := bitsOf_le v.toNat; simp only; omega
      | none => exact Nat.le_refl _
    omega
theorem waysF_cons (f : List In) (k : Nat) (W : List (Int × Int)) (at_ : Int) (st : List Int) : waysF f (k + 1) W (at_ :: st) =
    if (readsS (f.getD at_.toNat In.zero)).any (fun r => andU ((evOf W at_).getD 0) (shlU r) == 0) then false
    else waysF f k (meetS W st (nowS (f.getD at_.toNat In.zero) ((evOf W at_).getD 0)) (nextS (f.getD at_.toNat In.zero) at_)).1
      (meetS W st (nowS (f.getD at_.toNat In.zero) ((evOf W at_).getD 0)) (nextS (f.getD at_.toNat In.zero) at_)).2 := rfl
end Go.Proofs.Ytlbomnbpahmphaa
