/- Walks: the machine's arithmetic, and other small functions. No condition. -/
import Derived.Test.YtlbomnbpahmphaaSa05
import Derived.Test.YtlbomnbpahmphaaSa03
namespace Go.Proofs.Ytlbomnbpahmphaa
open Go.RowKit

def addS (a b : Int) : Int × Bool := (IntKind.i64.wrap (a + b), decide (IntKind.i64.wrap (a + b) < a) == decide (b < 0))
def subS (a b : Int) : Int × Bool := (IntKind.i64.wrap (a - b), decide (a < IntKind.i64.wrap (a - b)) == decide (b < 0))
def sizeS (a : Int) : Int := if a < 0 then IntKind.u64.wrap (-(IntKind.u64.wrap a)) else IntKind.u64.wrap a
def bitS (b : Bool) : Int := if b then 1 else 0

theorem bit_c (w : World) (b : Bool) : Calls Try.prog 94 #[.bool b] w fun e w' => e = .returned (.int .i64 (bitS b)) ∧ Fr Non w w' := by
  cases b
  all_goals go_enter Try.func94, Try.ntmps94
  all_goals go_wp2
  all_goals go_ret
  all_goals exact ⟨rfl, by exact (by repeat (first | exact Fr.refl _ _ | assumption | refine Fr.drewN ?_ _ | refine Fr.drew ?_ | refine Fr.drewl ?_ | refine Fr.drewNl ?_ _ | refine Fr.alloc ?_ _))⟩

theorem add_c (w : World) (a b : Int) : Calls Try.prog 105 #[.int .i64 a, .int .i64 b] w fun e w' => e = .returned (.tuple #[.int .i64 (addS a b).1, .bool (addS a b).2]) ∧ Fr Non w w' := by
  obtain ⟨s, hs⟩ : ∃ s, IntKind.i64.wrap (a + b) = s := ⟨_, rfl⟩
  unfold addS
  rw [hs]
  go_enter Try.func105, Try.ntmps105
  go_wp2
  go_ret2
  exact ⟨rfl, by exact (by repeat (first | exact Fr.refl _ _ | assumption | refine Fr.drewN ?_ _ | refine Fr.drew ?_ | refine Fr.drewl ?_ | refine Fr.drewNl ?_ _ | refine Fr.alloc ?_ _))⟩

theorem sub_c (w : World) (a b : Int) : Calls Try.prog 106 #[.int .i64 a, .int .i64 b] w fun e w' => e = .returned (.tuple #[.int .i64 (subS a b).1, .bool (subS a b).2]) ∧ Fr Non w w' := by
  obtain ⟨s, hs⟩ : ∃ s, IntKind.i64.wrap (a - b) = s := ⟨_, rfl⟩
  unfold subS
  rw [hs]
  go_enter Try.func106, Try.ntmps106
  go_wp2
  go_ret2
  exact ⟨rfl, by exact (by repeat (first | exact Fr.refl _ _ | assumption | refine Fr.drewN ?_ _ | refine Fr.drew ?_ | refine Fr.drewl ?_ | refine Fr.drewNl ?_ _ | refine Fr.alloc ?_ _))⟩

theorem size_c (w : World) (a : Int) : Calls Try.prog 110 #[.int .i64 a] w fun e w' => e = .returned (.int .u64 (sizeS a)) ∧ Fr Non w w' := by
  by_cases h : a < 0
  · have hd : decide (a < 0) = true := decide_eq_true h
    unfold sizeS
    rw [if_pos h]
    go_enter Try.func110, Try.ntmps110
    go_wp2
    go_ret
    exact ⟨rfl, by exact (by repeat (first | exact Fr.refl _ _ | assumption | refine Fr.drewN ?_ _ | refine Fr.drew ?_ | refine Fr.drewl ?_ | refine Fr.drewNl ?_ _ | refine Fr.alloc ?_ _))⟩
  · have hd : decide (a < 0) = false := decide_eq_false h
    unfold sizeS
    rw [if_neg h]
    go_enter Try.func110, Try.ntmps110
    go_wp2
    go_ret
    exact ⟨rfl, by exact (by repeat (first | exact Fr.refl _ _ | assumption | refine Fr.drewN ?_ _ | refine Fr.drew ?_ | refine Fr.drewl ?_ | refine Fr.drewNl ?_ _ | refine Fr.alloc ?_ _))⟩

/-- How an error comes out. -/
def errS (n : Int) : Option (Int × Int) := if n = 0 then none else some (if n = 10 then (5, 0) else (6, n))
/-- A result that lies in a block of its own; or none. -/
def Res (w : World) (lo : Nat) (v : Value) (r : Option (Int × Int)) : Prop :=
  (r = none ∧ v = .pointer none) ∨ ∃ b k n, r = some (k, n) ∧ v = .pointer (some ⟨b, 0, none⟩) ∧ Row w b 41 [.int .i64 k, .int .i64 n] ∧ lo ≤ b
theorem Res.fr {w w' : World} {lo : Nat} {v : Value} {r : Option (Int × Int)} {D : Nat → Prop} (h : Res w lo v r) (f : Fr D w w') (hd : ∀ x, D x → x < lo) : Res w' lo v r := by
  rcases h with h | ⟨b, k, n, h1, h2, h3, h4⟩
  · exact Or.inl h
  · exact Or.inr ⟨b, k, n, h1, h2, f.row h3 (fun hb => by have := hd b hb; omega), h4⟩

theorem failed_r (w : World) (n : Int) (hn : n ≠ 0) : Calls Try.prog 31 #[.int .i64 n] w fun e w' => ∃ v, e = .returned v ∧ Res w' w.heap.size v (errS n) ∧ Fr Non w w' := by
  refine (failed_c w n).mono ?_
  rintro e1 w1 ⟨b, rfl, hr, hg, hf⟩
  refine ⟨_, rfl, Or.inr ⟨b, _, _, ?_, rfl, hr, hg⟩, hf⟩
  unfold errS
  rw [if_neg hn]
  split <;> rfl

theorem checked_c (w : World) (n : Int) : Calls Try.prog 72 #[.int .i64 n] w fun e w' => ∃ v, e = .returned v ∧ Res w' w.heap.size v (errS n) ∧ Fr Non w w' := by
  by_cases h : n = 0
  · subst h
    obtain ⟨r, hr⟩ : ∃ r, r = errS 0 := ⟨_, rfl⟩
    rw [← hr]
    have hr2 := Lib.hid hr
    clear hr
    go_enter Try.func72, Try.ntmps72
    go_wp2
    go_ret
    exact ⟨_, rfl, Or.inl ⟨hr2.out, rfl⟩, by exact (by repeat (first | exact Fr.refl _ _ | assumption | refine Fr.drewN ?_ _ | refine Fr.drew ?_ | refine Fr.drewl ?_ | refine Fr.drewNl ?_ _ | refine Fr.alloc ?_ _))⟩
  · have hb : (n == 0) = false := beq_false_of_ne h
    have hF := Lib.hid fun w1 => failed_r w1 n h
    generalize errS n = r at *
    go_enter Try.func72, Try.ntmps72
    go_wp2_with fail
    refine (hF.out w).mono ?_
    rintro e1 w1 ⟨v, rfl, hr, hf⟩
    have HH := Lib.hid (And.intro hr hf)
    clear hr hf
    go_wp2
    go_ret
    obtain ⟨hr, hf⟩ := HH.out
    exact ⟨_, rfl, hr, hf⟩

/-- Two words: are both numbers? -/
theorem numbers_c (w : World) (b c : Nat) (x y : Wd) (hc : ∀ (j : Nat) (u : Value), (flat [x, y])[j]? = some u → w.cell? ⟨b, 0 + j, none⟩ = some u) :
    Calls Try.prog 93 #[.slice (some ⟨b, 0, none⟩) 2 c] w fun e w' => e = .returned (.bool (!x.p && !y.p)) ∧ Fr Non w w' := by
  obtain ⟨xp, xa, xn⟩ := x
  obtain ⟨yp, ya, yn⟩ := y
  have x0 := hc 0 _ rfl
  have x1 := hc 1 _ rfl
  have x2 := hc 2 _ rfl
  have y0 := hc 3 _ rfl
  have y1 := hc 4 _ rfl
  have y2 := hc 5 _ rfl
  simp only [Nat.zero_add] at x0 x1 x2 y0 y1 y2
  have HX := Lib.hid (And.intro x0 (And.intro x1 (And.intro x2 (And.intro y0 (And.intro y1 y2)))))
  clear hc x0 x1 x2 y0 y1 y2
  go_enter Try.func93, Try.ntmps93
  go_wp2_with fail
  go_loopw [7] (fun v7 wr => ((v7 = .int .i64 0) ∨ (v7 = .int .i64 1 ∧ xp = false) ∨ (v7 = .int .i64 2 ∧ xp = false ∧ yp = false)) ∧ Fr Non w wr) (fun v7 _ => 2 - (intOf v7).toNat)
  case atStart => exact ⟨Or.inl rfl, Fr.refl _ _⟩
  case round =>
    obtain ⟨hrel, hfr⟩ := hrel
    rcases hrel with rfl | ⟨rfl, rfl⟩ | ⟨rfl, rfl, rfl⟩
    · have x0 := hfr.cell HX.out.1 id
      have x1 := hfr.cell HX.out.2.1 id
      have x2 := hfr.cell HX.out.2.2.1 id
      cases xp
      · go_wp2_with fail
        exact ⟨⟨by simp, by exact (by repeat (first | exact Fr.refl _ _ | assumption | refine Fr.drewN ?_ _ | refine Fr.drew ?_ | refine Fr.drewl ?_ | refine Fr.drewNl ?_ _ | refine Fr.alloc ?_ _))⟩, by simp [intOf]⟩
      · go_wp2_with fail
        go_ret
        exact ⟨rfl, by exact (by repeat (first | exact Fr.refl _ _ | assumption | refine Fr.drewN ?_ _ | refine Fr.drew ?_ | refine Fr.drewl ?_ | refine Fr.drewNl ?_ _ | refine Fr.alloc ?_ _))⟩
    · have y0 := hfr.cell HX.out.2.2.2.1 id
      have y1 := hfr.cell HX.out.2.2.2.2.1 id
      have y2 := hfr.cell HX.out.2.2.2.2.2 id
      cases yp
      · go_wp2_with fail
        exact ⟨⟨by simp, by exact (by repeat (first | exact Fr.refl _ _ | assumption | refine Fr.drewN ?_ _ | refine Fr.drew ?_ | refine Fr.drewl ?_ | refine Fr.drewNl ?_ _ | refine Fr.alloc ?_ _))⟩, by simp [intOf]⟩
      · go_wp2_with fail
        go_ret
        exact ⟨rfl, by exact (by repeat (first | exact Fr.refl _ _ | assumption | refine Fr.drewN ?_ _ | refine Fr.drew ?_ | refine Fr.drewl ?_ | refine Fr.drewNl ?_ _ | refine Fr.alloc ?_ _))⟩
    · go_wp2_with fail
      go_ret
      exact ⟨rfl, by exact (by repeat (first | exact Fr.refl _ _ | assumption | refine Fr.drewN ?_ _ | refine Fr.drew ?_ | refine Fr.drewl ?_ | refine Fr.drewNl ?_ _ | refine Fr.alloc ?_ _))⟩

theorem wrapU_nat (n : Int) : ∃ k : Nat, IntKind.u64.wrap n = k ∧ k < 18446744073709551616 := by
  have h1 : 0 ≤ IntKind.u64.wrap n ∧ IntKind.u64.wrap n < 18446744073709551616 := by
    have := Int.emod_nonneg n (show (18446744073709551616 : Int) ≠ 0 by decide)
    have := Int.emod_lt_of_pos n (show (0 : Int) < 18446744073709551616 by decide)
    simp [IntKind.wrap, IntKind.signed, IntKind.bits]
    omega
  exact ⟨(IntKind.u64.wrap n).toNat, by omega, by omega⟩
theorem sizeS_nat (a : Int) : ∃ k : Nat, sizeS a = k ∧ k < 18446744073709551616 := by
  unfold sizeS
  split <;> exact wrapU_nat _

def mulS (a b : Int) : Int × Bool :=
  let p := (sizeS a).toNat * (sizeS b).toNat
  let high : Int := ((p / 18446744073709551616 : Nat) : Int)
  let low : Int := ((p % 18446744073709551616 : Nat) : Int)
  if decide (a < 0) != decide (b < 0) then (IntKind.i64.wrap (IntKind.u64.wrap (-low)), high == 0 && decide (low ≤ 9223372036854775808)) else (IntKind.i64.wrap low, high == 0 && decide (low ≤ 9223372036854775807))

set_option maxRecDepth 100000 in
set_option maxHeartbeats 400000 in
theorem mul_c (w : World) (a b : Int) : Calls Try.prog 107 #[.int .i64 a, .int .i64 b] w fun e w' => e = .returned (.tuple #[.int .i64 (mulS a b).1, .bool (mulS a b).2]) ∧ Fr Non w w' := by
  obtain ⟨x, hx, hx2⟩ := sizeS_nat a
  obtain ⟨y, hy, hy2⟩ := sizeS_nat b
  obtain ⟨R, hR⟩ : ∃ R, R = mulS a b := ⟨_, rfl⟩
  rw [← hR]
  have hR2 := hR
  unfold mulS at hR2
  simp only [hx, hy, Int.toNat_natCast] at hR2
  have HR := Lib.hid hR2
  have hS := Lib.hid fun w1 => size_c w1 a
  have hT := Lib.hid fun w1 => size_c w1 b
  have hM := Lib.hid fun w1 => Try.bits_Mul64 x y hx2 hy2 w1
  rw [hx] at hS
  rw [hy] at hT
  clear hR hR2 hx hy hx2 hy2
  generalize hh : x * y / 18446744073709551616 = hi at *
  generalize hl : x * y % 18446744073709551616 = lo at *
  clear hh hl
  have hz : (hi = 0) ∨ (((hi : Int) == 0) = false) := by
    by_cases h : hi = 0
    · exact Or.inl h
    · exact Or.inr (beq_false_of_ne (by omega))
  have hab : ((decide (a < 0) = true) ∨ (decide (a < 0) = false)) ∧ ((decide (b < 0) = true) ∨ (decide (b < 0) = false)) := by
    exact ⟨by cases decide (a < 0) <;> simp, by cases decide (b < 0) <;> simp⟩
  obtain ⟨ha | ha, hb | hb⟩ := hab
  all_goals rcases hz with rfl | hz
  all_goals go_enter Try.func107, Try.ntmps107
  all_goals go_wp2_with fail
  all_goals refine (hS.out w).mono ?_
  all_goals rintro e1 w1 ⟨rfl, hf1⟩
  all_goals go_wp2_with fail
  all_goals refine (hT.out w1).mono ?_
  all_goals rintro e2 w2 ⟨rfl, hf2⟩
  all_goals go_wp2_with fail
  all_goals refine (hM.out w2).mono ?_
  all_goals rintro e3 w3 ⟨rfl, rfl⟩
  all_goals have hff : Fr Non w w3 := hf1.trans hf2
  all_goals clear hf1 hf2
  all_goals go_wp2_with fail
  all_goals go_ret2
  all_goals refine ⟨?_, by exact (by repeat (first | exact Fr.refl _ _ | assumption | refine Fr.drewN ?_ _ | refine Fr.drew ?_ | refine Fr.drewl ?_ | refine Fr.drewNl ?_ _ | refine Fr.alloc ?_ _))⟩
  all_goals rw [HR.out]
  all_goals first | simp only [ha, hb, hz, IntWalk.i64_left] | simp only [ha, hb, IntWalk.i64_left]
  all_goals simp

/-- An operation of two numbers: a sum, a difference, or else a product. -/
def reckonS (op a b : Int) : Int × Bool := if op = 8 then addS a b else if op = 9 then subS a b else mulS a b
theorem reckon_c (w : World) (op a b : Int) : Calls Try.prog 95 #[.int .i64 op, .int .i64 a, .int .i64 b] w fun e w' => e = .returned (.tuple #[.int .i64 (reckonS op a b).1, .bool (reckonS op a b).2]) ∧ Fr Non w w' := by
  unfold reckonS
  have hA := Lib.hid fun w1 => add_c w1 a b
  have hB := Lib.hid fun w1 => sub_c w1 a b
  have hC := Lib.hid fun w1 => mul_c w1 a b
  by_cases h8 : op = 8
  · subst h8
    rw [if_pos rfl]
    generalize addS a b = R at *
    go_enter Try.func95, Try.ntmps95
    go_wp2_with fail
    refine (hA.out w).mono ?_
    rintro e1 w1 ⟨rfl, hf⟩
    go_wp2_with fail
    go_ret2
    exact ⟨rfl, by exact (by repeat (first | exact Fr.refl _ _ | assumption | refine Fr.drewN ?_ _ | refine Fr.drew ?_ | refine Fr.drewl ?_ | refine Fr.drewNl ?_ _ | refine Fr.alloc ?_ _))⟩
  · rw [if_neg h8]
    have h8' : (op == 8) = false := beq_false_of_ne h8
    by_cases h9 : op = 9
    · subst h9
      rw [if_pos rfl]
      generalize subS a b = R at *
      go_enter Try.func95, Try.ntmps95
      go_wp2_with fail
      refine (hB.out w).mono ?_
      rintro e1 w1 ⟨rfl, hf⟩
      go_wp2_with fail
      go_ret2
      exact ⟨rfl, by exact (by repeat (first | exact Fr.refl _ _ | assumption | refine Fr.drewN ?_ _ | refine Fr.drew ?_ | refine Fr.drewl ?_ | refine Fr.drewNl ?_ _ | refine Fr.alloc ?_ _))⟩
    · rw [if_neg h9]
      have h9' : (op == 9) = false := beq_false_of_ne h9
      generalize mulS a b = R at *
      go_enter Try.func95, Try.ntmps95
      go_wp2_with fail
      refine (hC.out w).mono ?_
      rintro e1 w1 ⟨rfl, hf⟩
      go_wp2_with fail
      go_ret2
      exact ⟨rfl, by exact (by repeat (first | exact Fr.refl _ _ | assumption | refine Fr.drewN ?_ _ | refine Fr.drew ?_ | refine Fr.drewl ?_ | refine Fr.drewNl ?_ _ | refine Fr.alloc ?_ _))⟩

end Go.Proofs.Ytlbomnbpahmphaa

/- Walks: the driver's 'tell'. Condition: the driver's trace is a row of its own. -/
namespace Go.Proofs.Ytlbomnbpahmphaa
open Go.RowKit

theorem Try.infoEvent : (Try.prog.info? 63).map (fun i => (i.zero, i.size, i.bytes)) = some (some (.agg #[.int .i64 0, .int .i64 0, .int .i64 0, .int .i64 0]), 4, 32) := by kernel_rfl

structure Ev where
  kind : Int
  task : Int
  a : Int
  n : Int
def Ev.cs (e : Ev) : List Value := [.int .i64 e.kind, .int .i64 e.task, .int .i64 e.a, .int .i64 e.n]
def evs (l : List Ev) : List Value := l.flatMap Ev.cs
theorem evs_len (l : List Ev) : (evs l).length = l.length * 4 := by
  induction l with
  | nil => rfl
  | cons x l ih => simp only [evs, List.flatMap_cons, List.length_append, List.length_cons] at *; rw [ih]; simp [Ev.cs]; omega
theorem evs_append (l m : List Ev) : evs (l ++ m) = evs l ++ evs m := by simp [evs]

set_option maxRecDepth 100000 in
theorem tell_c (w : World) (d : Nat) (f0 f1 f2 f3 f4 tasks queue trace over : Value) (n : Nat) (es : List Ev) (hd : Row w d 107 [f0, f1, f2, f3, f4, tasks, queue, trace, over])
    (ht : Own w trace 63 4 n (evs es)) (sb so m c : Nat) (l : List Ev) (hl : l.length = m) (hm : 0 < m) (hc : ∀ j u, (evs l)[j]? = some u → w.cell? ⟨sb, so + j, none⟩ = some u) (hb : n + m ≤ 1000000000000) :
    Calls Try.prog 46 #[.pointer (some ⟨d, 0, none⟩), .slice (some ⟨sb, so, none⟩) m c] w fun e w' => e = .returned (.tuple #[]) ∧ ∃ trace', Row w' d 107 [f0, f1, f2, f3, f4, tasks, queue, trace', over] ∧
      Own w' trace' 63 4 (n + m) (evs (es ++ l)) ∧ (∀ g, trace'.ownBlock = some g → trace.ownBlock = some g ∨ w.heap.size ≤ g) ∧ Fr (fun x => x = d ∨ trace.ownBlock = some x) w w' := by
  obtain ⟨i0, hi, hz0, hz1, hz2⟩ := info_parts Try.infoEvent
  have c7 := hd.cell (o := 7) rfl
  have fz := hd.frozen
  have hlt := hd.lt
  have hne := ht.ne hd (by decide)
  obtain ⟨g, cap', w1, hrun, ho, hf, hg, hglt⟩ := run_app (P := Try.prog) (w := w) ht 48 48 i0 _ 32 Try.underlying48 hi hz0 hz1 hz2 rfl (by omega) sb so m c (evs l) (by rw [evs_len, hl]) hc
    (fun u hu => by simp only [evs, List.mem_flatMap] at hu; obtain ⟨e, _, he⟩ := hu; simp only [Ev.cs, List.mem_cons, List.not_mem_nil, or_false] at he; rcases he with rfl | rfl | rfl | rfl <;> rfl) hm (by omega) (by unfold maxLen; omega)
  have hd1 := hf.row hd hne
  have fz1 := hd1.frozen
  have c71 := hd1.cell (o := 7) rfl
  have HH := Lib.hid (And.intro hd1 (And.intro ho (And.intro hf (And.intro hg hne))))
  go_enter Try.func46, Try.ntmps46
  clear hd1 ho hf hg
  go_wp2_with (at_builtin; refine wpList_app rfl (.tmp 8) (.tmp 9) _ rfl rfl rfl _ rfl hrun ?_)
  obtain ⟨hd1, ho, hf, hg, hne⟩ := HH.out
  refine bodyPost_end (results_none rfl _ _ _) rfl ?_
  refine ⟨rfl, _, hd1.set_same 7 _, ?_, ?_, ?_⟩
  · rw [evs_append]
    exact ho.fr ((Fr.refl (fun x => x = d) w1).setCell (Or.inl rfl) _) (fun g' hg' e => by simp [Value.ownBlock] at hg'; subst hg' e; exact ho.ne hd1 (by decide) rfl)
  · intro g' hg'
    simp [Value.ownBlock] at hg'
    subst hg'
    rcases hg with hg | hg
    · exact Or.inl hg
    · exact Or.inr (Nat.le_of_eq hg.symm)
  · exact (hf.mono (D' := fun x => x = d ∨ trace.ownBlock = some x) fun b _ hb => Or.inr hb).setCell (a := ⟨d, 7, none⟩) (Or.inl (Or.inl rfl)) _

end Go.Proofs.Ytlbomnbpahmphaa

/- What the machine computes, as plain Lean: no program in sight. No condition. -/
namespace Go.Proofs.Ytlbomnbpahmphaa

/-- An instruction. -/
structure In where
  op : Int
  a : Int
  b : Int
  c : Int
  l : List Int
/-- A coroutine: which functions go on and cancel, its words, its arguments. -/
structure Cr where
  name : ByteArray
  resume : Int
  cancel : Int
  words : Int
  args : Int
structure Pr where
  funs : List (List In)
  cos : List Cr
/-- A function that runs. -/
structure Cl where
  fn : List In
  at_ : Int
  regs : List Wd
  frame : Wd
  role : Int
  into : Int
  label : Int
/-- A machine; the stack's top first. -/
structure St where
  mem : Mem
  ev : List (Int × Int)
  told : List Ev
  stack : List Cl
  task : Int
  fuel : Int

abbrev Out := Option (Int × Int)

def num (n : Int) : Wd := ⟨false, 0, n⟩
def offS (p : Wd) (n : Int) : Wd := if p.p then ⟨true, p.a, IntKind.i64.wrap (p.n + n)⟩ else p
def moffS (p : Wd) (n : Int) : Wd × Int := if p.p then (⟨true, p.a, IntKind.i64.wrap (p.n + n)⟩, 0) else (Wd.zero, 11)
def In.zero : In := ⟨0, 0, 0, 0, []⟩
def Cr.zero : Cr := ⟨⟨#[]⟩, 0, 0, 0, 0⟩
def Cl.new (p : Wd) (role into label : Int) : Cl := ⟨[], 0, List.replicate 16 Wd.zero, p, role, into, label⟩
def Cl.reg (c : Cl) (i : Int) : Wd := c.regs.getD i.toNat Wd.zero
def Cl.put (c : Cl) (i : Int) (x : Wd) : Cl := { c with regs := c.regs.set i.toNat x }

def Mem.word (M : Mem) (p : Wd) : Int × Int := if (M.load p).2 ≠ 0 then (0, (M.load p).2) else if (M.load p).1.p then (0, 11) else ((M.load p).1.n, 0)
def Pr.co (P : Pr) (n : Int) : Cr := P.cos.getD n.toNat Cr.zero
def Pr.fn (P : Pr) (n : Int) : List In := P.funs.getD n.toNat []

/-- A frame's state, its coroutine, and what is wrong. -/
def stateS (P : Pr) (M : Mem) (p : Wd) : Int × Cr × Int :=
  if (M.word (offS p 0)).2 ≠ 0 then (0, Cr.zero, (M.word (offS p 0)).2)
  else if (M.word (offS p 2)).2 ≠ 0 then (0, Cr.zero, (M.word (offS p 2)).2)
  else if (M.word (offS p 2)).1 < 0 ∨ (P.cos.length : Int) ≤ (M.word (offS p 2)).1 then (0, Cr.zero, 30)
  else ((M.word (offS p 0)).1, P.co (M.word (offS p 2)).1, 0)

def frameS (P : Pr) (M : Mem) (co : Int) : Mem × Wd × Int :=
  if (M.alloc (P.co co).words).2.2 ≠ 0 then ((M.alloc (P.co co).words).1, Wd.zero, (M.alloc (P.co co).words).2.2)
  else ((((M.alloc (P.co co).words).1.store (offS (M.alloc (P.co co).words).2.1 0) (num 0)).1.store (offS (M.alloc (P.co co).words).2.1 2) (num co)).1, (M.alloc (P.co co).words).2.1, 0)

def argsS (M : Mem) (p : Wd) : Nat → List Int → Mem
  | _, [] => M
  | i, n :: l => argsS (M.store (offS p (3 + i)) (num n)).1 p (i + 1) l

def startS (P : Pr) (S : St) (co : Int) (args : List Int) : St × Wd × Int × Int :=
  if co < 0 ∨ (P.cos.length : Int) ≤ co ∨ (args.length : Int) ≠ (P.co co).args then (S, Wd.zero, 6, 1)
  else if (frameS P S.mem co).2.2 ≠ 0 then ({ S with mem := (frameS P S.mem co).1 }, Wd.zero, (errS (frameS P S.mem co).2.2).getD (0, 0))
  else ({ S with mem := argsS (frameS P S.mem co).1 (frameS P S.mem co).2.1 0 args }, (frameS P S.mem co).2.1, 2, 0)

def St.top (S : St) : Cl := S.stack.headD (Cl.new Wd.zero 0 0 0)
def St.setTop (S : St) (c : Cl) : St := { S with stack := c :: S.stack.tail }
def St.push (P : Pr) (S : St) (n : Int) (c : Cl) : St := { S with stack := { c with fn := P.fn n } :: S.stack }
def St.tell (S : St) (k a n : Int) : St := { S with told := S.told ++ [⟨k, S.task, a, n⟩] }

def doneS (S : St) (c : Cl) : Out × St :=
  if S.stack = [] then (some (2, 0), S) else if c.role = 1 then (none, S.setTop (S.top.put c.into (num 0))) else (none, S)
def abortedS (S : St) (c : Cl) : Out × St :=
  if S.stack = [] then (some (3, 0), S) else (none, S.setTop { S.top with at_ := c.label })
def goOnS (P : Pr) (S : St) (p : Wd) (c : Cl) : Out × St :=
  if (stateS P S.mem p).2.2 ≠ 0 then (errS (stateS P S.mem p).2.2, S)
  else if (stateS P S.mem p).1 = -1 then doneS S { c with frame := p }
  else if (stateS P S.mem p).1 = -2 then abortedS S { c with frame := p }
  else (none, S.push P (stateS P S.mem p).2.1.resume { c with frame := p })
/-- Out to what steps, or polls from outside. -/
def suspS (k n : Int) (S : St) : List Cl → Out × St
  | [] => (some (k, n), { S with stack := [] })
  | c :: l => if c.role ≠ 1 ∨ l = [] then suspS k n S l else
      (none, (if k = 0 then { S with stack := l }.tell 5 0 n else { S with stack := l }).setTop ((St.top { S with stack := l }).put c.into (num 1)))
def freedS (S : St) (p : Wd) : Out × St :=
  if (S.mem.free p).2 ≠ 0 then (errS (S.mem.free p).2, { S with mem := (S.mem.free p).1 })
  else if S.stack = [] then (some (2, 0), { S with mem := (S.mem.free p).1 }) else (none, { S with mem := (S.mem.free p).1 })
def stopS (P : Pr) (S : St) (p : Wd) : Out × St :=
  if (stateS P S.mem p).2.2 ≠ 0 then (errS (stateS P S.mem p).2.2, S)
  else if (stateS P S.mem p).1 < 0 then freedS S p
  else (none, S.push P (stateS P S.mem p).2.1.cancel (Cl.new p 2 0 0))

/-- What is done with words: the memory, the call, and what went wrong. -/
def wordsS (P : Pr) (M : Mem) (c : Cl) (x : In) : Mem × Cl × Int :=
  if x.op = 0 then (M, c.put x.a (num x.b), 0)
  else if x.op = 1 then (M, c.put x.a (offS c.frame x.b), 0)
  else if x.op = 2 then (M, c.put x.a (moffS (c.reg x.b) x.c).1, (moffS (c.reg x.b) x.c).2)
  else if x.op = 3 then (M, c.put x.a (M.load (c.reg x.b)).1, (M.load (c.reg x.b)).2)
  else if x.op = 4 then ((M.store (c.reg x.a) (c.reg x.b)).1, c, (M.store (c.reg x.a) (c.reg x.b)).2)
  else if x.op = 5 then ((M.copy (c.reg x.a) (c.reg x.b) x.c).1, c, (M.copy (c.reg x.a) (c.reg x.b) x.c).2)
  else if x.op = 6 then (if (M.copy (c.reg x.a) (c.reg x.b) x.c).2 ≠ 0 then ((M.copy (c.reg x.a) (c.reg x.b) x.c).1, c, (M.copy (c.reg x.a) (c.reg x.b) x.c).2)
    else (((M.copy (c.reg x.a) (c.reg x.b) x.c).1.clear (c.reg x.b) x.c).1, c, ((M.copy (c.reg x.a) (c.reg x.b) x.c).1.clear (c.reg x.b) x.c).2))
  else if x.op = 7 then ((M.clear (c.reg x.a) x.c).1, c, (M.clear (c.reg x.a) x.c).2)
  else if x.op = 16 then ((M.alloc x.c).1, c.put x.a (M.alloc x.c).2.1, (M.alloc x.c).2.2)
  else if x.op = 17 then ((M.free (c.reg x.a)).1, c, (M.free (c.reg x.a)).2)
  else if x.op = 22 then ((frameS P M x.b).1, c.put x.a (frameS P M x.b).2.1, (frameS P M x.b).2.2)
  else (M, c, 0)

def In.lab (x : In) (i : Int) : Int := x.l.getD i.toNat 0
def goesS (c : Cl) (x : In) : Cl × Int :=
  if (c.reg x.a).p then (c, 11)
  else if x.op = 14 ∧ (c.reg x.a).n ≠ 0 then ({ c with at_ := x.lab 0 }, 0)
  else if x.op = 14 then (c, 0)
  else if (c.reg x.a).n < 0 ∨ (x.l.length : Int) ≤ (c.reg x.a).n then (c, 31)
  else ({ c with at_ := x.lab (c.reg x.a).n }, 0)
def reckonsS (c : Cl) (x : In) : Cl × Int :=
  if x.op = 13 then ({ c with at_ := x.lab 0 }, 0)
  else if x.op = 14 ∨ x.op = 15 then goesS c x
  else if (c.reg x.b).p ∨ (c.reg x.c).p then (c, 11)
  else if x.op = 11 then (c.put x.a (num (bitS (decide ((c.reg x.b).n < (c.reg x.c).n)))), 0)
  else if x.op = 12 then (c.put x.a (num (bitS ((c.reg x.b).n == (c.reg x.c).n))), 0)
  else if (reckonS x.op (c.reg x.b).n (c.reg x.c).n).2 then (c.put x.a (num (reckonS x.op (c.reg x.b).n (c.reg x.c).n).1), 0)
  else ({ c with at_ := x.lab 0 }, 0)
def evOf (l : List (Int × Int)) (k : Int) : Option Int := (l.find? fun e => e.1 == k).map (·.2)
def outsideS (S : St) (c : Cl) (x : In) : Out × St :=
  if (c.reg (if x.op = 21 then x.b else x.a)).p then (errS 11, S)
  else if x.op = 18 then (none, S.tell 2 0 (c.reg x.a).n)
  else if x.op = 19 then (none, S.tell 3 x.b (c.reg x.a).n)
  else if x.op = 20 then suspS 0 (c.reg x.a).n S S.stack
  else match evOf S.ev (c.reg x.b).n with
    | none => suspS 1 (c.reg x.b).n S S.stack
    | some n => (none, S.setTop (c.put x.a (num n)))
def endsS (S : St) (x : In) : Out × St :=
  let r := S.mem.store (offS S.top.frame 0) (num (if x.op = 28 then -2 else -1))
  if r.2 ≠ 0 then (errS r.2, { S with mem := r.1 })
  else if x.op = 28 then abortedS { S with mem := r.1, stack := S.stack.tail } S.top
  else doneS { S with mem := r.1, stack := S.stack.tail } S.top
def callsS (P : Pr) (S : St) (c : Cl) (x : In) : Out × St :=
  if x.op = 23 then goOnS P S (c.reg x.a) (Cl.new Wd.zero 0 0 (x.lab 0))
  else if x.op = 24 then goOnS P S (c.reg x.b) (Cl.new Wd.zero 1 x.a (x.lab 0))
  else if x.op = 25 then stopS P S (c.reg x.a)
  else if x.op = 26 then (none, S.push P x.b ((Cl.new Wd.zero 3 0 0).put 0 (c.reg x.a)))
  else if x.op = 27 ∨ x.op = 28 then endsS S x
  else if c.role = 2 then freedS { S with stack := S.stack.tail } c.frame
  else (none, { S with stack := S.stack.tail })

/-- An instruction of the call that runs. -/
def stepS (P : Pr) (S : St) : Out × St :=
  let x := S.top.fn.getD S.top.at_.toNat In.zero
  let c := { S.top with at_ := S.top.at_ + 1 }
  if x.op ≤ 7 ∨ x.op = 16 ∨ x.op = 17 ∨ x.op = 22 then (errS (wordsS P S.mem c x).2.2, { S with mem := (wordsS P S.mem c x).1 }.setTop (wordsS P S.mem c x).2.1)
  else if x.op ≤ 15 then (errS (reckonsS c x).2, S.setTop (reckonsS c x).1)
  else if 18 ≤ x.op ∧ x.op ≤ 21 then outsideS (S.setTop c) c x
  else callsS P (S.setTop c) c x

def runS (P : Pr) : Nat → Out → St → (Int × Int) × St
  | _, some r, S => (r, S)
  | 0, none, S => ((4, 0), S)
  | f + 1, none, S => runS P f (stepS P { S with fuel := f }).1 (stepS P { S with fuel := f }).2
def St.begin (S : St) (task fuel : Int) : St := { S with stack := [], task := task, fuel := fuel }
def pollS (P : Pr) (S : St) (p : Wd) (task fuel : Int) : (Int × Int) × St :=
  let g := goOnS P (S.begin task fuel) p (Cl.new Wd.zero 0 0 0)
  let r := runS P fuel.toNat g.1 g.2
  if r.1.1 = 2 then (if (r.2.mem.word (offS p 1)).2 ≠ 0 then ((errS (r.2.mem.word (offS p 1)).2).getD (0, 0), r.2) else ((2, (r.2.mem.word (offS p 1)).1), r.2)) else r
def cancelS (P : Pr) (S : St) (p : Wd) (task fuel : Int) : (Int × Int) × St :=
  let g := stopS P (S.begin task fuel) p
  runS P fuel.toNat g.1 g.2
def completeS (S : St) (k n : Int) : St := if (evOf S.ev k).isSome then S else { S with ev := S.ev ++ [(k, n)] }

end Go.Proofs.Ytlbomnbpahmphaa

/- Walks: the machine's 'word', 'top', 'begin'. Conditions: the machine's cells that are read. -/
namespace Go.Proofs.Ytlbomnbpahmphaa
open Go.RowKit

set_option maxRecDepth 100000 in
set_option maxHeartbeats 400000 in
theorem word_c {D : Nat → Prop} {w : World} {m mb : Nat} {M : Mem} (h2 : w.cell? ⟨m, 2, none⟩ = some (.pointer (some ⟨mb, 0, none⟩))) (h : MI D w mb M) (p : Bool) (a n : Int) :
    Calls Try.prog 38 #[.pointer (some ⟨m, 0, none⟩), .agg #[.bool p, .int .i64 a, .int .i64 n]] w fun e w' => e = .returned (.tuple #[.int .i64 (M.word ⟨p, a, n⟩).1, .int .i64 (M.word ⟨p, a, n⟩).2]) ∧ Fr Non w w' := by
  have hL := Lib.hid fun w1 (h1 : Fr Non w w1) => load_i (h.frN h1) p a n
  unfold Mem.word
  generalize M.load ⟨p, a, n⟩ = L at *
  obtain ⟨⟨xp, xa, xn⟩, er⟩ := L
  simp only at hL ⊢
  have hm := World.block_lt_of_cell? w _ h2
  have hR : (er = 0 ∧ (er == 0) = true) ∨ (er ≠ 0 ∧ (er == 0) = false) := by by_cases h : er = 0 <;> simp [h]
  clear h
  obtain ⟨R, hR2⟩ : ∃ R : Int × Int, R = (if er ≠ 0 then (0, er) else if xp = true then (0, 11) else (xn, 0)) := ⟨_, rfl⟩
  rw [← hR2]
  have HR := Lib.hid hR2
  clear hR2
  go_enter Try.func38, Try.ntmps38
  go_wp2_with fail
  have hb1 : Row (w.alloc (.cells #[.bool p, .int .i64 a, .int .i64 n] 38)) w.heap.size 38 [.bool p, .int .i64 a, .int .i64 n] := Row.new' rfl
  have hf0 : Fr Non w (w.alloc (.cells #[.bool p, .int .i64 a, .int .i64 n] 38)) := by exact (by repeat (first | exact Fr.refl _ _ | assumption | refine Fr.drewN ?_ _ | refine Fr.drew ?_ | refine Fr.drewl ?_ | refine Fr.drewNl ?_ _ | refine Fr.alloc ?_ _))
  have hs : (w.alloc (.cells #[.bool p, .int .i64 a, .int .i64 n] 38)).heap.size = w.heap.size + 1 := by simp
  have k2 := hf0.cell h2 id
  generalize w.alloc (.cells #[.bool p, .int .i64 a, .int .i64 n] 38) = W at *
  obtain ⟨q0, q1, q2, qz⟩ := row3 hb1
  have hlt := hb1.lt
  have HF := Lib.hid hf0
  clear hf0 hb1
  have hmW : m < W.heap.size := by omega
  have cW := @Mix.cls_drew W [m, w.heap.size]
  refine Mix.wp_region_alt [3, 4] [(0, 0), (0, 1), (0, 2), (1, 3), (1, 4)] 5 9 [(0, 6), (0, 7), (0, 8), (2, 9), (2, 10), (0, 11)] [(2, 5), (0, 6), (0, 7), (0, 8), (2, 10), (0, 11)] (fun V => ∃ g, V = Mix.upon W [m, w.heap.size] g) (by kernel_rfl) (by kernel_rfl) cW ?_
  clear cW
  repeat (first | (refine Mix.S_pure (o := _) rfl rfl ?_; intro K hK; simp only [List.getElem_toArray, List.getElem_cons_zero, List.getElem_cons_succ]; go_big_quiet_op; go_big_quiet_on) | (refine Mix.S_load (o := _) rfl rfl ?_; intro K hK; simp only [List.getElem_toArray, List.getElem_cons_zero, List.getElem_cons_succ]; go_big_quiet_op; go_big_quiet_on) | refine Mix.S_skip0 (o := _) rfl rfl ?_ | refine Mix.S_skip1 (o := _) rfl rfl ?_)
  refine Mix.S_done ?_
  refine ⟨?_, ?_⟩
  · refine Mix.N_eff (C := fun V => ∃ g, V = Mix.upon W [m, w.heap.size] g) (o := _) rfl rfl ?_
    intro K hK
    simp only [List.getElem_toArray, List.getElem_cons_zero, List.getElem_cons_succ]
    go_simp
    refine (hL.out _ (by exact HF.out.drew)).mono ?_
    rintro e1 w1 ⟨rfl, hg⟩
    have hg1 : Fr Non W w1 := Fr.trans (by exact (by repeat (first | exact Fr.refl _ _ | assumption | refine Fr.drewN ?_ _ | refine Fr.drew ?_ | refine Fr.drewl ?_ | refine Fr.drewNl ?_ _ | refine Fr.alloc ?_ _))) hg
    refine hK _ _ ⟨Mix.cls_fr (D := Non) hg (by simp [Non]; omega), ?_⟩
    clear hK K hg
    have hs1 := hg1.size
    have HG := Lib.hid hg1
    clear hg1
    repeat (first | (refine Mix.S_pure (o := _) rfl rfl ?_; intro K hK; simp only [List.getElem_toArray, List.getElem_cons_zero, List.getElem_cons_succ]; go_big_quiet_op; go_big_quiet_on) | (refine Mix.S_load (o := _) rfl rfl ?_; intro K hK; simp only [List.getElem_toArray, List.getElem_cons_zero, List.getElem_cons_succ]; go_big_quiet_op; go_big_quiet_on) | refine Mix.S_skip0 (o := _) rfl rfl ?_ | refine Mix.S_skip1 (o := _) rfl rfl ?_)
    refine Mix.S_eff (o := _) rfl rfl ?_
    intro K hK
    simp only [List.getElem_toArray, List.getElem_cons_zero, List.getElem_cons_succ]
    go_simp
    refine hK _ _ ⟨Mix.cls_fr (D := Non) (by exact (by repeat (first | exact Fr.refl _ _ | assumption | refine Fr.drewN ?_ _ | refine Fr.drew ?_ | refine Fr.drewl ?_ | refine Fr.drewNl ?_ _ | refine Fr.alloc ?_ _))) (by simp [Non]; omega), ?_⟩
    clear hK K
    refine Mix.S_eff (o := _) rfl rfl ?_
    intro K hK
    simp only [List.getElem_toArray, List.getElem_cons_zero, List.getElem_cons_succ]
    go_simp
    refine hK _ _ ⟨Mix.cls_fr (D := fun x => x = w1.heap.size) (by exact Fr.realloc _ _ _) (by simp; omega), ?_⟩
    clear hK K
    repeat (first | (refine Mix.S_pure (o := _) rfl rfl ?_; intro K hK; simp only [List.getElem_toArray, List.getElem_cons_zero, List.getElem_cons_succ]; go_big_quiet_op; go_big_quiet_on) | (refine Mix.S_load (o := _) rfl rfl ?_; intro K hK; simp only [List.getElem_toArray, List.getElem_cons_zero, List.getElem_cons_succ]; go_big_quiet_op; go_big_quiet_on) | refine Mix.S_skip0 (o := _) rfl rfl ?_ | refine Mix.S_skip1 (o := _) rfl rfl ?_)
    refine Mix.S_done ?_
    rcases hR with ⟨rfl, her⟩ | ⟨hne, her⟩
    · cases xp
      · go_wp2_with fail
        go_ret2
        refine ⟨by rw [HR.out]; rfl, ?_⟩
        exact (HF.out.trans HG.out).alloc _
      · go_wp2_with fail
        go_ret2
        refine ⟨by rw [HR.out]; rfl, ?_⟩
        exact (HF.out.trans HG.out).alloc _
    · go_wp2_with fail
      go_ret2
      refine ⟨by rw [HR.out, if_pos hne]; rfl, ?_⟩
      exact (HF.out.trans HG.out).alloc _
  · refine Mix.N_eff (C := fun V => ∃ g, V = Mix.upon W [m, w.heap.size] g) (o := _) rfl rfl ?_
    intro K hK
    simp only [List.getElem_toArray, List.getElem_cons_zero, List.getElem_cons_succ]
    go_simp
    refine hK _ _ ⟨Mix.cls_fr (D := Non) (by exact (by repeat (first | exact Fr.refl _ _ | assumption | refine Fr.drewN ?_ _ | refine Fr.drew ?_ | refine Fr.drewl ?_ | refine Fr.drewNl ?_ _ | refine Fr.alloc ?_ _))) (by simp [Non]; omega), ?_⟩
    clear hK K
    refine Mix.S_eff (o := _) rfl rfl ?_
    intro K hK
    simp only [List.getElem_toArray, List.getElem_cons_zero, List.getElem_cons_succ]
    go_simp
    refine (hL.out _ (by exact (HF.out.drew).alloc _)).mono ?_
    rintro e1 w1 ⟨rfl, hg⟩
    have hg1 : Fr Non W w1 := Fr.trans (by exact (by repeat (first | exact Fr.refl _ _ | assumption | refine Fr.drewN ?_ _ | refine Fr.drew ?_ | refine Fr.drewl ?_ | refine Fr.drewNl ?_ _ | refine Fr.alloc ?_ _))) hg
    have hx : Row w1 (w.heap.size + 1) 38 [.bool false, .int .i64 0, .int .i64 0] := hg.row (by exact (Row.new' (by simp [hs]))) id
    obtain ⟨b0, b1, b2, bz⟩ := row3 hx
    refine hK _ _ ⟨Mix.cls_fr (D := Non) hg (by simp [Non]; omega), ?_⟩
    have hs1 := hg.size
    simp only [World.size_alloc, World.size_drew] at hs1
    clear hK K hg
    have HG := Lib.hid hg1
    clear hg1
    repeat (first | (refine Mix.S_pure (o := _) rfl rfl ?_; intro K hK; simp only [List.getElem_toArray, List.getElem_cons_zero, List.getElem_cons_succ]; go_big_quiet_op; go_big_quiet_on) | (refine Mix.S_load (o := _) rfl rfl ?_; intro K hK; simp only [List.getElem_toArray, List.getElem_cons_zero, List.getElem_cons_succ]; go_big_quiet_op; go_big_quiet_on) | refine Mix.S_skip0 (o := _) rfl rfl ?_ | refine Mix.S_skip1 (o := _) rfl rfl ?_)
    refine Mix.S_eff (o := _) rfl rfl ?_
    intro K hK
    simp only [List.getElem_toArray, List.getElem_cons_zero, List.getElem_cons_succ]
    go_simp
    refine hK _ _ ⟨Mix.cls_fr (D := fun x => x = w.heap.size + 1) (by exact ((Fr.set1 _ _ _ _).trans (Fr.set1 _ _ _ _)).trans (Fr.set1 _ _ _ _)) (by simp; omega), ?_⟩
    clear hK K
    repeat (first | (refine Mix.S_pure (o := _) rfl rfl ?_; intro K hK; simp only [List.getElem_toArray, List.getElem_cons_zero, List.getElem_cons_succ]; go_big_quiet_op; go_big_quiet_on) | (refine Mix.S_load (o := _) rfl rfl ?_; intro K hK; simp only [List.getElem_toArray, List.getElem_cons_zero, List.getElem_cons_succ]; go_big_quiet_op; go_big_quiet_on) | refine Mix.S_skip0 (o := _) rfl rfl ?_ | refine Mix.S_skip1 (o := _) rfl rfl ?_)
    refine Mix.S_done ?_
    have hw3 : Fr Non w (((w1.setCell ⟨w.heap.size + 1, 0, none⟩ (.bool xp)).setCell ⟨w.heap.size + 1, 1, none⟩ (.int .i64 xa)).setCell ⟨w.heap.size + 1, 2, none⟩ (.int .i64 xn)) :=
      (((HF.out.trans HG.out).setCell (a := ⟨w.heap.size + 1, 0, none⟩) (Or.inr (by simp)) _).setCell (a := ⟨w.heap.size + 1, 1, none⟩) (Or.inr (by simp)) _).setCell (a := ⟨w.heap.size + 1, 2, none⟩) (Or.inr (by simp)) _
    have hx3 := ((hx.set_same 0 (.bool xp)).set_same 1 (.int .i64 xa)).set_same 2 (.int .i64 xn)
    obtain ⟨y0, y1, y2, yz⟩ := row3 hx3
    generalize ((w1.setCell ⟨w.heap.size + 1, 0, none⟩ (.bool xp)).setCell ⟨w.heap.size + 1, 1, none⟩ (.int .i64 xa)).setCell ⟨w.heap.size + 1, 2, none⟩ (.int .i64 xn) = w3 at *
    have HG3 := Lib.hid hw3
    clear hw3 hx3 hx b0 b1 b2 bz HG
    rcases hR with ⟨rfl, her⟩ | ⟨hne, her⟩
    · cases xp
      all_goals go_wp2_with fail
      all_goals go_ret2
      all_goals refine ⟨by rw [HR.out]; rfl, HG3.out⟩
    · go_wp2_with fail
      go_ret2
      exact ⟨by rw [HR.out, if_pos hne]; rfl, HG3.out⟩

end Go.Proofs.Ytlbomnbpahmphaa

/- Walks: the machine's 'state'. Conditions: the machine's cells that are read; the coroutines lie at their slice. -/
namespace Go.Proofs.Ytlbomnbpahmphaa
open Go.RowKit

theorem offS_eq (p : Bool) (a n k : Int) : offS ⟨p, a, n⟩ k = ⟨p, a, offn p n k⟩ := by
  unfold offS offn
  cases p
  · rfl
  · simp [IntWalk.i64_left]

def Cr.cs (x : Cr) : List Value := [.string x.name, .int .i64 x.resume, .int .i64 x.cancel, .int .i64 x.words, .int .i64 x.args]
def crs (l : List Cr) : List Value := l.flatMap Cr.cs
theorem crs_cons (x : Cr) (l : List Cr) : crs (x :: l) = .string x.name :: .int .i64 x.resume :: .int .i64 x.cancel :: .int .i64 x.words :: .int .i64 x.args :: crs l := rfl
theorem crs_get {l : List Cr} {i : Nat} {x : Cr} (h : l[i]? = some x) :
    (crs l)[i * 5]? = some (.string x.name) ∧ (crs l)[i * 5 + 1]? = some (.int .i64 x.resume) ∧ (crs l)[i * 5 + 2]? = some (.int .i64 x.cancel) ∧ (crs l)[i * 5 + 3]? = some (.int .i64 x.words) ∧ (crs l)[i * 5 + 4]? = some (.int .i64 x.args) := by
  induction l generalizing i with
  | nil => simp at h
  | cons y l ih =>
    cases i with
    | zero => simp at h; subst h; simp [crs_cons]
    | succ i =>
      have := ih (by simpa using h)
      rw [crs_cons, show (i + 1) * 5 = i * 5 + 5 by omega]
      exact this
def CosAt (w : World) (co : Option Addr) (l : List Cr) : Prop := 0 < l.length → ∃ b o, co = some ⟨b, o, none⟩ ∧ ∀ (j : Nat) (u : Value), (crs l)[j]? = some u → w.cell? ⟨b, o + j, none⟩ = some u
theorem CosAt.fr {w w' : World} {co : Option Addr} {l : List Cr} (h : CosAt w co l) (f : Fr Non w w') : CosAt w' co l := fun hl => by
  obtain ⟨b, o, e, hc⟩ := h hl
  exact ⟨b, o, e, fun j u hu => f.cell (hc j u hu) id⟩

set_option maxRecDepth 100000 in
set_option maxHeartbeats 1000000 in
theorem state_c {D : Nat → Prop} {w : World} {m mb : Nat} {M : Mem} {P : Pr} {co : Option Addr} {cc : Nat} (h1 : w.cell? ⟨m, 1, none⟩ = some (.slice co P.cos.length cc)) (h2 : w.cell? ⟨m, 2, none⟩ = some (.pointer (some ⟨mb, 0, none⟩))) (h : MI D w mb M) (hc : CosAt w co P.cos)
    (p : Bool) (a n : Int) :
    Calls Try.prog 54 #[.pointer (some ⟨m, 0, none⟩), .agg #[.bool p, .int .i64 a, .int .i64 n]] w fun e w' => e = .returned (.tuple #[.int .i64 (stateS P M ⟨p, a, n⟩).1, .agg (stateS P M ⟨p, a, n⟩).2.1.cs.toArray, .int .i64 (stateS P M ⟨p, a, n⟩).2.2]) ∧ Fr Non w w' := by
  have hW0 := Lib.hid fun w1 (f : Fr Non w w1) => word_c (f.cell h2 id) (h.frN f) p a (offn p n 0)
  have hW2 := Lib.hid fun w1 (f : Fr Non w w1) => word_c (f.cell h2 id) (h.frN f) p a (offn p n 2)
  obtain ⟨R, hR⟩ : ∃ R, R = stateS P M ⟨p, a, n⟩ := ⟨_, rfl⟩
  rw [← hR]
  unfold stateS at hR
  rw [offS_eq, offS_eq] at hR
  generalize M.word ⟨p, a, offn p n 0⟩ = A at *
  generalize M.word ⟨p, a, offn p n 2⟩ = B at *
  obtain ⟨s, e0⟩ := A
  obtain ⟨k, e2⟩ := B
  simp only at hR hW0 hW2
  have HR := Lib.hid hR
  clear hR h
  have hm := World.block_lt_of_cell? w _ h1
  have HC := Lib.hid (And.intro h1 hc)
  clear h2 hc
  by_cases he0 : e0 = 0
  · subst he0
    by_cases he2 : e2 = 0
    · subst he2
      have hl0 : (0 : Int) ≤ (P.cos.length : Int) := by omega
      have hcase : (k < 0 ∧ decide (k < 0) = true) ∨ (¬ k < 0 ∧ decide (k < 0) = false ∧ (P.cos.length : Int) ≤ k ∧ decide ((P.cos.length : Int) ≤ k) = true) ∨ (¬ k < 0 ∧ decide (k < 0) = false ∧ ¬ (P.cos.length : Int) ≤ k ∧ decide ((P.cos.length : Int) ≤ k) = false) := by
        by_cases hk : k < 0 <;> by_cases hk2 : (P.cos.length : Int) ≤ k <;> simp [hk, hk2]
      rcases hcase with ⟨hk, hd⟩ | ⟨hk, hd, hk2, hd2⟩ | ⟨hk, hd, hk2, hd2⟩
      · go_enter Try.func54, Try.ntmps54
        go_wp2_with fail
        refine (off_c _ p a n 0).mono ?_
        rintro e1 w1 ⟨rfl, hf1⟩
        have hf1' : Fr Non w w1 := Fr.trans (by exact (by repeat (first | exact Fr.refl _ _ | assumption | refine Fr.drewN ?_ _ | refine Fr.drew ?_ | refine Fr.drewl ?_ | refine Fr.drewNl ?_ _ | refine Fr.alloc ?_ _))) hf1
        have HF1 := Lib.hid hf1'
        have x5 : Row w1 (w.heap.size + 1) 84 [.string ⟨#[]⟩, .int .i64 0, .int .i64 0, .int .i64 0, .int .i64 0] := hf1.row (by exact Row.new' (by simp)) id
        have xb : Row w1 w.heap.size 38 [.bool p, .int .i64 a, .int .i64 n] := hf1.row (by exact Row.alloc (Row.new' rfl) _) id
        clear hf1 hf1'
        go_wp2_with fail
        refine (hW0.out w1 HF1.out).mono ?_
        rintro e1 w2 ⟨rfl, hf2⟩
        have x6 := hf2.row x5 id
        have HF2 := Lib.hid (HF1.out.trans hf2)
        have HB2 := Lib.hid (hf2.row xb id)
        clear hf2 x5 xb
        have z0 := (HB2.out : Row w2 w.heap.size 38 [.bool p, .int .i64 a, .int .i64 n])
        obtain ⟨q0, q1, q2, qz⟩ := row3 z0
        go_wp2_with fail
        refine (off_c _ p a n 2).mono ?_
        rintro e3 w3 ⟨rfl, hf3⟩
        have x7 := hf3.row x6 id
        have HF3 := Lib.hid (HF2.out.trans hf3)
        clear hf3 x6 z0 q0 q1 q2 qz
        go_wp2_with fail
        refine (hW2.out w3 HF3.out).mono ?_
        rintro e4 w4 ⟨rfl, hf4⟩
        have x8 := hf4.row x7 id
        have HF4 := Lib.hid (HF3.out.trans hf4)
        clear hf4 x7
        obtain ⟨y0, y1, y2, y3, y4, yz⟩ := row5 x8
        go_wp2_with fail
        have hR := HR.out
        rw [if_neg (by simp), if_neg (by simp), if_pos (Or.inl hk)] at hR
        rw [hR]
        exact bodyPost_ret (v := .tuple #[.int .i64 0, .agg #[.string ⟨#[]⟩, .int .i64 0, .int .i64 0, .int .i64 0, .int .i64 0], .int .i64 30]) (by simp [results, Try.results54, go_sem, y0, y1, y2, y3, y4]) rfl ⟨rfl, by exact ((((HF4.out.set_new (by omega)).set_new (by omega)).set_new (by omega)).set_new (by omega)).set_new (by omega)⟩
      · go_enter Try.func54, Try.ntmps54
        go_wp2_with fail
        refine (off_c _ p a n 0).mono ?_
        rintro e1 w1 ⟨rfl, hf1⟩
        have hf1' : Fr Non w w1 := Fr.trans (by exact (by repeat (first | exact Fr.refl _ _ | assumption | refine Fr.drewN ?_ _ | refine Fr.drew ?_ | refine Fr.drewl ?_ | refine Fr.drewNl ?_ _ | refine Fr.alloc ?_ _))) hf1
        have HF1 := Lib.hid hf1'
        have x5 : Row w1 (w.heap.size + 1) 84 [.string ⟨#[]⟩, .int .i64 0, .int .i64 0, .int .i64 0, .int .i64 0] := hf1.row (by exact Row.new' (by simp)) id
        have xb : Row w1 w.heap.size 38 [.bool p, .int .i64 a, .int .i64 n] := hf1.row (by exact Row.alloc (Row.new' rfl) _) id
        clear hf1 hf1'
        go_wp2_with fail
        refine (hW0.out w1 HF1.out).mono ?_
        rintro e1 w2 ⟨rfl, hf2⟩
        have x6 := hf2.row x5 id
        have HF2 := Lib.hid (HF1.out.trans hf2)
        have HB2 := Lib.hid (hf2.row xb id)
        clear hf2 x5 xb
        have z0 := (HB2.out : Row w2 w.heap.size 38 [.bool p, .int .i64 a, .int .i64 n])
        obtain ⟨q0, q1, q2, qz⟩ := row3 z0
        go_wp2_with fail
        refine (off_c _ p a n 2).mono ?_
        rintro e3 w3 ⟨rfl, hf3⟩
        have x7 := hf3.row x6 id
        have HF3 := Lib.hid (HF2.out.trans hf3)
        clear hf3 x6 z0 q0 q1 q2 qz
        go_wp2_with fail
        refine (hW2.out w3 HF3.out).mono ?_
        rintro e4 w4 ⟨rfl, hf4⟩
        have x8 := hf4.row x7 id
        have HF4 := Lib.hid (HF3.out.trans hf4)
        clear hf4 x7
        obtain ⟨y0, y1, y2, y3, y4, yz⟩ := row5 x8
        have b0 := HF4.out.cell (show w.cell? ⟨m, 1, none⟩ = some (.slice co P.cos.length cc) from HC.out.1) id
        go_wp2_with fail
        have hR := HR.out
        rw [if_neg (by simp), if_neg (by simp), if_pos (Or.inr hk2)] at hR
        rw [hR]
        exact bodyPost_ret (v := .tuple #[.int .i64 0, .agg #[.string ⟨#[]⟩, .int .i64 0, .int .i64 0, .int .i64 0, .int .i64 0], .int .i64 30]) (by simp [results, Try.results54, go_sem, y0, y1, y2, y3, y4]) rfl ⟨rfl, by exact ((((HF4.out.set_new (by omega)).set_new (by omega)).set_new (by omega)).set_new (by omega)).set_new (by omega)⟩
      · obtain ⟨i, rfl⟩ := Int.eq_ofNat_of_zero_le (show 0 ≤ k by omega)
        have hil : i < P.cos.length := by omega
        obtain ⟨x, hx⟩ : ∃ x, P.cos[i]? = some x := ⟨P.cos[i], List.getElem?_eq_getElem hil⟩
        obtain ⟨cb, o, rfl, hcs⟩ := HC.out.2 (by omega)
        obtain ⟨g0, g1, g2, g3, g4⟩ := crs_get hx
        have c0 := hcs _ _ g0
        have c1 := hcs _ _ g1
        have c2 := hcs _ _ g2
        have c3 := hcs _ _ g3
        have c4 := hcs _ _ g4
        rw [← Nat.add_assoc] at c1 c2 c3 c4
        have HX := Lib.hid (And.intro c0 (And.intro c1 (And.intro c2 (And.intro c3 c4))))
        have hcb := World.block_lt_of_cell? w _ c0
        clear hcs g0 g1 g2 g3 g4 c0 c1 c2 c3 c4
        go_enter Try.func54, Try.ntmps54
        go_wp2_with fail
        refine (off_c _ p a n 0).mono ?_
        rintro e1 w1 ⟨rfl, hf1⟩
        have hf1' : Fr Non w w1 := Fr.trans (by exact (by repeat (first | exact Fr.refl _ _ | assumption | refine Fr.drewN ?_ _ | refine Fr.drew ?_ | refine Fr.drewl ?_ | refine Fr.drewNl ?_ _ | refine Fr.alloc ?_ _))) hf1
        have HF1 := Lib.hid hf1'
        have x5 : Row w1 (w.heap.size + 1) 84 [.string ⟨#[]⟩, .int .i64 0, .int .i64 0, .int .i64 0, .int .i64 0] := hf1.row (by exact Row.new' (by simp)) id
        have xb : Row w1 w.heap.size 38 [.bool p, .int .i64 a, .int .i64 n] := hf1.row (by exact Row.alloc (Row.new' rfl) _) id
        clear hf1 hf1'
        go_wp2_with fail
        refine (hW0.out w1 HF1.out).mono ?_
        rintro e1 w2 ⟨rfl, hf2⟩
        have x6 := hf2.row x5 id
        have HF2 := Lib.hid (HF1.out.trans hf2)
        have HB2 := Lib.hid (hf2.row xb id)
        clear hf2 x5 xb
        have z0 := (HB2.out : Row w2 w.heap.size 38 [.bool p, .int .i64 a, .int .i64 n])
        obtain ⟨q0, q1, q2, qz⟩ := row3 z0
        go_wp2_with fail
        refine (off_c _ p a n 2).mono ?_
        rintro e3 w3 ⟨rfl, hf3⟩
        have x7 := hf3.row x6 id
        have HF3 := Lib.hid (HF2.out.trans hf3)
        clear hf3 x6 z0 q0 q1 q2 qz
        go_wp2_with fail
        refine (hW2.out w3 HF3.out).mono ?_
        rintro e4 w4 ⟨rfl, hf4⟩
        have x8 := hf4.row x7 id
        have HF4 := Lib.hid (HF3.out.trans hf4)
        clear hf4 x7
        obtain ⟨y0, y1, y2, y3, y4, yz⟩ := row5 x8
        have b0 := HF4.out.cell (show w.cell? ⟨m, 1, none⟩ = some (.slice (some ⟨cb, o, none⟩) P.cos.length cc) from HC.out.1) id
        have c0 := HF4.out.cell HX.out.1 id
        have c1 := HF4.out.cell HX.out.2.1 id
        have c2 := HF4.out.cell HX.out.2.2.1 id
        have c3 := HF4.out.cell HX.out.2.2.2.1 id
        have c4 := HF4.out.cell HX.out.2.2.2.2 id
        have hs4 := HF4.out.size
        have hl8 := x8.lt
        go_wp2_with fail
        have cW := @Mix.cls_drew w4 [m, cb]
        refine Mix.wp_region_mix [5, 8] [(0, 0), (0, 1), (0, 2), (0, 3), (0, 4), (1, 5), (0, 6), (0, 7), (1, 8), (0, 9), (2, 10), (0, 11)] (fun V => ∃ g, V = Mix.upon w4 [m, cb] g) (by kernel_rfl) (by kernel_rfl) cW ?_
        clear cW
        repeat (first | (refine Mix.S_pure (o := _) rfl rfl ?_; intro K hK; simp only [List.getElem_toArray, List.getElem_cons_zero, List.getElem_cons_succ]; go_big_quiet_op; go_big_quiet_on) | (refine Mix.S_load (o := _) rfl rfl ?_; intro K hK; simp only [List.getElem_toArray, List.getElem_cons_zero, List.getElem_cons_succ]; go_big_quiet_op; go_big_quiet_on) | refine Mix.S_skip0 (o := _) rfl rfl ?_ | refine Mix.S_skip1 (o := _) rfl rfl ?_)
        refine Mix.S_eff (o := _) rfl rfl ?_
        intro K hK
        simp only [List.getElem_toArray, List.getElem_cons_zero, List.getElem_cons_succ]
        go_simp
        refine hK _ _ ⟨Mix.cls_fr (D := fun x => x = w.heap.size + 1) (by exact ((((Fr.set1 _ _ _ _).trans (Fr.set1 _ _ _ _)).trans (Fr.set1 _ _ _ _)).trans (Fr.set1 _ _ _ _)).trans (Fr.set1 _ _ _ _)) (by simp; omega), ?_⟩
        clear hK K
        repeat (first | (refine Mix.S_pure (o := _) rfl rfl ?_; intro K hK; simp only [List.getElem_toArray, List.getElem_cons_zero, List.getElem_cons_succ]; go_big_quiet_op; go_big_quiet_on) | (refine Mix.S_load (o := _) rfl rfl ?_; intro K hK; simp only [List.getElem_toArray, List.getElem_cons_zero, List.getElem_cons_succ]; go_big_quiet_op; go_big_quiet_on) | refine Mix.S_skip0 (o := _) rfl rfl ?_ | refine Mix.S_skip1 (o := _) rfl rfl ?_)
        refine Mix.S_done ?_
        have hR := HR.out
        rw [if_neg (by simp), if_neg (by simp), if_neg (by omega)] at hR
        have hco : P.co (i : Int) = x := by unfold Pr.co; rw [Int.toNat_natCast, List.getD_eq_getElem?_getD, hx]; rfl
        rw [hco] at hR
        have HR2 := Lib.hid hR
        clear hR hco
        go_wp2_with fail
        rw [HR2.out]
        exact bodyPost_ret (v := .tuple #[.int .i64 s, .agg #[.string x.name, .int .i64 x.resume, .int .i64 x.cancel, .int .i64 x.words, .int .i64 x.args], .int .i64 0]) (by simp [results, Try.results54, go_sem, y0, y1, y2, y3, y4]) rfl ⟨rfl, by exact (((((HF4.out.set_new (by omega)).set_new (by omega)).set_new (by omega)).set_new (by omega)).set_new (by omega)).drew⟩
    · have he2' : (e2 == 0) = false := beq_false_of_ne he2
      have he2n : (e2 != 0) = true := by simp [he2]
      go_enter Try.func54, Try.ntmps54
      go_wp2_with fail
      refine (off_c _ p a n 0).mono ?_
      rintro e1 w1 ⟨rfl, hf1⟩
      have hf1' : Fr Non w w1 := Fr.trans (by exact (by repeat (first | exact Fr.refl _ _ | assumption | refine Fr.drewN ?_ _ | refine Fr.drew ?_ | refine Fr.drewl ?_ | refine Fr.drewNl ?_ _ | refine Fr.alloc ?_ _))) hf1
      have HF1 := Lib.hid hf1'
      have x5 : Row w1 (w.heap.size + 1) 84 [.string ⟨#[]⟩, .int .i64 0, .int .i64 0, .int .i64 0, .int .i64 0] := hf1.row (by exact Row.new' (by simp)) id
      have xb : Row w1 w.heap.size 38 [.bool p, .int .i64 a, .int .i64 n] := hf1.row (by exact Row.alloc (Row.new' rfl) _) id
      clear hf1 hf1'
      go_wp2_with fail
      refine (hW0.out w1 HF1.out).mono ?_
      rintro e1 w2 ⟨rfl, hf2⟩
      have x6 := hf2.row x5 id
      have HF2 := Lib.hid (HF1.out.trans hf2)
      have HB2 := Lib.hid (hf2.row xb id)
      clear hf2 x5 xb
      have z0 := (HB2.out : Row w2 w.heap.size 38 [.bool p, .int .i64 a, .int .i64 n])
      obtain ⟨q0, q1, q2, qz⟩ := row3 z0
      go_wp2_with fail
      refine (off_c _ p a n 2).mono ?_
      rintro e3 w3 ⟨rfl, hf3⟩
      have x7 := hf3.row x6 id
      have HF3 := Lib.hid (HF2.out.trans hf3)
      clear hf3 x6 z0 q0 q1 q2 qz
      go_wp2_with fail
      refine (hW2.out w3 HF3.out).mono ?_
      rintro e4 w4 ⟨rfl, hf4⟩
      have x8 := hf4.row x7 id
      have HF4 := Lib.hid (HF3.out.trans hf4)
      clear hf4 x7
      obtain ⟨y0, y1, y2, y3, y4, yz⟩ := row5 x8
      go_wp2_with fail
      have hR := HR.out
      rw [if_neg (by simp), if_pos he2] at hR
      rw [hR]
      exact bodyPost_ret (v := .tuple #[.int .i64 0, .agg #[.string ⟨#[]⟩, .int .i64 0, .int .i64 0, .int .i64 0, .int .i64 0], .int .i64 e2]) (by simp [results, Try.results54, go_sem, y0, y1, y2, y3, y4]) rfl ⟨rfl, by exact ((((HF4.out.set_new (by omega)).set_new (by omega)).set_new (by omega)).set_new (by omega)).set_new (by omega)⟩
  · have he0' : (e0 == 0) = false := beq_false_of_ne he0
    have he0n : (e0 != 0) = true := by simp [he0]
    go_enter Try.func54, Try.ntmps54
    go_wp2_with fail
    refine (off_c _ p a n 0).mono ?_
    rintro e1 w1 ⟨rfl, hf1⟩
    have hf1' : Fr Non w w1 := Fr.trans (by exact (by repeat (first | exact Fr.refl _ _ | assumption | refine Fr.drewN ?_ _ | refine Fr.drew ?_ | refine Fr.drewl ?_ | refine Fr.drewNl ?_ _ | refine Fr.alloc ?_ _))) hf1
    have HF1 := Lib.hid hf1'
    have x5 : Row w1 (w.heap.size + 1) 84 [.string ⟨#[]⟩, .int .i64 0, .int .i64 0, .int .i64 0, .int .i64 0] := hf1.row (by exact Row.new' (by simp)) id
    have xb : Row w1 w.heap.size 38 [.bool p, .int .i64 a, .int .i64 n] := hf1.row (by exact Row.alloc (Row.new' rfl) _) id
    clear hf1 hf1'
    go_wp2_with fail
    refine (hW0.out w1 HF1.out).mono ?_
    rintro e1 w2 ⟨rfl, hf2⟩
    have x6 := hf2.row x5 id
    have HF2 := Lib.hid (HF1.out.trans hf2)
    have HB2 := Lib.hid (hf2.row xb id)
    clear hf2 x5 xb
    obtain ⟨y0, y1, y2, y3, y4, yz⟩ := row5 x6
    go_wp2_with fail
    have hR := HR.out
    rw [if_pos he0] at hR
    rw [hR]
    have hs1 := HF1.out.size
    exact bodyPost_ret (v := .tuple #[.int .i64 0, .agg #[.string ⟨#[]⟩, .int .i64 0, .int .i64 0, .int .i64 0, .int .i64 0], .int .i64 e0]) (by simp [results, Try.results54, go_sem, y0, y1, y2, y3, y4]) rfl ⟨rfl, by exact ((((HF2.out.set_new (by omega)).set_new (by omega)).set_new (by omega)).set_new (by omega)).set_new (by omega)⟩

end Go.Proofs.Ytlbomnbpahmphaa
