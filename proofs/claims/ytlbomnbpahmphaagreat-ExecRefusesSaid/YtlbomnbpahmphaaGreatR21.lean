/- Walks: the queue's functions of Go's library: 'Contains', 'Index', 'DeleteFunc' with a test for one number. Conditions: the numbers lie there; the row is owned. -/
import Derived.Test.YtlbomnbpahmphaaGreatR19
namespace Go.Proofs.YtlbomnbpahmphaaGreat
open Go.RowKit

def qints (l : List Int) : List Value := l.map (.int .i64)
theorem qints_get {l : List Int} {i : Nat} {x : Int} (h : l[i]? = some x) : (qints l)[i]? = some (.int .i64 x) := by unfold qints; rw [List.getElem?_map, h]; rfl
theorem Own.args {w : World} {ao : Option Addr} {n cap : Nat} {l : List Int} (h : Own w (.slice ao n cap) 3 1 l.length (qints l)) : n = l.length ∧ ArgsAt w ao l := by
 obtain ⟨ao', cap', e, _, _, h1, _⟩ := h.form
 cases e
 refine ⟨rfl, fun i x hx => ?_⟩
 obtain ⟨g, rfl⟩ := h1 (Nat.lt_of_le_of_lt (Nat.zero_le i) (List.getElem?_eq_some_iff.1 hx).1)
 exact ⟨g, 0, rfl, by rw [Nat.zero_add]; exact h.cell rfl (qints_get hx)⟩

set_option maxRecDepth 100000 in
set_option maxHeartbeats 400000 in
theorem index_c (w : World) (l : List Int) (la : Option Addr) (lc : Nat) (hl : ArgsAt w la l) (hn : l.length ≤ 1000000000) (n : Int) :
 Calls Tryz.prog 146 #[.slice la l.length lc, .int .i64 n] w fun e w' => (∃ r : Int, e = .returned (.int .i64 r) ∧ decide (0 ≤ r) = decide (n ∈ l)) ∧ Fr Non w w' := by
 have HH := Lib.hid hl
 clear hl
 go_enter Tryz.func146, Tryz.ntmps146
 go_wp2_with fail
 go_loopw [8] (fun v8 wr => ∃ i : Nat, i ≤ l.length ∧ v8 = .int .i64 i ∧ (∀ j, j < i → l[j]? ≠ some n) ∧ Fr Non w wr) (fun v8 _ => l.length - (intOf v8).toNat)
 case atStart => exact ⟨0, Nat.zero_le _, rfl, fun j hj => by omega, Fr.refl _ _⟩
 case round =>
  obtain ⟨i, hi, rfl, hall, hfr⟩ := hrel
  by_cases hil : i < l.length
  · have hil' : (i : Int) < (l.length : Int) := by omega
    have hi0 : (0 : Int) ≤ (i : Int) := by omega
    obtain ⟨x, hx⟩ : ∃ x, l[i]? = some x := ⟨l[i], List.getElem?_eq_getElem hil⟩
    obtain ⟨ab, ao, rfl, hcell⟩ := HH.out i x hx
    have hcr := hfr.cell hcell id
    have HX := Lib.hid (And.intro hall (And.intro hfr hx))
    clear hall hfr hcell hx
    by_cases hxn : n = x
    · have d : (n == x) = true := by simp [hxn]
      have hmem : n ∈ l := by rw [hxn]; exact List.mem_of_getElem? HX.out.2.2
      have HM := Lib.hid hmem
      clear hxn hmem
      go_wp2_with fail
      go_ret
      exact ⟨⟨i, rfl, by rw [decide_eq_true hi0, decide_eq_true HM.out]⟩, HX.out.2.1⟩
    · have d : (n == x) = false := by simp [hxn]
      have HM := Lib.hid hxn
      clear hxn
      go_wp2_with fail
      refine ⟨⟨i + 1, by omega, rfl, fun j hj => ?_, HX.out.2.1⟩, by simp [intOf]; omega⟩
      rcases Nat.lt_succ_iff_lt_or_eq.1 hj with h | rfl
      · exact HX.out.1 j h
      · rw [HX.out.2.2]
        exact fun e => HM.out (by cases e; rfl)
  · obtain rfl : i = l.length := by omega
    have HX := Lib.hid (And.intro hall hfr)
    clear hall hfr
    go_wp2_with fail
    go_ret
    refine ⟨⟨-1, rfl, ?_⟩, HX.out.2⟩
    have : ¬ n ∈ l := fun hm => by
     obtain ⟨j, hj, e⟩ := List.getElem_of_mem hm
     exact HX.out.1 j hj (by rw [List.getElem?_eq_getElem hj, e])
    rw [decide_eq_false this]
    rfl

set_option maxRecDepth 100000 in
set_option maxHeartbeats 400000 in
theorem contains_c (w : World) (l : List Int) (la : Option Addr) (lc : Nat) (hl : ArgsAt w la l) (hn : l.length ≤ 1000000000) (n : Int) :
 Calls Tryz.prog 138 #[.slice la l.length lc, .int .i64 n] w fun e w' => e = .returned (.bool (decide (n ∈ l))) ∧ Fr Non w w' := by
 have hI := Lib.hid (index_c w l la lc hl hn n)
 clear hl
 generalize decide (n ∈ l) = b at *
 go_enter Tryz.func138, Tryz.ntmps138
 go_wp2_with fail
 refine hI.out.mono ?_
 rintro e1 w1 ⟨⟨r, rfl, hr⟩, hf⟩
 have HR := Lib.hid hr
 clear hr
 go_wp2_with fail
 go_ret
 exact ⟨by rw [← HR.out]; rfl, hf⟩

set_option maxRecDepth 100000 in
theorem out1_c (w : World) (q : Nat) (n : Int) (hq : w.cell? ⟨q, 0, none⟩ = some (.int .i64 n)) (k : Int) :
 Calls Tryz.prog 145 #[.int .i64 k, .pointer (some ⟨q, 0, none⟩)] w fun e w' => e = .returned (.bool (k == n)) ∧ Fr Non w w' := by
 go_enter Tryz.func145, Tryz.ntmps145
 go_wp2_with fail
 go_ret
 exact ⟨rfl, by exact (by repeat (first | exact .refl _ _ | assumption | apply Fr.drewN | apply Fr.drew | apply Fr.drewl | apply Fr.drewNl | apply Fr.alloc))⟩

set_option maxRecDepth 100000 in
set_option maxHeartbeats 400000 in
theorem indexFuncQ_c (w : World) (q : Nat) (n : Int) (hq : w.cell? ⟨q, 0, none⟩ = some (.int .i64 n)) (l : List Int) (la : Option Addr) (lc : Nat) (hl : ArgsAt w la l) (hn : l.length ≤ 1000000000) :
 Calls Tryz.prog 139 #[.slice la l.length lc, .func (.func 145) #[] #[.pointer (some ⟨q, 0, none⟩)]] w fun e w' => ((e = .returned (.int .i64 (-1)) ∧ n ∉ l) ∨ ∃ i : Nat, e = .returned (.int .i64 i) ∧ l[i]? = some n ∧ ∀ j, j < i → l[j]? ≠ some n) ∧ Fr Non w w' := by
 have HH := Lib.hid (And.intro hq hl)
 clear hq hl
 go_enter Tryz.func139, Tryz.ntmps139
 go_wp2_with fail
 go_loopw [8] (fun v8 wr => ∃ i : Nat, i ≤ l.length ∧ v8 = .int .i64 i ∧ (∀ j, j < i → l[j]? ≠ some n) ∧ Fr Non w wr) (fun v8 _ => l.length - (intOf v8).toNat)
 case atStart => exact ⟨0, Nat.zero_le _, rfl, fun j hj => by omega, Fr.refl _ _⟩
 case round =>
  obtain ⟨i, hi, rfl, hall, hfr⟩ := hrel
  by_cases hil : i < l.length
  · have hil' : (i : Int) < (l.length : Int) := by omega
    have hi0 : (0 : Int) ≤ (i : Int) := by omega
    obtain ⟨x, hx⟩ : ∃ x, l[i]? = some x := ⟨l[i], List.getElem?_eq_getElem hil⟩
    obtain ⟨ab, ao, rfl, hcell⟩ := HH.out.2 i x hx
    have hcr := hfr.cell hcell id
    have hO := Lib.hid (out1_c wr q n (hfr.cell HH.out.1 id) x)
    have HX := Lib.hid (And.intro hall (And.intro hfr hx))
    clear hall hfr hcell hx
    go_wp2_with fail
    refine hO.out.mono ?_
    rintro e1 w1 ⟨rfl, hf⟩
    have hf1 := Lib.hid (HX.out.2.1.trans hf)
    clear hf
    by_cases hxn : x = n
    · have d : (x == n) = true := by simp [hxn]
      have HM := Lib.hid hxn
      clear hxn
      go_wp2_with fail
      go_ret
      exact ⟨Or.inr ⟨i, rfl, by rw [HX.out.2.2, HM.out], HX.out.1⟩, hf1.out⟩
    · have d : (x == n) = false := by simp [hxn]
      have HM := Lib.hid hxn
      clear hxn
      go_wp2_with fail
      refine ⟨⟨i + 1, by omega, rfl, fun j hj => ?_, hf1.out⟩, by simp [intOf]; omega⟩
      rcases Nat.lt_succ_iff_lt_or_eq.1 hj with h | rfl
      · exact HX.out.1 j h
      · rw [HX.out.2.2]
        exact fun e => HM.out (by cases e; rfl)
  · obtain rfl : i = l.length := by omega
    have HX := Lib.hid (And.intro hall hfr)
    clear hall hfr
    go_wp2_with fail
    go_ret
    refine ⟨Or.inl ⟨rfl, fun hm => ?_⟩, HX.out.2⟩
    obtain ⟨j, hj, e⟩ := List.getElem_of_mem hm
    exact HX.out.1 j hj (by rw [List.getElem?_eq_getElem hj, e])

/-- All but one number. -/
def without (n : Int) (l : List Int) : List Int := l.filter fun k => !(k == n)
theorem without_take {n : Int} {l : List Int} {i : Nat} {x : Int} (h : l[i]? = some x) : without n (l.take (i + 1)) = without n (l.take i) ++ (if x = n then [] else [x]) := by
 unfold without
 rw [List.take_add_one, h, List.filter_append]
 by_cases hx : x = n <;> simp [hx]
theorem without_none {n : Int} {l : List Int} (h : n ∉ l) : without n l = l := by
 unfold without
 rw [List.filter_eq_self]
 intro x hx
 have : x ≠ n := fun e => h (e ▸ hx)
 simp [this]
theorem without_first {n : Int} {l : List Int} {i : Nat} (h : ∀ j, j < i → l[j]? ≠ some n) : without n (l.take i) = l.take i := without_none fun hm => by
 obtain ⟨j, hj, e⟩ := List.getElem_of_mem hm
 simp only [List.length_take] at hj
 refine h j (by omega) ?_
 rw [List.getElem?_eq_getElem (by omega)]
 rw [List.getElem_take] at e
 rw [e]

theorem run_clear_ints {P : Program} {w : World} (t ty e : TypeId) (i : TypeInfo) (ht : P.underlying t = some (.slice e)) (hi : P.info? e = some i) (hz : i.zero = some (.int .i64 0))
 (n c g off : Nat) (T : TypeId) (cs : List Value) (hr : Row w g T cs) (hn : 0 < n) (hfit : off + n ≤ cs.length) :
 ∃ w', (Builtin.clear_ #[t] ty #[.slice (some ⟨g, off, none⟩) n c]).run P w = .ok (.tuple #[]) w' ∧ Row w' g T (splice cs off (List.replicate n (.int .i64 0))) ∧ Fr (fun x => x = g) w w' := by
 cases n with
 | zero => omega
 | succ n =>
  have hzc : (Builtin.zeroCells (Value.int .i64 0).cells (n + 1)).toList = List.replicate (n + 1) (.int .i64 0) := by
   refine List.eq_replicate_iff.2 ⟨by simp [Builtin.zeroCells, Value.cells], ?_⟩
   simp [Builtin.zeroCells, Value.cells, Nat.mod_one]
  have hst := run_storeCells_at P g off T (List.replicate (n + 1) (.int .i64 0)) 0 cs.toArray w hr (by simpa using hfit) (by simp [Value.oneCell'])
  refine ⟨w.setRow g (splice cs off (List.replicate (n + 1) (.int .i64 0))).toArray, ?_, (row_setRow hr _).1, (row_setRow hr _).2⟩
  simp [Builtin.clear_, run_underlying ht, zeroValue, typeInfo, hi, hz, hzc, hst, splice]

end Go.Proofs.YtlbomnbpahmphaaGreat
