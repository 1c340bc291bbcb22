/- The machine, made anew: it stands well where the code may be run, and is none where not. Conditions: the program lies at its slices, ahead of all that is new. -/
import Derived.Test.YtlbomnbpahmphaaKa26
import Derived.Test.YtlbomnbpahmphaaKa27
import Derived.Test.YtlbomnbpahmphaaKa19
namespace Go.Proofs.Ytlbomnbpahmphaa
open Go.RowKit

/-- The program that is at hand: it lies at its slices; lists of labels are not too long. -/
structure PrAt (base : Nat) (P : Pr) (w : World) (v : Value) : Prop where
  val : ∃ fo fc co cc, v = .agg #[.slice fo P.funs.length fc, .slice co P.cos.length cc] ∧ FunsAt base w fo P.funs ∧ CosB base w co P.cos
  lab : ∀ f ∈ P.funs, ∀ x ∈ f, x.l.length ≤ 17592186043904

theorem PrAt.fr {base : Nat} {P : Pr} {w w' : World} {v : Value} {E : Nat → Prop} (h : PrAt base P w v) (f : Fr E w w') (hE : High base E) : PrAt base P w' v := by
  obtain ⟨⟨fo, fc, co, cc, e, h1, h2⟩, h3⟩ := h
  exact ⟨⟨fo, fc, co, cc, e, h1.fr f hE, h2.fr f hE⟩, h3⟩

/-- A machine at its beginning. -/
def St.new (words : Int) : St := ⟨⟨roomOf words, []⟩, [], [], [], 0, 0⟩

theorem valid_args {P : Pr} (h : validS P = true) : ∀ x ∈ P.cos, x.args ≤ 1000000000 := by
  unfold validS at h
  split at h
  · cases h
  · rw [Bool.and_eq_true, List.all_eq_true] at h
    intro x hx
    have := h.1 x hx
    unfold coroutineS at this
    split at this
    · cases this
    · simp only [Bool.and_eq_true, decide_eq_true_eq] at this
      obtain ⟨⟨h1, h2⟩, h3⟩ := this
      have := (withinS_iff.1 h3).2
      omega

theorem new_m {base : Nat} {P : Pr} {w : World} {v : Value} (h : PrAt base P w v) (hb : base ≤ w.heap.size) (words : Int) :
    Calls Try.prog 11 #[v, .int .i64 words] w fun e w' => Fr Non w w' ∧ if validS P = true then ∃ m A, e = .returned (.tuple #[ptr m, .int .i64 0]) ∧ MInv base P A w' m (St.new words) ∧ (∀ x, A x → w.heap.size ≤ x) else e = .returned (.tuple #[.pointer none, .int .i64 30]) := by
  obtain ⟨⟨fo, fc, co, cc, rfl, h1, h2⟩, h3⟩ := h
  have hV : ∀ w1, Fr Non w w1 → Calls Try.prog 28 #[.agg #[.slice fo P.funs.length fc, .slice co P.cos.length cc]] w1 fun e w' => e = .returned (.bool (validS P)) ∧ Fr Non w1 w' :=
    fun w1 f => valid_c fo fc co cc (h1.fr f (high_non _)) (h2.fr f (high_non _)) h3
  cases hv : validS P with
  | false =>
    rw [hv] at hV
    refine (new_bad w fo _ fc co _ cc words hV).mono ?_
    rintro e w' ⟨rfl, hf⟩
    exact ⟨hf, by rw [if_neg (by simp)]⟩
  | true =>
    rw [hv] at hV
    refine (new_good w fo _ fc co _ cc words hV).mono ?_
    rintro e w' ⟨g, mb, eb, rfl, r1, r2, he, hg, hm, hee, n1, n2, hf⟩
    refine ⟨hf, ?_⟩
    rw [if_pos rfl]
    have hgm : mb ≠ g := r2.ne r1 (by decide)
    refine ⟨g, fun x => x = g ∨ x = mb ∨ x = eb, rfl, ⟨⟨fo, co, fc, cc, mb, eb, .slice none 0 0, .slice none 0 0, fun x => x = mb, []⟩, ?_⟩, ?_⟩
    · have hlt : eb < w'.heap.size := (List.getElem?_eq_some_iff.1 (by rw [← Array.getElem?_toList] at he; exact he)).1 |> fun h => by simpa using h
      refine { high := ?_, lt := ?_, row := r1, funs := h1.fr hf (high_non _), cos := h2.fr hf (high_non _), mem := MI.new (by unfold roomOf; omega) (by unfold roomOf; omega) r2, ev := ⟨#[], 0, he, rfl, fun x hx => by simp at hx⟩, told := Own.nil _ _ _, stk := Own.nil _ _ _, len := rfl, nodup := List.nodup_nil, cls := fun i b c hb => by simp at hb, om := Or.inl rfl, oe := Or.inr (Or.inr rfl), od := fun x hx => Or.inr (Or.inl hx), ot := fun x hx => (by cases hx), os := fun x hx => (by cases hx), ob := fun x hx => (by cases hx), sep := ?_ }
      · rintro x (rfl | rfl | rfl) <;> omega
      · rintro x (rfl | rfl | rfl)
        · exact r1.lt
        · exact r2.lt
        · exact hlt
      · rintro x rfl
        exact ⟨hgm, fun e => n2 e.symm, (by simp [Value.ownBlock]), (by simp [Value.ownBlock]), by simp⟩
    · rintro x (rfl | rfl | rfl) <;> assumption

end Go.Proofs.Ytlbomnbpahmphaa

/- Walk: the tiny program of layer 3. No condition. -/
namespace Go.Proofs.Ytlbomnbpahmphaa
open Go.RowKit

def tinyP : Pr := ⟨[[⟨1, 1, 0, 0, []⟩, ⟨3, 2, 1, 0, []⟩, ⟨14, 2, 0, 0, [7]⟩, ⟨0, 3, 1, 0, []⟩, ⟨4, 1, 3, 0, []⟩, ⟨0, 4, 7, 0, []⟩, ⟨20, 4, 0, 0, []⟩, ⟨1, 1, 1, 0, []⟩, ⟨0, 4, 8, 0, []⟩, ⟨4, 1, 4, 0, []⟩, ⟨27, 0, 0, 0, []⟩], [⟨29, 0, 0, 0, []⟩]], [⟨⟨#[]⟩, 0, 1, 3, 0⟩]⟩

set_option maxRecDepth 100000 in
theorem tiny_at {W : World} {n : Nat} (r1 : Row W (n + 1) 3 [.int .i64 7]) (r2 : Row W (n + 1 + 1) 112 [.int .i64 1, .int .i64 1, .int .i64 0, .int .i64 0, .slice none 0 0, .int .i64 3, .int .i64 2, .int .i64 1, .int .i64 0, .slice none 0 0, .int .i64 14, .int .i64 2, .int .i64 0, .int .i64 0, .slice (some ⟨n + 1, 0, none⟩) 1 1, .int .i64 0, .int .i64 3, .int .i64 1, .int .i64 0, .slice none 0 0, .int .i64 4, .int .i64 1, .int .i64 3, .int .i64 0, .slice none 0 0, .int .i64 0, .int .i64 4, .int .i64 7, .int .i64 0, .slice none 0 0, .int .i64 20, .int .i64 4, .int .i64 0, .int .i64 0, .slice none 0 0, .int .i64 1, .int .i64 1, .int .i64 1, .int .i64 0, .slice none 0 0, .int .i64 0, .int .i64 4, .int .i64 8, .int .i64 0, .slice none 0 0, .int .i64 4, .int .i64 1, .int .i64 4, .int .i64 0, .slice none 0 0, .int .i64 27, .int .i64 0, .int .i64 0, .int .i64 0, .slice none 0 0]) (r3 : Row W (n + 1 + 1 + 1) 112 [.int .i64 29, .int .i64 0, .int .i64 0, .int .i64 0, .slice none 0 0]) (r4 : Row W (n + 1 + 1 + 1 + 1) 76 [.slice (some ⟨n + 1 + 1, 0, none⟩) 11 11, .slice (some ⟨n + 1 + 1 + 1, 0, none⟩) 1 1]) (r5 : Row W (n + 1 + 1 + 1 + 1 + 1) 84 [.string ⟨#[]⟩, .int .i64 0, .int .i64 1, .int .i64 3, .int .i64 0]) : PrAt W.heap.size tinyP W (.agg #[.slice (some ⟨n + 1 + 1 + 1 + 1, 0, none⟩) 2 2, .slice (some ⟨n + 1 + 1 + 1 + 1 + 1, 0, none⟩) 1 1]) := by
  have b1 := r1.lt
  have b2 := r2.lt
  have b3 := r3.lt
  have b4 := r4.lt
  have b5 := r5.lt
  refine ⟨⟨_, _, _, _, rfl, ?_, ?_⟩, ?_⟩
  · intro i f hi
    match i, hi with
    | 0, hi =>
      cases hi
      refine ⟨_, 0, _, _, rfl, ⟨b4, r4.cell rfl⟩, ?_⟩
      intro j x hx
      match j, hx with
      | 0, hx => cases hx; exact ⟨_, 0, none, 0, rfl, ⟨b2, r2.cell rfl⟩, ⟨b2, r2.cell rfl⟩, ⟨b2, r2.cell rfl⟩, ⟨b2, r2.cell rfl⟩, ⟨b2, r2.cell rfl⟩, fun i n h => by cases h⟩
      | 1, hx => cases hx; exact ⟨_, 0, none, 0, rfl, ⟨b2, r2.cell rfl⟩, ⟨b2, r2.cell rfl⟩, ⟨b2, r2.cell rfl⟩, ⟨b2, r2.cell rfl⟩, ⟨b2, r2.cell rfl⟩, fun i n h => by cases h⟩
      | 2, hx => cases hx; exact ⟨_, 0, _, 1, rfl, ⟨b2, r2.cell rfl⟩, ⟨b2, r2.cell rfl⟩, ⟨b2, r2.cell rfl⟩, ⟨b2, r2.cell rfl⟩, ⟨b2, r2.cell rfl⟩, fun i n h => by
          match i, h with
          | 0, h => cases h; exact ⟨_, 0, rfl, b1, r1.cell rfl⟩⟩
      | 3, hx => cases hx; exact ⟨_, 0, none, 0, rfl, ⟨b2, r2.cell rfl⟩, ⟨b2, r2.cell rfl⟩, ⟨b2, r2.cell rfl⟩, ⟨b2, r2.cell rfl⟩, ⟨b2, r2.cell rfl⟩, fun i n h => by cases h⟩
      | 4, hx => cases hx; exact ⟨_, 0, none, 0, rfl, ⟨b2, r2.cell rfl⟩, ⟨b2, r2.cell rfl⟩, ⟨b2, r2.cell rfl⟩, ⟨b2, r2.cell rfl⟩, ⟨b2, r2.cell rfl⟩, fun i n h => by cases h⟩
      | 5, hx => cases hx; exact ⟨_, 0, none, 0, rfl, ⟨b2, r2.cell rfl⟩, ⟨b2, r2.cell rfl⟩, ⟨b2, r2.cell rfl⟩, ⟨b2, r2.cell rfl⟩, ⟨b2, r2.cell rfl⟩, fun i n h => by cases h⟩
      | 6, hx => cases hx; exact ⟨_, 0, none, 0, rfl, ⟨b2, r2.cell rfl⟩, ⟨b2, r2.cell rfl⟩, ⟨b2, r2.cell rfl⟩, ⟨b2, r2.cell rfl⟩, ⟨b2, r2.cell rfl⟩, fun i n h => by cases h⟩
      | 7, hx => cases hx; exact ⟨_, 0, none, 0, rfl, ⟨b2, r2.cell rfl⟩, ⟨b2, r2.cell rfl⟩, ⟨b2, r2.cell rfl⟩, ⟨b2, r2.cell rfl⟩, ⟨b2, r2.cell rfl⟩, fun i n h => by cases h⟩
      | 8, hx => cases hx; exact ⟨_, 0, none, 0, rfl, ⟨b2, r2.cell rfl⟩, ⟨b2, r2.cell rfl⟩, ⟨b2, r2.cell rfl⟩, ⟨b2, r2.cell rfl⟩, ⟨b2, r2.cell rfl⟩, fun i n h => by cases h⟩
      | 9, hx => cases hx; exact ⟨_, 0, none, 0, rfl, ⟨b2, r2.cell rfl⟩, ⟨b2, r2.cell rfl⟩, ⟨b2, r2.cell rfl⟩, ⟨b2, r2.cell rfl⟩, ⟨b2, r2.cell rfl⟩, fun i n h => by cases h⟩
      | 10, hx => cases hx; exact ⟨_, 0, none, 0, rfl, ⟨b2, r2.cell rfl⟩, ⟨b2, r2.cell rfl⟩, ⟨b2, r2.cell rfl⟩, ⟨b2, r2.cell rfl⟩, ⟨b2, r2.cell rfl⟩, fun i n h => by cases h⟩
    | 1, hi =>
      cases hi
      refine ⟨_, 0, _, _, rfl, ⟨b4, r4.cell rfl⟩, ?_⟩
      intro j x hx
      match j, hx with
      | 0, hx => cases hx; exact ⟨_, 0, none, 0, rfl, ⟨b3, r3.cell rfl⟩, ⟨b3, r3.cell rfl⟩, ⟨b3, r3.cell rfl⟩, ⟨b3, r3.cell rfl⟩, ⟨b3, r3.cell rfl⟩, fun i n h => by cases h⟩
  · intro _
    refine ⟨_, 0, rfl, fun j u hu => ?_⟩
    have hj := (List.getElem?_eq_some_iff.1 hu).1
    match j, hu with
    | 0, hu => cases hu; exact ⟨b5, r5.cell rfl⟩
    | 1, hu => cases hu; exact ⟨b5, r5.cell rfl⟩
    | 2, hu => cases hu; exact ⟨b5, r5.cell rfl⟩
    | 3, hu => cases hu; exact ⟨b5, r5.cell rfl⟩
    | 4, hu => cases hu; exact ⟨b5, r5.cell rfl⟩
  · decide


theorem tiny_res {W : World} {n : Nat} {x0 x1 : Value} (r0 : Row W n 25 [x0, x1]) (a : Array Value) (ha : a.getD 0 undef = ptr n) : (results Try.f27 a).run Try.prog W = .ok (.agg #[x0, x1]) W := by
  have q0 := r0.cell (o := 0) rfl
  have q1 := r0.cell (o := 1) rfl
  have ha2 : a[0]?.getD undef = .pointer (some ⟨n, 0, none⟩) := by rw [← Array.getD_eq_getD_getElem?]; exact ha
  simp [results, Try.results27, go_sem, ha2, q0, q1]

set_option maxRecDepth 100000 in
set_option maxHeartbeats 1000000 in
theorem tiny_c (w : World) : Calls Try.prog 27 #[] w fun e w' => ∃ v, e = .returned v ∧ PrAt w'.heap.size tinyP w' v ∧ Fr Non w w' := by
  go_enter Try.func27, Try.ntmps27
  go_wp2_with fail
  refine bodyPost_ret (v := .agg #[.slice (some ⟨w.heap.size + 1 + 1 + 1 + 1, 0, none⟩) 2 2, .slice (some ⟨w.heap.size + 1 + 1 + 1 + 1 + 1, 0, none⟩) 1 1]) ?_ rfl ?_
  · exact tiny_res (n := w.heap.size) ((((((Row.new' rfl).alloc _).alloc _).alloc _).alloc _).alloc _) _ rfl
  · refine ⟨_, rfl, tiny_at (n := w.heap.size) ?_ ?_ ?_ ?_ ?_, ?_⟩
    · exact ((((Row.new' (by simp)).alloc _).alloc _).alloc _).alloc _
    · exact (((Row.new' (by simp)).alloc _).alloc _).alloc _
    · exact ((Row.new' (by simp)).alloc _).alloc _
    · exact (Row.new' (by simp)).alloc _
    · exact Row.new' (by simp)
    · exact (by repeat (first | exact Fr.refl _ _ | assumption | refine Fr.drewN ?_ _ | refine Fr.drew ?_ | refine Fr.drewl ?_ | refine Fr.drewNl ?_ _ | refine Fr.alloc ?_ _))

end Go.Proofs.Ytlbomnbpahmphaa
