/- The machine, made anew: it stands well where the code may be run, and is none where not. Conditions: the program lies at its slices, ahead of all that is new. -/
import Derived.Test.YtlbomnbpahmphaaGreatR34
import Derived.Test.YtlbomnbpahmphaaGreatR35
import Derived.Test.YtlbomnbpahmphaaGreatR19
namespace Go.Proofs.YtlbomnbpahmphaaGreat
open Go.RowKit

/-- The program that is at hand: it lies at its slices; lists of labels are not too long. -/
structure PrAt (base : Nat) (P : Pr) (w : World) (v : Value) : Prop where
 val : ∃ fo fc co cc, v = .agg #[.slice fo P.funs.length fc, .slice co P.cos.length cc] ∧ FunsAt base w fo P.funs ∧ CosB base w co P.cos
 lab : ∀ f ∈ P.funs, ∀ x ∈ f, x.l.length ≤ 17592186043904

theorem PrAt.fr {base : Nat} {P : Pr} {w w' : World} {v : Value} {E : Nat → Prop} (h : PrAt base P w v) (f : Fr E w w') (hE : High base E) : PrAt base P w' v := by
 obtain ⟨⟨fo, fc, co, cc, e, h1, h2⟩, h3⟩ := h
 exact ⟨⟨fo, fc, co, cc, e, h1.fr f hE, h2.fr f hE⟩, h3⟩

/-- A machine at its beginning. -/
def St.new (words : Int) : St := ⟨⟨roomOf words, []⟩, [], [], [], 0, 0⟩

theorem valid_args {P : Pr} (h : validS P = true) : ∀ x ∈ P.cos, x.args ≤ 1000000000 := by
 unfold validS at h
 split at h
 · cases h
 · rw [Bool.and_eq_true, List.all_eq_true] at h
   intro x hx
   have := h.1 x hx
   unfold coroutineS at this
   split at this
   · cases this
   · simp only [Bool.and_eq_true, decide_eq_true_eq] at this
     obtain ⟨⟨h1, h2⟩, h3⟩ := this
     have := (withinS_iff.1 h3).2
     omega

theorem new_m {base : Nat} {P : Pr} {w : World} {v : Value} (h : PrAt base P w v) (hb : base ≤ w.heap.size) (words : Int) :
 Calls Tryz.prog 8 #[v, .int .i64 words] w fun e w' => Fr Non w w' ∧ if validS P = true then ∃ m A, e = .returned (.tuple #[ptr m, .int .i64 0]) ∧ MInv base P A w' m (St.new words) ∧ (∀ x, A x → w.heap.size ≤ x) else e = .returned (.tuple #[.pointer none, .int .i64 30]) := by
 obtain ⟨⟨fo, fc, co, cc, rfl, h1, h2⟩, h3⟩ := h
 have hV : ∀ w1, Fr Non w w1 → Calls Tryz.prog 31 #[.agg #[.slice fo P.funs.length fc, .slice co P.cos.length cc]] w1 fun e w' => e = .returned (.bool (validS P)) ∧ Fr Non w1 w' :=
  fun w1 f => valid_c fo fc co cc (h1.fr f (high_non _)) (h2.fr f (high_non _)) h3
 cases hv : validS P with
 | false =>
  rw [hv] at hV
  refine (new_bad w fo _ fc co _ cc words hV).mono ?_
  rintro e w' ⟨rfl, hf⟩
  exact ⟨hf, by rw [if_neg (by simp)]⟩
 | true =>
  rw [hv] at hV
  refine (new_good w fo _ fc co _ cc words hV).mono ?_
  rintro e w' ⟨g, mb, eb, rfl, r1, r2, he, hg, hm, hee, n1, n2, hf⟩
  refine ⟨hf, ?_⟩
  rw [if_pos rfl]
  have hgm : mb ≠ g := r2.ne r1 (by decide)
  refine ⟨g, fun x => x = g ∨ x = mb ∨ x = eb, rfl, ⟨⟨fo, co, fc, cc, mb, eb, .slice none 0 0, .slice none 0 0, fun x => x = mb, []⟩, ?_⟩, ?_⟩
  · have hlt : eb < w'.heap.size := (List.getElem?_eq_some_iff.1 (by rw [← Array.getElem?_toList] at he; exact he)).1 |> fun h => by simpa using h
    refine { high := ?_, lt := ?_, row := r1, funs := h1.fr hf (high_non _), cos := h2.fr hf (high_non _), mem := MI.new (by unfold roomOf; omega) (by unfold roomOf; omega) r2, ev := ⟨#[], 0, he, rfl, fun x hx => by simp at hx⟩, told := Own.nil _ _ _, stk := Own.nil _ _ _, len := rfl, nodup := List.nodup_nil, cls := fun i b c hb => by simp at hb, om := Or.inl rfl, oe := Or.inr (Or.inr rfl), od := fun x hx => Or.inr (Or.inl hx), ot := fun x hx => (by cases hx), os := fun x hx => (by cases hx), ob := fun x hx => (by cases hx), sep := ?_ }
    · rintro x (rfl | rfl | rfl) <;> omega
    · rintro x (rfl | rfl | rfl)
      · exact r1.lt
      · exact r2.lt
      · exact hlt
    · rintro x rfl
      exact ⟨hgm, fun e => n2 e.symm, (by simp [Value.ownBlock]), (by simp [Value.ownBlock]), by simp⟩
  · rintro x (rfl | rfl | rfl) <;> assumption

end Go.Proofs.YtlbomnbpahmphaaGreat

/- Walks: the laws of layer 3: two rows of events that are the same; whether a program is more than is looked at; a frame's word. Conditions: what is read lies there. -/
namespace Go.Proofs.YtlbomnbpahmphaaGreat
open Go.RowKit

/-- Events, as they are read. -/
def Evs (w : World) (ao : Option Addr) (l : List Ev) : Prop := 0 < l.length → ∃ b o, ao = some ⟨b, o, none⟩ ∧ ∀ (j : Nat) (u : Value), (evs l)[j]? = some u → w.cell? ⟨b, o + j, none⟩ = some u
theorem Evs.fr {w w' : World} {ao : Option Addr} {l : List Ev} {E : Nat → Prop} (h : Evs w ao l) (f : Fr E w w') (hE : ∀ a, ao = some a → ¬ E a.block) : Evs w' ao l := fun hl => by
 obtain ⟨b, o, e, hc⟩ := h hl
 exact ⟨b, o, e, fun j u hu => f.cell (hc j u hu) (hE _ e)⟩
theorem Own.evs {w : World} {ao : Option Addr} {n cap : Nat} {l : List Ev} (h : Own w (.slice ao n cap) 74 4 l.length (evs l)) : n = l.length ∧ Evs w ao l := by
 obtain ⟨ao', cap', e, _, _, h1, _⟩ := h.form
 cases e
 refine ⟨rfl, fun hl => ?_⟩
 obtain ⟨g, rfl⟩ := h1 hl
 exact ⟨g, 0, rfl, fun j u hu => by rw [Nat.zero_add]; exact h.cell rfl hu⟩

theorem evs_get' {l : List Ev} {i : Nat} {x : Ev} (h : l[i]? = some x) :
 (evs l)[i * 4]? = some (.int .i64 x.kind) ∧ (evs l)[i * 4 + 1]? = some (.int .i64 x.task) ∧ (evs l)[i * 4 + 2]? = some (.int .i64 x.a) ∧ (evs l)[i * 4 + 3]? = some (.int .i64 x.n) := by
 induction l generalizing i with
 | nil => simp at h
 | cons y l ih =>
  cases i with
  | zero => simp at h; subst h; simp [evs, Ev.cs]
  | succ i =>
   have := ih (by simpa using h)
   have e : evs (y :: l) = .int .i64 y.kind :: .int .i64 y.task :: .int .i64 y.a :: .int .i64 y.n :: evs l := rfl
   rw [e, show (i + 1) * 4 = i * 4 + 4 by omega]
   exact this

end Go.Proofs.YtlbomnbpahmphaaGreat
