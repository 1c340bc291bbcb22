/- The plain laws of layer 21, as the laws ask them. No condition. -/
import Derived.Test.YtlbomnbpahmphaaGreatR42
import Derived.Test.YtlbomnbpahmphaaGreatR43
import Derived.Test.YtlbomnbpahmphaaGreatR18
namespace Go.Proofs.YtlbomnbpahmphaaGreat

theorem endsB_iff (l : List Ev) : endsB l = true ↔ endsL l := by
 unfold endsB endsL
 cases h : l.getLast? with
 | none => simp
 | some e =>
  simp only [Bool.or_eq_true, beq_iff_eq, Option.some.injEq, exists_eq_left']
  unfold marked
  exact Iff.rfl

section
variable {P : Pr} {opn : List Bool} {fuel words tasks : Int}

theorem begins_x (l m : List Ax) : (∃ t, runX P opn (l ++ m) fuel words tasks = runX P opn l fuel words tasks ++ t) ∧ (endsB (runX P opn l fuel words tasks) = true → runX P opn (l ++ m) fuel words tasks = runX P opn l fuel words tasks) := by
 unfold runX
 by_cases hv : validS P = true
 · simp only [if_pos hv, List.map_append]
   have := begins (E := ⟨P, opn, fuel, max tasks 0⟩) (Dr.new words) (fun e he => by cases he) rfl (fun e he => by cases he) (l.map Ax.sc) (m.map Ax.sc)
   exact ⟨this.1, fun h => this.2 ((endsB_iff _).1 h)⟩
 · simp only [if_neg hv]
   exact ⟨⟨[], rfl⟩, fun _ => trivial⟩
/-- A trace is not too long. -/
theorem runX_len (hf : fuel ≤ 3000) (l : List Ax) (hl : l.length ≤ 45) (hlab : ∀ f ∈ P.funs, ∀ x ∈ f, x.l.length ≤ 17592186043904) : (runX P opn l fuel words tasks).length ≤ 1000000 := by
 unfold runX
 by_cases hv : validS P = true
 · simp only [if_pos hv]
   have hP := valid_good hv hlab
   have h : ∀ (m : List Sc) (D : Dr) (k : Nat), DFew k D → k + 2 * m.length ≤ 100 → (runD ⟨P, opn, fuel, max tasks 0⟩ D m).trace.length ≤ 700000 := by
    intro m
    induction m with
    | nil => intro D k hD hk; have := hD.tr; simp only [List.length_nil] at hk; show D.trace.length ≤ _; omega
    | cons a m ih =>
     intro D k hD hk
     simp only [List.length_cons] at hk
     have hn := nextD_few (E := ⟨P, opn, fuel, max tasks 0⟩) hD (by omega) hP hf a
     rw [runD]
     split
     · have := hn.tr; omega
     · exact ih _ (k + 2) hn (by omega)
   have := h (l.map Ax.sc) (Dr.new words) 0 (newD_few words) (by simp; omega)
   omega
 · simp only [if_neg hv]
   decide
end

end Go.Proofs.YtlbomnbpahmphaaGreat
