/- What lies below a base lies below each higher base. No condition. -/
import Derived.Test.YtlbomnbpahmphaaGreatR38
import Derived.Test.YtlbomnbpahmphaaGreatR24
namespace Go.Proofs.YtlbomnbpahmphaaGreat

section
variable {base base' : Nat} {w : World} {ao : Option Addr} {P : Pr} {v : Value}
theorem CB.up {b o : Nat} {v : Value} (h : CB base w b o v) (hb : base ≤ base') : CB base' w b o v := ⟨Nat.lt_of_lt_of_le h.1 hb, h.2⟩
theorem IntsAt.up {l : List Int} (h : IntsAt base w ao l) (hb : base ≤ base') : IntsAt base' w ao l := fun i n hn => by
 obtain ⟨b, o, e, h1⟩ := h i n hn
 exact ⟨b, o, e, h1.up hb⟩
theorem InsAt.up {l : List In} (h : InsAt base w ao l) (hb : base ≤ base') : InsAt base' w ao l := fun i x hx => by
 obtain ⟨b, o, la, lc, e, h0, h1, h2, h3, h4, h5⟩ := h i x hx
 exact ⟨b, o, la, lc, e, h0.up hb, h1.up hb, h2.up hb, h3.up hb, h4.up hb, h5.up hb⟩
theorem FunsAt.up {l : List (List In)} (h : FunsAt base w ao l) (hb : base ≤ base') : FunsAt base' w ao l := fun i x hx => by
 obtain ⟨b, o, la, lc, e, h0, h1⟩ := h i x hx
 exact ⟨b, o, la, lc, e, h0.up hb, h1.up hb⟩
theorem CosB.up {l : List Cr} (h : CosB base w ao l) (hb : base ≤ base') : CosB base' w ao l := fun hl => by
 obtain ⟨b, o, e, h1⟩ := h hl
 exact ⟨b, o, e, fun j u hu => (h1 j u hu).up hb⟩
theorem PrAt.up (h : PrAt base P w v) (hb : base ≤ base') : PrAt base' P w v := by
 obtain ⟨⟨fo, fc, co, cc, e, h1, h2⟩, h3⟩ := h
 exact ⟨⟨fo, fc, co, cc, e, h1.up hb, h2.up hb⟩, h3⟩
theorem AxAt.up {l : List Ax} (h : AxAt base w ao l) (hb : base ≤ base') : AxAt base' w ao l := fun i x hx => by
 obtain ⟨b, o, la, lc, e, h0, h1, h2, h3, h4⟩ := h i x hx
 exact ⟨b, o, la, lc, e, h0.up hb, h1.up hb, h2.up hb, h3.up hb, h4.up hb⟩
theorem BoolsAt.up {l : List Bool} (h : BoolsAt base w ao l) (hb : base ≤ base') : BoolsAt base' w ao l := fun i b hi => by
 obtain ⟨g, o, e, h0⟩ := h i b hi
 exact ⟨g, o, e, h0.up hb⟩
/-- The beginning of what lies there. -/
theorem AxAt.take {l : List Ax} (h : AxAt base w ao l) (n : Nat) : AxAt base w ao (l.take n) := fun i x hx => by
 rw [List.getElem?_take] at hx
 split at hx
 · exact h i x hx
 · cases hx
end

end Go.Proofs.YtlbomnbpahmphaaGreat
