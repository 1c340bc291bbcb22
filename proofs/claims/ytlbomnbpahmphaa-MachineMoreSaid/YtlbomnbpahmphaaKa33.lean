/- The plain law: an act on a machine leaves few more events, and few more blocks. Condition: the program is checked. -/
import Derived.Test.YtlbomnbpahmphaaKa18
namespace Go.Proofs.Ytlbomnbpahmphaa

/-- At most so many more events, and blocks. -/
structure Grow (n : Nat) (S S' : St) : Prop where
  told : S'.told.length ≤ S.told.length + n
  mem : S'.mem.blocks.length ≤ S.mem.blocks.length + n

section
variable {P : Pr} {kinds : List Int} {S S' S2 : St}

theorem Grow.refl (n : Nat) (S : St) : Grow n S S := ⟨by omega, by omega⟩
theorem Grow.trans {a b : Nat} (h : Grow a S S') (k : Grow b S' S2) : Grow (a + b) S S2 := ⟨by have := h.1; have := k.1; omega, by have := h.2; have := k.2; omega⟩
theorem Grow.le {a b : Nat} (h : Grow a S S') (hab : a ≤ b) : Grow b S S' := ⟨by have := h.1; omega, by have := h.2; omega⟩
theorem Kept.grow {a : Nat} (h : Kept a S S') : Grow a S S' := ⟨h.1, h.2⟩

theorem runS_grow (hP : PrGood P kinds) : ∀ (f : Nat) (o : Out) (S : St), (o = none → S.stack ≠ [] ∧ GoodL P kinds S.stack) → Grow f S (runS P f o S).2
  | f, some r, S, _ => by
    have : runS P f (some r) S = (r, S) := by cases f <;> rfl
    rw [this]
    exact Grow.refl _ _
  | 0, none, S, _ => Grow.refl _ _
  | f + 1, none, S, h => by
    obtain ⟨h1, h2⟩ := h rfl
    obtain ⟨c, l, hs⟩ := List.exists_cons_of_ne_nil h1
    have hk := stepS_ok (P := P) (kinds := kinds) (S := { S with fuel := (f : Int) }) hP (c := c) (l := l) hs h2
    have h3 := runS_grow hP f (stepS P { S with fuel := (f : Int) }).1 (stepS P { S with fuel := (f : Int) }).2 hk.2
    have h4 : Grow 1 S (stepS P { S with fuel := (f : Int) }).2 := ⟨hk.1.1, hk.1.2⟩
    have := h4.trans h3
    rw [runS]
    exact this.le (by omega)

theorem pollS_grow (hP : PrGood P kinds) (p : Wd) (task fuel : Int) : Grow (fuel.toNat + 1) S (pollS P S p task fuel).2 := by
  have hg : GoodL P kinds (S.begin task fuel).stack := trivial
  have h1 := goOnS_ok (S := S.begin task fuel) hP hg p (Cl.new Wd.zero 0 0 0) rfl (Or.inl rfl) (fun e => by simp [Cl.new] at e) (fun d l e => by simp [St.begin] at e)
  have h2 := runS_grow hP fuel.toNat _ _ h1.2
  have h3 : Grow 1 S (goOnS P (S.begin task fuel) p (Cl.new Wd.zero 0 0 0)).2 := ⟨h1.1.1, h1.1.2⟩
  have h4 := (h3.trans h2).le (b := fuel.toNat + 1) (by omega)
  unfold pollS
  simp only
  split
  · split
    · exact h4
    · exact h4
  · exact h4

theorem cancelS_grow (hP : PrGood P kinds) (p : Wd) (task fuel : Int) : Grow (fuel.toNat + 1) S (cancelS P S p task fuel).2 := by
  have hg : GoodL P kinds (S.begin task fuel).stack := trivial
  have h1 := stopS_ok (S := S.begin task fuel) hP hg p
  have h2 := runS_grow hP fuel.toNat _ _ h1.2
  have h3 : Grow 1 S (stopS P (S.begin task fuel) p).2 := ⟨h1.1.1, h1.1.2⟩
  exact (h3.trans h2).le (b := fuel.toNat + 1) (by omega)

theorem argsS_len (p : Wd) : ∀ (l : List Int) (i : Nat) (M : Mem), (argsS M p i l).blocks.length = M.blocks.length
  | [], _, _ => rfl
  | n :: l, i, M => by rw [argsS, argsS_len p l, store_len]

theorem startS_grow (co : Int) (l : List Int) : Grow 1 S (startS P S co l).1 := by
  have hf := frame_len P S.mem co
  unfold startS
  split
  · exact Grow.refl _ _
  · split
    · exact ⟨by simp, hf⟩
    · exact ⟨by simp, by simp only [argsS_len]; exact hf⟩

theorem startS_told (P : Pr) (S : St) (co : Int) (l : List Int) : (startS P S co l).1.told = S.told := by
  unfold startS
  split
  · rfl
  · split <;> rfl
theorem completeS_told (S : St) (k n : Int) : (completeS S k n).told = S.told := by
  unfold completeS
  split <;> rfl

theorem completeS_grow (k n : Int) : Grow 0 S (completeS S k n) := by
  unfold completeS
  split
  · exact Grow.refl _ _
  · exact ⟨by simp, by simp⟩
end

end Go.Proofs.Ytlbomnbpahmphaa
