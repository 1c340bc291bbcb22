/- The plain law: an act of a script leaves few more blocks, events, tasks. Conditions: the program is checked; fuel is little. -/
import Derived.Test.YtlbomnbpahmphaaGreatR18
import Derived.Test.YtlbomnbpahmphaaGreatR16
import Derived.Test.YtlbomnbpahmphaaGreatR19
namespace Go.Proofs.YtlbomnbpahmphaaGreat

/-- Few of all, behind so many acts. -/
structure DFew (k : Nat) (D : Dr) : Prop where
 told : D.S.told = []
 blk : D.S.mem.blocks.length ≤ k * 7000
 tr : D.trace.length ≤ k * 7000
 tk : D.tasks.length ≤ k
 fr : D.frames.length ≤ k
 qu : D.queue.length ≤ k * 200

/-- At most so many more blocks, events, and places in the queue. -/
structure Few1 (b t q : Nat) (D D' : Dr) : Prop where
 told : D.S.told = [] → D'.S.told = []
 blk : D'.S.mem.blocks.length ≤ D.S.mem.blocks.length + b
 tr : D.S.told = [] → D'.trace.length ≤ D.trace.length + t
 tk : D'.tasks.length = D.tasks.length
 fr : D'.frames = D.frames
 qu : D'.queue.length ≤ D.queue.length + q

section
variable {D D' D2 : Dr} {E : En} {n : Int} {b t q b' t' q' k : Nat} {kinds : List Int} {P : Pr}

theorem Few1.refl (D : Dr) : Few1 0 0 0 D D := ⟨id, by omega, fun _ => by omega, rfl, rfl, by omega⟩
theorem Few1.trans (h : Few1 b t q D D') (g : Few1 b' t' q' D' D2) : Few1 (b + b') (t + t') (q + q') D D2 :=
 ⟨fun e => g.told (h.told e), by have := h.blk; have := g.blk; omega, fun e => by have := h.tr e; have := g.tr (h.told e); omega, g.tk.trans h.tk, g.fr.trans h.fr, by have := h.qu; have := g.qu; omega⟩
theorem Few1.le (h : Few1 b t q D D') (hb : b ≤ b') (ht : t ≤ t') (hq : q ≤ q') : Few1 b' t' q' D D' :=
 ⟨h.told, by have := h.blk; omega, fun e => by have := h.tr e; omega, h.tk, h.fr, by have := h.qu; omega⟩
theorem Few1.tell (D : Dr) (l : List Ev) : Few1 0 l.length 0 D (D.tell l) := ⟨id, by simp [Dr.tell], fun _ => by simp [Dr.tell], rfl, rfl, by simp [Dr.tell]⟩
theorem Few1.stop (D : Dr) (e : Ev) : Few1 0 1 0 D (D.stop e) := ⟨id, by simp [Dr.stop], fun _ => by simp [Dr.stop], rfl, rfl, by simp [Dr.stop]⟩
theorem Few1.out (D : Dr) (n : Int) : Few1 0 0 0 D (D.out n) := ⟨id, by simp [Dr.out], fun _ => by simp [Dr.out], rfl, rfl, List.length_filter_le _ _⟩
theorem Few1.put (D : Dr) (n : Int) (u : Tk) : Few1 0 0 0 D (D.put n u) := ⟨id, by simp [Dr.put], fun _ => by simp [Dr.put], by simp [Dr.put], rfl, by simp [Dr.put]⟩
theorem Few1.ready (D : Dr) (n : Int) : Few1 0 0 1 D (D.ready n) := by
 unfold Dr.ready
 split
 · exact (Few1.refl D).le (by omega) (by omega) (by omega)
 · exact ⟨id, by simp, fun _ => by simp, rfl, rfl, by simp⟩
theorem Few1.marks (D : Dr) (o : Int × Int) : Few1 0 1 0 D (D.marks o) := by
 unfold Dr.marks
 split
 · exact Few1.stop D _
 · split
   · exact Few1.stop D _
   · split
     · exact Few1.stop D _
     · exact (Few1.refl D).le (by omega) (by omega) (by omega)
theorem Few1.took {m : Nat} {S' : St} (h : Grow m D.S S') : Few1 m m 0 D ({ D with S := S' } : Dr).took := by
 refine ⟨fun _ => rfl, h.mem, fun e => ?_, rfl, rfl, by simp [Dr.took]⟩
 have := h.told
 rw [e] at this
 simp only [Dr.took, List.length_append, List.length_nil] at this ⊢
 omega

theorem endsD_few (hP : PrGood E.P kinds) (n : Int) (e : Ev) : Few1 (E.fuel.toNat + 1) (E.fuel.toNat + 3) 0 D (endsD E D n e) := by
 unfold endsD
 simp only
 have h1 := (Few1.took (cancelS_grow (S := D.S) hP (D.frame n) n E.fuel)).trans (Few1.marks ({ D with S := (cancelS E.P D.S (D.frame n) n E.fuel).2 } : Dr).took (cancelS E.P D.S (D.frame n) n E.fuel).1)
 generalize (({ D with S := (cancelS E.P D.S (D.frame n) n E.fuel).2 } : Dr).took.marks (cancelS E.P D.S (D.frame n) n E.fuel).1) = D1 at *
 split
 · exact h1.le (by omega) (by omega) (by omega)
 · exact (((h1.trans (Few1.tell _ _)).trans (Few1.out _ _)).trans (Few1.put _ _ _)).le (by omega) (by simp) (by omega)

theorem pollD_few (hP : PrGood E.P kinds) (n : Int) : Few1 (2 * (E.fuel.toNat + 1)) (2 * (E.fuel.toNat + 3)) 1 D (pollD E D n) := by
 unfold pollD
 simp only
 have h0 := (Few1.out D n).trans (Few1.put (D.out n) n { D.task n with waits := false })
 generalize (D.out n).put n { D.task n with waits := false } = D0 at *
 have h1 := h0.trans ((Few1.took (pollS_grow (S := D0.S) hP (D0.frame n) n E.fuel)).trans (Few1.marks ({ D0 with S := (pollS E.P D0.S (D0.frame n) n E.fuel).2 } : Dr).took (pollS E.P D0.S (D0.frame n) n E.fuel).1))
 generalize (({ D0 with S := (pollS E.P D0.S (D0.frame n) n E.fuel).2 } : Dr).took.marks (pollS E.P D0.S (D0.frame n) n E.fuel).1) = D1 at *
 split
 · exact h1.le (by omega) (by omega) (by omega)
 · split
   · exact ((h1.trans (Few1.tell _ _)).trans (Few1.ready _ _)).le (by omega) (by simp; omega) (by omega)
   · split
     · exact ((h1.trans (Few1.tell _ _)).trans (Few1.put _ _ _)).le (by omega) (by simp; omega) (by omega)
     · split
       · exact (h1.trans (endsD_few hP _ _)).le (by omega) (by omega) (by omega)
       · split
         · exact (h1.trans (endsD_few hP _ _)).le (by omega) (by omega) (by omega)
         · exact h1.le (by omega) (by omega) (by omega)

theorem wakeD_few (event : Int) : ∀ (k i : Nat) (D : Dr), Few1 0 0 k D (wakeD event D k i)
 | 0, _, D => Few1.refl D
 | k + 1, i, D => by
  rw [wakeD]
  have h2 := wakeD_few event k (i + 1)
  split
  · exact (((Few1.put D _ _).trans (Few1.ready _ _)).trans (h2 _)).le (by omega) (by omega) (by omega)
  · exact (h2 _).le (by omega) (by omega) (by omega)
theorem completeD_few (event m : Int) : Few1 0 0 D.tasks.length D (completeD D event m) := by
 unfold completeD
 have h1 : Few1 0 0 0 D { D with S := completeS D.S event m } := by
  have := (completeS_grow (S := D.S) event m).mem
  exact ⟨fun e => (completeS_told _ _ _).trans e, this, fun _ => by simp, rfl, rfl, by simp⟩
 exact (h1.trans (wakeD_few event D.tasks.length 0 _)).le (by omega) (by omega) (by omega)

theorem DFew.up (h : DFew k D) (g : Few1 b t q D D') (hb : b ≤ 7000) (ht : t ≤ 7000) (hq : q ≤ 200) : DFew (k + 1) D' := by
 obtain ⟨h1, h2, h3, h4, h5, h6⟩ := h
 obtain ⟨g1, g2, g3, g4, g5, g6⟩ := g
 have := g3 h1
 exact ⟨g1 h1, by omega, by omega, by omega, by rw [g5]; omega, by omega⟩

theorem Few1.few (g : Few1 b t q D D') (h1 : D.S.told = []) (h2 : D.S.mem.blocks.length + b ≤ k * 7000) (h3 : D.trace.length + t ≤ k * 7000) (h4 : D.tasks.length ≤ k) (h5 : D.frames.length ≤ k) (h6 : D.queue.length + q ≤ k * 200) : DFew k D' := by
 obtain ⟨g1, g2, g3, g4, g5, g6⟩ := g
 have := g3 h1
 exact ⟨g1 h1, by omega, by omega, by omega, by rw [g5]; omega, by omega⟩

theorem spawnD_few (h : DFew k D) (co : Int) (l : List Int) : DFew (k + 1) (spawnD E D co l) := by
 unfold spawnD
 split
 · exact h.up (Few1.stop D _) (by omega) (by omega) (by omega)
 · simp only
   have hs : ∃ S' fr, (startD E D co l).1 = { D with S := S', frames := fr } ∧ S'.told = D.S.told ∧ S'.mem.blocks.length ≤ D.S.mem.blocks.length + 1 ∧ fr.length ≤ D.frames.length + 1 := by
    unfold startD
    have hg := (startS_grow (P := E.P) (S := D.S) co l).mem
    have ht := startS_told E.P D.S co l
    split
    · split
      · exact ⟨_, _, rfl, ht, hg, by simp⟩
      · exact ⟨_, _, rfl, ht, hg, by simp⟩
    · exact ⟨D.S, D.frames, rfl, rfl, by omega, by omega⟩
   obtain ⟨S', fr, e, h1, h2, h3⟩ := hs
   generalize startD E D co l = r at *
   obtain ⟨r1, r2⟩ := r
   simp only at e ⊢
   subst e
   obtain ⟨k1, k2, k3, k4, k5, k6⟩ := h
   split
   · exact ⟨h1.trans k1, by simp [Dr.stop]; omega, by simp [Dr.stop]; omega, by simp [Dr.stop]; omega, by simp [Dr.stop]; omega, by simp [Dr.stop]; omega⟩
   · split
     · refine ((Few1.ready _ _).trans (Few1.tell _ _)).few (h1.trans k1) ?_ ?_ ?_ ?_ ?_
       · show S'.mem.blocks.length + (0 + 0) ≤ _; omega
       · show D.trace.length + (0 + 1) ≤ _; omega
       · show (D.tasks ++ [_]).length ≤ _; rw [List.length_append]; simp only [List.length_cons, List.length_nil]; omega
       · show fr.length ≤ _; omega
       · show D.queue.length + (1 + 0) ≤ _; omega
     · exact ⟨h1.trans k1, by simp [Dr.tell]; omega, by simp [Dr.tell]; omega, by simp [Dr.tell]; omega, by simp [Dr.tell]; omega, by simp [Dr.tell]; omega⟩

theorem DFew.mono (h : DFew k D) (hk : k ≤ b) : DFew b D := by
 obtain ⟨k1, k2, k3, k4, k5, k6⟩ := h
 exact ⟨k1, Nat.le_trans k2 (Nat.mul_le_mul_right _ hk), Nat.le_trans k3 (Nat.mul_le_mul_right _ hk), Nat.le_trans k4 hk, Nat.le_trans k5 hk, Nat.le_trans k6 (Nat.mul_le_mul_right _ hk)⟩

theorem actD_few (h : DFew k D) (hk : k ≤ 100) (hP : PrGood E.P kinds) (hf : E.fuel ≤ 3000) (a : Sc) : DFew (k + 1) (actD E D a).1 := by
 have hu : ∀ n, DFew (k + 1) (pollD E D n) := fun n => h.up (pollD_few hP n) (by omega) (by omega) (by omega)
 have he : ∀ n e, DFew (k + 1) (endsD E D n e) := fun n e => h.up (endsD_few hP n e) (by omega) (by omega) (by omega)
 have h0 : DFew (k + 1) D := h.mono (by omega)
 have ht : ∀ e, DFew (k + 1) (D.tell [e]) := fun e => h.up (Few1.tell D [e]) (by omega) (Nat.le_of_ble_eq_true rfl) (by omega)
 unfold actD
 split
 · exact spawnD_few h _ _
 · split
   · simp only
     split
     · exact ht _
     · exact hu _
   · split
     · exact h.up (completeD_few _ _) (by omega) (by omega) (by have := h.tk; omega)
     · split
       · split
         · exact ht _
         · exact h0
       · split
         · simp only
           split
           · exact hu _
           · exact h0
         · split
           · simp only
             split
             · exact h.up (Few1.ready D _) (by omega) (by omega) (by omega)
             · exact h0
           · split
             · simp only
               split
               · exact he _ _
               · exact h0
             · exact h0
theorem nextD_few (h : DFew k D) (hk : k ≤ 100) (hP : PrGood E.P kinds) (hf : E.fuel ≤ 3000) (a : Sc) : DFew (k + 2) (nextD E D a) := by
 have ha := actD_few h hk hP hf a
 unfold nextD
 split
 · exact ha.mono (by omega)
 · split
   · exact ha.mono (by omega)
   · exact ha.up (Few1.tell _ _) (by omega) (Nat.le_of_ble_eq_true rfl) (by omega)
theorem newD_few (words : Int) : DFew 0 (Dr.new words) := ⟨rfl, Nat.le_refl _, Nat.le_refl _, Nat.le_refl _, Nat.le_refl _, Nat.le_refl _⟩

theorem DFew.fewB (h : DFew k D) (hk : k ≤ 100) (hf : E.fuel ≤ 3000) : FewB D.S E.fuel := by
 obtain ⟨k1, k2, k3, k4, k5, k6⟩ := h
 unfold FewB
 rw [k1, List.length_nil]
 omega
/-- Behind a poll all is still few. -/
theorem DFew.polled (h : DFew k D) (hk : k ≤ 100) (hP : PrGood E.P kinds) (hf : E.fuel ≤ 3000) (p : Wd) (n : Int) :
 FewB { (pollS E.P D.S p n E.fuel).2 with told := [] } E.fuel ∧ D.trace.length + (pollS E.P D.S p n E.fuel).2.told.length + 1 + (cancelS E.P { (pollS E.P D.S p n E.fuel).2 with told := [] } p n E.fuel).2.told.length ≤ 100000000 := by
 obtain ⟨k1, k2, k3, k4, k5, k6⟩ := h
 obtain ⟨g1, g2⟩ := pollS_grow (S := D.S) hP p n E.fuel
 obtain ⟨g3, g4⟩ := cancelS_grow (S := { (pollS E.P D.S p n E.fuel).2 with told := [] }) hP p n E.fuel
 rw [k1, List.length_nil] at g1
 have g5 : (cancelS E.P { (pollS E.P D.S p n E.fuel).2 with told := [] } p n E.fuel).2.told.length ≤ 0 + (E.fuel.toNat + 1) := g3
 unfold FewB
 refine ⟨⟨by simp only [List.length_nil]; omega, by simp only; omega, by omega⟩, by omega⟩
theorem DFew.cancelled (h : DFew k D) (hk : k ≤ 100) (hP : PrGood E.P kinds) (hf : E.fuel ≤ 3000) (p : Wd) (n : Int) :
 D.trace.length + (cancelS E.P D.S p n E.fuel).2.told.length ≤ 100000000 := by
 obtain ⟨k1, k2, k3, k4, k5, k6⟩ := h
 obtain ⟨g1, g2⟩ := cancelS_grow (S := D.S) hP p n E.fuel
 rw [k1, List.length_nil] at g1
 omega
end

end Go.Proofs.YtlbomnbpahmphaaGreat
