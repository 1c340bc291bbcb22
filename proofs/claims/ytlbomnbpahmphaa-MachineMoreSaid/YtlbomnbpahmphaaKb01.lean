/- Two machines, two rows of words, and boxes, side by side. No condition. -/
import Derived.Test.YtlbomnbpahmphaaKa19
import Derived.Test.YtlbomnbpahmphaaKa30
namespace Go.Proofs.Ytlbomnbpahmphaa
open Go.RowKit

abbrev Bx := Nat × TypeId × List Value
/-- Boxes that are no machine's. -/
def Boxes (U : Nat → Prop) (w : World) (bs : List Bx) : Prop := ∀ e ∈ bs, Row w e.1 e.2.1 e.2.2 ∧ ¬ U e.1
/-- Two rows of words that are no machine's. -/
structure Two (base : Nat) (U : Nat → Prop) (w : World) (v u : Value) (l : List Wd) (bs : List Bx) : Prop where
  o1 : Own w v 38 3 l.length (flat l)
  o2 : Own w u 38 3 l.length (flat l)
  n1 : ∀ x, v.ownBlock = some x → ¬ U x ∧ base ≤ x ∧ u.ownBlock ≠ some x ∧ ∀ e ∈ bs, e.1 ≠ x
  n2 : ∀ x, u.ownBlock = some x → ¬ U x ∧ base ≤ x ∧ ∀ e ∈ bs, e.1 ≠ x

/-- All that lies side by side. -/
def Pack (base : Nat) (P : Pr) (ma mb : Nat) (w0 w : World) (v u : Value) (l : List Wd) (a b : St) (bs : List Bx) : Prop :=
  ∃ U, Mach base P U w (some (ma, a)) (some (mb, b)) none ∧ Two base U w v u l bs ∧ Boxes U w bs ∧ Fr (fun x => base ≤ x) w0 w

section
variable {base : Nat} {P : Pr} {U U' E : Nat → Prop} {w0 w w' : World} {ma mb : Nat} {v u : Value} {l : List Wd} {a b a' b' : St} {bs : List Bx}

theorem Boxes.to (h : Boxes U w bs) (f : Fr E w w') (hE : ∀ x, E x → U x) (hU : ∀ x, U' x → U x ∨ w.heap.size ≤ x) : Boxes U' w' bs := fun e he => by
  obtain ⟨h1, h2⟩ := h e he
  refine ⟨f.row h1 fun hx => h2 (hE _ hx), fun hx => ?_⟩
  rcases hU _ hx with k | k
  · exact h2 k
  · have := h1.lt; omega
theorem Two.to (h : Two base U w v u l bs) (f : Fr E w w') (hE : ∀ x, E x → U x) (hU : ∀ x, U' x → U x ∨ w.heap.size ≤ x) : Two base U' w' v u l bs := by
  refine ⟨h.o1.fr f fun x hx hxE => (h.n1 x hx).1 (hE _ hxE), h.o2.fr f fun x hx hxE => (h.n2 x hx).1 (hE _ hxE), fun x hx => ⟨fun k => ?_, (h.n1 x hx).2⟩, fun x hx => ⟨fun k => ?_, (h.n2 x hx).2⟩⟩
  · rcases hU _ k with k | k
    · exact (h.n1 x hx).1 k
    · have := h.o1.lt hx; omega
  · rcases hU _ k with k | k
    · exact (h.n2 x hx).1 k
    · have := h.o2.lt hx; omega

theorem Pack.frN (h : Pack base P ma mb w0 w v u l a b bs) (f : Fr Non w w') : Pack base P ma mb w0 w' v u l a b bs := by
  obtain ⟨U, h1, h2, h3, h4⟩ := h
  exact ⟨U, h1.frN f, h2.to f (fun _ h => h.elim) fun _ h => Or.inl h, h3.to f (fun _ h => h.elim) fun _ h => Or.inl h, h4.then f fun _ _ h => h.elim⟩
theorem Pack.row (h : Pack base P ma mb w0 w v u l a b bs) {g : Nat} {T : TypeId} {cs : List Value} (hm : (g, T, cs) ∈ bs) : Row w g T cs := by
  obtain ⟨U, h1, h2, h3, h4⟩ := h
  exact (h3 _ hm).1
theorem Pack.base_le (h : Pack base P ma mb w0 w v u l a b bs) : base ≤ w.heap.size := by
  obtain ⟨U, ⟨A1, A2, A3, k1, k2, k3, _⟩, h2, h3, h4⟩ := h
  have k1' : MInv base P A1 w ma a := k1
  have := k1'.high _ k1'.om
  have := k1'.lt _ k1'.om
  omega
theorem Pack.fr (h : Pack base P ma mb w0 w v u l a b bs) : Fr (fun x => base ≤ x) w0 w := by
  obtain ⟨U, h1, h2, h3, h4⟩ := h
  exact h4
theorem Pack.o1 (h : Pack base P ma mb w0 w v u l a b bs) : Own w v 38 3 l.length (flat l) := by
  obtain ⟨U, h1, h2, h3, h4⟩ := h
  exact h2.o1
theorem Pack.o2 (h : Pack base P ma mb w0 w v u l a b bs) : Own w u 38 3 l.length (flat l) := by
  obtain ⟨U, h1, h2, h3, h4⟩ := h
  exact h2.o2
theorem Pack.less (h : Pack base P ma mb w0 w v u l a b bs) {cs : List Bx} (hs : ∀ e ∈ cs, e ∈ bs) : Pack base P ma mb w0 w v u l a b cs := by
  obtain ⟨U, h1, h2, h3, h4⟩ := h
  exact ⟨U, h1, ⟨h2.o1, h2.o2, fun x hx => ⟨(h2.n1 x hx).1, (h2.n1 x hx).2.1, (h2.n1 x hx).2.2.1, fun e he => (h2.n1 x hx).2.2.2 e (hs e he)⟩, fun x hx => ⟨(h2.n2 x hx).1, (h2.n2 x hx).2.1, fun e he => (h2.n2 x hx).2.2 e (hs e he)⟩⟩, fun e he => h3 e (hs e he), h4⟩
theorem Pack.own1 (h : Pack base P ma mb w0 w v u l a b bs) {e : Bx} (hm : e ∈ bs) : v.ownBlock ≠ some e.1 := by
  obtain ⟨U, h1, h2, h3, h4⟩ := h
  exact fun k => (h2.n1 _ k).2.2.2 e hm rfl
theorem Pack.own2 (h : Pack base P ma mb w0 w v u l a b bs) {e : Bx} (hm : e ∈ bs) : u.ownBlock ≠ some e.1 := by
  obtain ⟨U, h1, h2, h3, h4⟩ := h
  exact fun k => (h2.n2 _ k).2.2 e hm rfl
theorem Pack.own12 (h : Pack base P ma mb w0 w v u l a b bs) {x : Nat} (hx : v.ownBlock = some x) : u.ownBlock ≠ some x := by
  obtain ⟨U, h1, h2, h3, h4⟩ := h
  exact (h2.n1 _ hx).2.2.1
/-- A box more. -/
theorem Pack.box (h : Pack base P ma mb w0 w v u l a b bs) (c : List Value) (T : TypeId) : Pack base P ma mb w0 (w.alloc (.cells c.toArray T)) v u l a b ((w.heap.size, T, c) :: bs) := by
  have hf : Fr Non w (w.alloc (.cells c.toArray T)) := (Fr.refl _ _).alloc _
  obtain ⟨U, h1, h2, h3, h4⟩ := h.frN hf
  obtain ⟨U0, k1, k2, k3, _⟩ := h
  have hlt : ∀ x, U x → x < (w.alloc (.cells c.toArray T)).heap.size := h1.lt
  have hnU0 : ¬ U0 w.heap.size := fun e => by have := k1.lt _ e; omega
  refine ⟨U0, k1.frN hf, ⟨k2.o1.fr hf fun _ _ => id, k2.o2.fr hf fun _ _ => id, fun x hx => ⟨(k2.n1 x hx).1, (k2.n1 x hx).2.1, (k2.n1 x hx).2.2.1, fun e he => ?_⟩, fun x hx => ⟨(k2.n2 x hx).1, (k2.n2 x hx).2.1, fun e he => ?_⟩⟩, fun e he => ?_, h4⟩
  · rcases List.mem_cons.1 he with rfl | he
    · have := k2.o1.lt hx; simp only; omega
    · exact (k2.n1 x hx).2.2.2 e he
  · rcases List.mem_cons.1 he with rfl | he
    · have := k2.o2.lt hx; simp only; omega
    · exact (k2.n2 x hx).2.2 e he
  · rcases List.mem_cons.1 he with rfl | he
    · exact ⟨Row.new w c.toArray T, hnU0⟩
    · exact ⟨hf.row (k3 e he).1 id, (k3 e he).2⟩

/-- A box has changed. -/
theorem Pack.set (h : Pack base P ma mb w0 w v u l a b bs) {g : Nat} {T : TypeId} {cs cs' : List Value} (hm : (g, T, cs) ∈ bs) (hb : base ≤ g) (hr : Row w' g T cs') (f : Fr (fun x => x = g) w w') {bs' : List Bx} (hs : ∀ e ∈ bs', e = (g, T, cs') ∨ (e ∈ bs ∧ e.1 ≠ g)) :
    Pack base P ma mb w0 w' v u l a b bs' := by
  obtain ⟨U, h1, h2, h3, h4⟩ := h
  have hg : ¬ U g := (h3 _ hm).2
  have n1 : ∀ x, v.ownBlock = some x → x ≠ g := fun x hx e => (h2.n1 x hx).2.2.2 _ hm e.symm
  have n2 : ∀ x, u.ownBlock = some x → x ≠ g := fun x hx e => (h2.n2 x hx).2.2 _ hm e.symm
  refine ⟨U, h1.frE f (fun x hx => by subst hx; exact hb) fun x hx e => hg (e ▸ hx), ⟨h2.o1.fr f fun x hx e => n1 x hx e, h2.o2.fr f fun x hx e => n2 x hx e, fun x hx => ⟨(h2.n1 x hx).1, (h2.n1 x hx).2.1, (h2.n1 x hx).2.2.1, fun e he => ?_⟩, fun x hx => ⟨(h2.n2 x hx).1, (h2.n2 x hx).2.1, fun e he => ?_⟩⟩, fun e he => ?_, h4.then f fun x hx e => by subst e; exact hb⟩
  · rcases hs e he with rfl | ⟨k, _⟩
    · exact fun e => n1 x hx e.symm
    · exact (h2.n1 x hx).2.2.2 e k
  · rcases hs e he with rfl | ⟨k, _⟩
    · exact fun e => n2 x hx e.symm
    · exact (h2.n2 x hx).2.2 e k
  · rcases hs e he with rfl | ⟨k, k2⟩
    · exact ⟨hr, hg⟩
    · exact ⟨f.row (h3 e k).1 fun e => k2 e, (h3 e k).2⟩

/-- A step of the first machine; of the second. -/
theorem Pack.stepA (h : Pack base P ma mb w0 w v u l a b bs) {f : FuncId} {args : Array Value} {Q : Ending → Prop} (hc : ∀ A, MInv base P A w ma a → Calls Try.prog f args w fun e w' => Q e ∧ Aft base P A w w' ma a') :
    Calls Try.prog f args w fun e w' => Q e ∧ Pack base P ma mb w0 w' v u l a' b bs ∧ w.heap.size ≤ w'.heap.size := by
  obtain ⟨U, h1, h2, h3, h4⟩ := h
  refine (h1.step hc).mono fun e w' ⟨he, U', k1, k2, k3⟩ => ⟨he, ⟨U', k1, h2.to k3 (fun _ h => h) k2, h3.to k3 (fun _ h => h) k2, h4.then k3 fun x hx e => ?_⟩, k3.size⟩
  exact h1.high x e
theorem Pack.stepB (h : Pack base P ma mb w0 w v u l a b bs) {f : FuncId} {args : Array Value} {Q : Ending → Prop} (hc : ∀ A, MInv base P A w mb b → Calls Try.prog f args w fun e w' => Q e ∧ Aft base P A w w' mb b') :
    Calls Try.prog f args w fun e w' => Q e ∧ Pack base P ma mb w0 w' v u l a b' bs ∧ w.heap.size ≤ w'.heap.size := by
  obtain ⟨U, h1, h2, h3, h4⟩ := h
  refine (h1.rot.step hc).mono fun e w' ⟨he, U', k1, k2, k3⟩ => ⟨he, ⟨U', k1.rot.rot, h2.to k3 (fun _ h => h) k2, h3.to k3 (fun _ h => h) k2, h4.then k3 fun x hx e => ?_⟩, k3.size⟩
  exact h1.high x e

/-- Events that lie in a box. -/
def EvIn (to : Option Addr) (e : List Ev) (bs : List Bx) : Prop := 0 < e.length → ∃ g arr, to = some ⟨g, 0, none⟩ ∧ (g, 63, arr) ∈ bs ∧ ∀ (j : Nat) (x : Value), (evs e)[j]? = some x → arr[j]? = some x
theorem EvIn.more {to : Option Addr} {e : List Ev} {bs cs : List Bx} (h : EvIn to e bs) (hs : ∀ x ∈ bs, x ∈ cs) : EvIn to e cs := fun hl => by
  obtain ⟨g, arr, e1, e2, e3⟩ := h hl
  exact ⟨g, arr, e1, hs _ e2, e3⟩
theorem Pack.evs (h : Pack base P ma mb w0 w v u l a b bs) {to : Option Addr} {e : List Ev} (he : EvIn to e bs) : Evs w to e := fun hl => by
  obtain ⟨g, arr, rfl, e2, e3⟩ := he hl
  exact ⟨g, 0, rfl, fun j x hx => by rw [Nat.zero_add]; exact (h.row e2).cell (e3 j x hx)⟩

/-- What the first machine told is taken; what the second one did. -/
theorem Pack.toldA (h : Pack base P ma mb w0 w v u l a b bs) :
    Calls Try.prog 17 #[.pointer (some ⟨ma, 0, none⟩)] w fun e w' => ∃ to tc bs', e = .returned (.slice to a.told.length tc) ∧ Pack base P ma mb w0 w' v u l { a with told := [] } b bs' ∧ EvIn to a.told bs' ∧ (∀ x ∈ bs, x ∈ bs') ∧ w.heap.size ≤ w'.heap.size := by
  obtain ⟨U, h1, h2, h3, h4⟩ := h
  have hmU : U ma := by obtain ⟨A1, A2, A3, k1, k2, k3, _, _, _, k7⟩ := h1; exact (k7 ma).2 (Or.inl (MInv.om k1))
  refine h1.told.mono ?_
  rintro e w' ⟨tv, U', rfl, ho, hM, hU', htU, hf⟩
  have hfU : ∀ x, x = ma → U x := fun x e => e ▸ hmU
  have hb := h3.to (U' := U') hf hfU fun x hx => Or.inl (hU' x hx).1
  have ht := h2.to (U' := U') hf hfU fun x hx => Or.inl (hU' x hx).1
  have h5 := h4.then hf fun x hx e => h1.high x (hfU x e)
  obtain ⟨to, tc, rfl, _, _, hg, hlt⟩ := ho.form
  by_cases hl : 0 < a.told.length
  · obtain ⟨g, rfl⟩ := hg hl
    obtain ⟨arr, harr⟩ := ho.row (g := g) rfl
    have hUg : U g := htU g rfl
    refine ⟨_, tc, (g, 63, arr) :: bs, rfl, ⟨U', hM, ⟨ht.o1, ht.o2, fun x hx => ⟨(ht.n1 x hx).1, (ht.n1 x hx).2.1, (ht.n1 x hx).2.2.1, fun e he => ?_⟩, fun x hx => ⟨(ht.n2 x hx).1, (ht.n2 x hx).2.1, fun e he => ?_⟩⟩, fun e he => ?_, h5⟩, fun _ => ⟨g, arr, rfl, List.mem_cons_self, fun j x hx => ?_⟩, fun x hx => List.mem_cons_of_mem _ hx, hf.size⟩
    · rcases List.mem_cons.1 he with rfl | he
      · rintro rfl
        exact (h2.n1 g hx).1 hUg
      · exact (ht.n1 x hx).2.2.2 e he
    · rcases List.mem_cons.1 he with rfl | he
      · rintro rfl
        exact (h2.n2 g hx).1 hUg
      · exact (ht.n2 x hx).2.2 e he
    · rcases List.mem_cons.1 he with rfl | he
      · exact ⟨harr, fun e => (hU' g e).2 rfl⟩
      · exact hb e he
    · have hc := ho.cell (g := g) rfl hx
      unfold Row at harr
      simpa [World.cell?, harr] using hc
  · refine ⟨to, tc, bs, rfl, ⟨U', hM, ht, hb, h5⟩, fun h => absurd h hl, fun x hx => hx, hf.size⟩
theorem Pack.toldB (h : Pack base P ma mb w0 w v u l a b bs) :
    Calls Try.prog 17 #[.pointer (some ⟨mb, 0, none⟩)] w fun e w' => ∃ to tc bs', e = .returned (.slice to b.told.length tc) ∧ Pack base P ma mb w0 w' v u l a { b with told := [] } bs' ∧ EvIn to b.told bs' ∧ (∀ x ∈ bs, x ∈ bs') ∧ w.heap.size ≤ w'.heap.size := by
  obtain ⟨U, h1, h2, h3, h4⟩ := h
  have hmU : U mb := by obtain ⟨A1, A2, A3, k1, k2, k3, _, _, _, k7⟩ := h1; exact (k7 mb).2 (Or.inr (Or.inl (MInv.om k2)))
  refine h1.rot.told.mono ?_
  rintro e w' ⟨tv, U', rfl, ho, hM, hU', htU, hf⟩
  have hfU : ∀ x, x = mb → U x := fun x e => e ▸ hmU
  have hb := h3.to (U' := U') hf hfU fun x hx => Or.inl (hU' x hx).1
  have ht := h2.to (U' := U') hf hfU fun x hx => Or.inl (hU' x hx).1
  have h5 := h4.then hf fun x hx e => h1.high x (hfU x e)
  obtain ⟨to, tc, rfl, _, _, hg, hlt⟩ := ho.form
  by_cases hl : 0 < b.told.length
  · obtain ⟨g, rfl⟩ := hg hl
    obtain ⟨arr, harr⟩ := ho.row (g := g) rfl
    have hUg : U g := htU g rfl
    refine ⟨_, tc, (g, 63, arr) :: bs, rfl, ⟨U', hM.rot.rot, ⟨ht.o1, ht.o2, fun x hx => ⟨(ht.n1 x hx).1, (ht.n1 x hx).2.1, (ht.n1 x hx).2.2.1, fun e he => ?_⟩, fun x hx => ⟨(ht.n2 x hx).1, (ht.n2 x hx).2.1, fun e he => ?_⟩⟩, fun e he => ?_, h5⟩, fun _ => ⟨g, arr, rfl, List.mem_cons_self, fun j x hx => ?_⟩, fun x hx => List.mem_cons_of_mem _ hx, hf.size⟩
    · rcases List.mem_cons.1 he with rfl | he
      · rintro rfl
        exact (h2.n1 g hx).1 hUg
      · exact (ht.n1 x hx).2.2.2 e he
    · rcases List.mem_cons.1 he with rfl | he
      · rintro rfl
        exact (h2.n2 g hx).1 hUg
      · exact (ht.n2 x hx).2.2 e he
    · rcases List.mem_cons.1 he with rfl | he
      · exact ⟨harr, fun e => (hU' g e).2 rfl⟩
      · exact hb e he
    · have hc := ho.cell (g := g) rfl hx
      unfold Row at harr
      simpa [World.cell?, harr] using hc
  · refine ⟨to, tc, bs, rfl, ⟨U', hM.rot.rot, ht, hb, h5⟩, fun h => absurd h hl, fun x hx => hx, hf.size⟩

theorem Pack.liveA (h : Pack base P ma mb w0 w v u l a b bs) : Calls Try.prog 19 #[.pointer (some ⟨ma, 0, none⟩)] w fun e w' => e = .returned (.int .i64 (live a.mem.blocks)) ∧ Fr Non w w' := by
  obtain ⟨U, h1, h2, h3, h4⟩ := h
  exact h1.live
theorem Pack.liveB (h : Pack base P ma mb w0 w v u l a b bs) : Calls Try.prog 19 #[.pointer (some ⟨mb, 0, none⟩)] w fun e w' => e = .returned (.int .i64 (live b.mem.blocks)) ∧ Fr Non w w' := by
  obtain ⟨U, h1, h2, h3, h4⟩ := h
  exact h1.rot.live

/-- A word more in the first row; in the second. -/
theorem Pack.grow1 (h : Pack base P ma mb w0 w v u l a b bs) {v' : Value} {x : Wd} (_ho : Own w' v' 38 3 (l ++ [x]).length (flat (l ++ [x]))) (hf : Fr (fun y => v.ownBlock = some y) w w') (hg : ∀ y, v'.ownBlock = some y → v.ownBlock = some y ∨ w.heap.size ≤ y) :
    ∃ U, Mach base P U w' (some (ma, a)) (some (mb, b)) none ∧ Boxes U w' bs ∧ Fr (fun x => base ≤ x) w0 w' ∧ Own w' u 38 3 l.length (flat l) ∧ (∀ y, v'.ownBlock = some y → ¬ U y ∧ base ≤ y ∧ u.ownBlock ≠ some y ∧ ∀ e ∈ bs, e.1 ≠ y) ∧ (∀ y, u.ownBlock = some y → ¬ U y ∧ base ≤ y ∧ ∀ e ∈ bs, e.1 ≠ y) := by
  have hbl := h.base_le
  obtain ⟨U, h1, h2, h3, h4⟩ := h
  have hH : High base (fun y => v.ownBlock = some y) := fun y hy => (h2.n1 y hy).2.1
  refine ⟨U, h1.frE hf hH fun y hy e => (h2.n1 y e).1 hy, fun e he => ⟨hf.row (h3 e he).1 fun k => (h2.n1 _ k).2.2.2 e he rfl, (h3 e he).2⟩, h4.then hf fun y hy e => hH y e, h2.o2.fr hf fun y hy k => (h2.n1 y k).2.2.1 hy, fun y hy => ?_, h2.n2⟩
  rcases hg y hy with k | k
  · exact h2.n1 y k
  · refine ⟨fun e => by have := h1.lt y e; omega, by omega, fun e => by have := h2.o2.lt e; omega, fun e he k2 => by have := (h3 e he).1.lt; omega⟩
/-- A word more in both rows. -/
theorem Pack.app {w1 w2 w3 : World} {v' u' : Value} {x : Wd} (h : Pack base P ma mb w0 w v u l a b bs) (ho1 : Own w1 v' 38 3 (l ++ [x]).length (flat (l ++ [x]))) (f1 : Fr (fun y => v.ownBlock = some y) w w1) (g1 : ∀ y, v'.ownBlock = some y → v.ownBlock = some y ∨ w.heap.size ≤ y)
    (fm : Fr Non w1 w2) (ho2 : Own w3 u' 38 3 (l ++ [x]).length (flat (l ++ [x]))) (f2 : Fr (fun y => u.ownBlock = some y) w2 w3) (g2 : ∀ y, u'.ownBlock = some y → u.ownBlock = some y ∨ w2.heap.size ≤ y) :
    Pack base P ma mb w0 w3 v' u' (l ++ [x]) a b bs := by
  have hbl := h.base_le
  obtain ⟨U, k1, k2, k3, k4, k5, k6⟩ := h.grow1 ho1 f1 g1
  have hH : High base (fun y => u.ownBlock = some y) := fun y hy => (k6 y hy).2.1
  have s1 := f1.size
  have s2 := fm.size
  have ho1' := ho1.fr fm fun _ _ => id
  refine ⟨U, (k1.frN fm).frE f2 hH fun y hy e => (k6 y e).1 hy, ⟨ho1'.fr f2 fun y hy e => (k5 y hy).2.2.1 e, ho2, fun y hy => ⟨(k5 y hy).1, (k5 y hy).2.1, fun e => ?_, (k5 y hy).2.2.2⟩, fun y hy => ?_⟩, fun e he => ⟨f2.row (fm.row (k2 e he).1 id) fun k => (k6 _ k).2.2 e he rfl, (k2 e he).2⟩, (k3.then fm fun _ _ h => h.elim).then f2 fun y hy e => hH y e⟩
  · rcases g2 y e with k | k
    · exact (k5 y hy).2.2.1 k
    · have := ho1'.lt hy; omega
  · rcases g2 y hy with k | k
    · exact k6 y k
    · refine ⟨fun e => by have := k1.lt y e; omega, by omega, fun e he k7 => by have := (k2 e he).1.lt; omega⟩
theorem Own.wds {w : World} {ao : Option Addr} {n cap : Nat} {l : List Wd} (h : Own w (.slice ao n cap) 38 3 l.length (flat l)) : n = l.length ∧ WdsAt w ao l := by
  obtain ⟨ao', cap', e, _, _, h1, _⟩ := h.form
  cases e
  refine ⟨rfl, fun hl => ?_⟩
  obtain ⟨g, rfl⟩ := h1 hl
  exact ⟨g, 0, rfl, fun j u hu => by rw [Nat.zero_add]; exact h.cell rfl hu⟩
end

end Go.Proofs.Ytlbomnbpahmphaa
