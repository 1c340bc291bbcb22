/- How a machine lies in memory: its program below 'base', all else from 'base' on. No condition. -/
import Derived.Test.YtlbomnbpahmphaaSa06
namespace Go.Proofs.Ytlbomnbpahmphaa
open Go.RowKit

/-- A cell below 'base': no machine changes it. -/
def CB (base : Nat) (w : World) (b o : Nat) (v : Value) : Prop := b < base ∧ w.cell? ⟨b, o, none⟩ = some v
def High (base : Nat) (E : Nat → Prop) : Prop := ∀ x, E x → base ≤ x
theorem CB.fr {base b o : Nat} {w w' : World} {v : Value} {E : Nat → Prop} (h : CB base w b o v) (f : Fr E w w') (hE : High base E) : CB base w' b o v :=
  ⟨h.1, f.cell h.2 fun hx => by have := hE b hx; have := h.1; omega⟩

def IntsAt (base : Nat) (w : World) (ao : Option Addr) (l : List Int) : Prop := ∀ (i : Nat) (n : Int), l[i]? = some n → ∃ b o, ao = some ⟨b, o, none⟩ ∧ CB base w b (o + i) (.int .i64 n)
def InsAt (base : Nat) (w : World) (ao : Option Addr) (l : List In) : Prop := ∀ (i : Nat) (x : In), l[i]? = some x → ∃ b o la lc, ao = some ⟨b, o, none⟩ ∧ CB base w b (o + i * 5) (.int .i64 x.op) ∧ CB base w b (o + i * 5 + 1) (.int .i64 x.a) ∧
  CB base w b (o + i * 5 + 2) (.int .i64 x.b) ∧ CB base w b (o + i * 5 + 3) (.int .i64 x.c) ∧ CB base w b (o + i * 5 + 4) (.slice la x.l.length lc) ∧ IntsAt base w la x.l
def FunsAt (base : Nat) (w : World) (ao : Option Addr) (l : List (List In)) : Prop := ∀ (i : Nat) (f : List In), l[i]? = some f → ∃ b o io ic, ao = some ⟨b, o, none⟩ ∧ CB base w b (o + i) (.slice io f.length ic) ∧ InsAt base w io f
def CosB (base : Nat) (w : World) (co : Option Addr) (l : List Cr) : Prop := 0 < l.length → ∃ b o, co = some ⟨b, o, none⟩ ∧ ∀ (j : Nat) (u : Value), (crs l)[j]? = some u → CB base w b (o + j) u
theorem CosB.at {base : Nat} {w : World} {co : Option Addr} {l : List Cr} (h : CosB base w co l) : CosAt w co l := fun hl => by
  obtain ⟨b, o, e, hc⟩ := h hl
  exact ⟨b, o, e, fun j u hu => (hc j u hu).2⟩

section
variable {base : Nat} {w w' : World} {E : Nat → Prop} (f : Fr E w w') (hE : High base E)
include f hE
theorem IntsAt.fr {ao : Option Addr} {l : List Int} (h : IntsAt base w ao l) : IntsAt base w' ao l := fun i n hn => by
  obtain ⟨b, o, e, hc⟩ := h i n hn
  exact ⟨b, o, e, hc.fr f hE⟩
theorem InsAt.fr {ao : Option Addr} {l : List In} (h : InsAt base w ao l) : InsAt base w' ao l := fun i x hx => by
  obtain ⟨b, o, la, lc, e, h0, h1, h2, h3, h4, h5⟩ := h i x hx
  exact ⟨b, o, la, lc, e, h0.fr f hE, h1.fr f hE, h2.fr f hE, h3.fr f hE, h4.fr f hE, h5.fr f hE⟩
theorem FunsAt.fr {ao : Option Addr} {l : List (List In)} (h : FunsAt base w ao l) : FunsAt base w' ao l := fun i x hx => by
  obtain ⟨b, o, io, ic, e, h0, h1⟩ := h i x hx
  exact ⟨b, o, io, ic, e, h0.fr f hE, h1.fr f hE⟩
theorem CosB.fr {co : Option Addr} {l : List Cr} (h : CosB base w co l) : CosB base w' co l := fun hl => by
  obtain ⟨b, o, e, hc⟩ := h hl
  exact ⟨b, o, e, fun j u hu => (hc j u hu).fr f hE⟩
end

/-- A call's 56 cells; its function's slice. -/
def Cl.cs (c : Cl) (io : Option Addr) (ic : Nat) : List Value := .slice io c.fn.length ic :: .int .i64 c.at_ :: (flat c.regs ++ (c.frame.cs ++ [.int .i64 c.role, .int .i64 c.into, .int .i64 c.label]))
def ClAt (base : Nat) (w : World) (b : Nat) (c : Cl) : Prop := ∃ io ic, Row w b 97 (c.cs io ic) ∧ InsAt base w io c.fn ∧ c.regs.length = 16
theorem ClAt.fr {base b : Nat} {w w' : World} {E : Nat → Prop} {c : Cl} (h : ClAt base w b c) (f : Fr E w w') (hE : High base E) (hb : ¬ E b) : ClAt base w' b c := by
  obtain ⟨io, ic, h1, h2, h3⟩ := h
  exact ⟨io, ic, f.row h1 hb, h2.fr f hE, h3⟩

def ptr (b : Nat) : Value := .pointer (some ⟨b, 0, none⟩)

/-- What events brought, as the entries of a map. -/
def EvAt (w : World) (eb : Nat) (l : List (Int × Int)) : Prop :=
  ∃ es clock, w.heap[eb]? = some (.map es clock) ∧ es.toList.map (fun x => (x.key, x.val)) = l.map (fun x => (.int .i64 x.1, .int .i64 x.2)) ∧ (∀ x ∈ es, x.born < clock)
theorem EvAt.fr {w w' : World} {eb : Nat} {l : List (Int × Int)} {E : Nat → Prop} (h : EvAt w eb l) (f : Fr E w w') (hE : ¬ E eb) : EvAt w' eb l := by
  obtain ⟨es, clock, h1, h2, h3⟩ := h
  exact ⟨es, clock, (f.keep eb (lt_of_block h1) hE).trans h1, h2, h3⟩

/-- Where a machine lies. -/
structure Lay where
  fo : Option Addr
  co : Option Addr
  fc : Nat
  cc : Nat
  mb : Nat
  eb : Nat
  tv : Value
  sv : Value
  Dm : Nat → Prop
  bl : List Nat

def Lay.cells (L : Lay) (P : Pr) (task fuel : Int) : List Value := [.slice L.fo P.funs.length L.fc, .slice L.co P.cos.length L.cc, ptr L.mb, .map (some L.eb), L.tv, L.sv, .int .i64 task, .int .i64 fuel]

/-- The machine at block 'm', with the state S, all in blocks of A alone; L.bl are the blocks of the calls, the top's first. -/
structure ML (base : Nat) (P : Pr) (A : Nat → Prop) (w : World) (m : Nat) (S : St) (L : Lay) : Prop where
  high : High base A
  lt : ∀ x, A x → x < w.heap.size
  row : Row w m 82 (L.cells P S.task S.fuel)
  funs : FunsAt base w L.fo P.funs
  cos : CosB base w L.co P.cos
  mem : MI L.Dm w L.mb S.mem
  ev : EvAt w L.eb S.ev
  told : Own w L.tv 63 4 S.told.length (evs S.told)
  stk : Own w L.sv 142 1 L.bl.length (L.bl.reverse.map ptr)
  len : L.bl.length = S.stack.length
  nodup : L.bl.Nodup
  cls : ∀ (i b : Nat) (c : Cl), L.bl[i]? = some b → S.stack[i]? = some c → ClAt base w b c
  om : A m
  oe : A L.eb
  od : ∀ x, L.Dm x → A x
  ot : ∀ x, L.tv.ownBlock = some x → A x
  os : ∀ x, L.sv.ownBlock = some x → A x
  ob : ∀ x ∈ L.bl, A x
  sep : ∀ x, L.Dm x → x ≠ m ∧ x ≠ L.eb ∧ L.tv.ownBlock ≠ some x ∧ L.sv.ownBlock ≠ some x ∧ x ∉ L.bl

def MInv (base : Nat) (P : Pr) (A : Nat → Prop) (w : World) (m : Nat) (S : St) : Prop := ∃ L, ML base P A w m S L
/-- Behind a step: the machine has the state S; it has taken new blocks at most; of the blocks that were there only its own may have changed. -/
def Aft (base : Nat) (P : Pr) (A : Nat → Prop) (w w' : World) (m : Nat) (S : St) : Prop :=
  ∃ A', MInv base P A' w' m S ∧ (∀ x, A' x → A x ∨ w.heap.size ≤ x) ∧ Fr A w w'

section
variable {base : Nat} {P : Pr} {A : Nat → Prop} {w w' : World} {m : Nat} {S : St} {L : Lay}

theorem ML.ne_me (h : ML base P A w m S L) : m ≠ L.eb := fun e => by
  obtain ⟨es, clock, h1, _⟩ := h.ev
  have h2 := h.row
  unfold Row at h2
  rw [← e, h2] at h1
  cases h1
theorem ML.tv_m (h : ML base P A w m S L) : L.tv.ownBlock ≠ some m := h.told.ne h.row (by decide)
theorem ML.sv_m (h : ML base P A w m S L) : L.sv.ownBlock ≠ some m := h.stk.ne h.row (by decide)
theorem Own.ne_map {v : Value} {T : TypeId} {k n eb : Nat} {cs : List Value} {l : List (Int × Int)} (h : Own w v T k n cs) (e : EvAt w eb l) : v.ownBlock ≠ some eb := fun hv => by
  obtain ⟨arr, ha⟩ := h.row hv
  obtain ⟨es, clock, h1, _⟩ := e
  unfold Row at ha
  rw [ha] at h1
  cases h1
theorem ML.tv_sv (h : ML base P A w m S L) (x : Nat) (e : L.tv.ownBlock = some x) : L.sv.ownBlock ≠ some x := fun e2 => by
  obtain ⟨arr, ha⟩ := h.told.row e
  exact h.stk.ne ha (by decide) e2
theorem ML.call (h : ML base P A w m S L) {b : Nat} (hb : b ∈ L.bl) : ∃ c, ClAt base w b c := by
  obtain ⟨i, hi, rfl⟩ := List.getElem_of_mem hb
  have hl := h.len
  exact ⟨S.stack[i], h.cls i _ _ (List.getElem?_eq_getElem hi) (List.getElem?_eq_getElem (by omega))⟩
theorem ML.bl_m (h : ML base P A w m S L) {b : Nat} (hb : b ∈ L.bl) : b ≠ m := by
  obtain ⟨c, io, ic, h1, _⟩ := h.call hb
  exact h1.ne h.row (by decide)
theorem ML.bl_e (h : ML base P A w m S L) {b : Nat} (hb : b ∈ L.bl) : b ≠ L.eb := fun e => by
  obtain ⟨c, io, ic, h1, _⟩ := h.call hb
  obtain ⟨es, clock, h2, _⟩ := h.ev
  unfold Row at h1
  rw [← e, h1] at h2
  cases h2
theorem ML.bl_tv (h : ML base P A w m S L) {b : Nat} (hb : b ∈ L.bl) : L.tv.ownBlock ≠ some b := by
  obtain ⟨c, io, ic, h1, _⟩ := h.call hb
  exact h.told.ne h1 (by decide)
theorem ML.bl_sv (h : ML base P A w m S L) {b : Nat} (hb : b ∈ L.bl) : L.sv.ownBlock ≠ some b := by
  obtain ⟨c, io, ic, h1, _⟩ := h.call hb
  exact h.stk.ne h1 (by decide)
theorem ML.base_m (h : ML base P A w m S L) : High base (fun x => x = m) := fun x e => h.high x (e ▸ h.om)

theorem ML.c1 (h : ML base P A w m S L) : w.cell? ⟨m, 1, none⟩ = some (.slice L.co P.cos.length L.cc) := h.row.cell rfl
theorem ML.c2 (h : ML base P A w m S L) : w.cell? ⟨m, 2, none⟩ = some (.pointer (some ⟨L.mb, 0, none⟩)) := h.row.cell rfl
theorem ML.c5 (h : ML base P A w m S L) : w.cell? ⟨m, 5, none⟩ = some L.sv := h.row.cell rfl
theorem ML.c7 (h : ML base P A w m S L) : w.cell? ⟨m, 7, none⟩ = some (.int .i64 S.fuel) := h.row.cell rfl
theorem ML.mlt (h : ML base P A w m S L) : m < w.heap.size := h.row.lt

/-- Nothing of the machine has changed. -/
theorem ML.frE {E : Nat → Prop} (h : ML base P A w m S L) (f : Fr E w w') (hE : High base E) (hA : ∀ x, A x → ¬ E x) : ML base P A w' m S L where
  high := h.high
  lt := fun x hx => Nat.lt_of_lt_of_le (h.lt x hx) f.size
  row := f.row h.row (hA _ h.om)
  funs := h.funs.fr f hE
  cos := h.cos.fr f hE
  mem := h.mem.fr f fun x hx => hA _ (h.od x hx)
  ev := h.ev.fr f (hA _ h.oe)
  told := h.told.fr f fun x hx => hA _ (h.ot x hx)
  stk := h.stk.fr f fun x hx => hA _ (h.os x hx)
  len := h.len
  nodup := h.nodup
  cls := fun i b c hb hc => (h.cls i b c hb hc).fr f hE (hA _ (h.ob _ (List.mem_of_getElem? hb)))
  om := h.om
  oe := h.oe
  od := h.od
  ot := h.ot
  os := h.os
  ob := h.ob
  sep := h.sep
theorem high_non (base : Nat) : High base Non := fun _ h => h.elim
theorem ML.frN (h : ML base P A w m S L) (f : Fr Non w w') : ML base P A w' m S L := h.frE f (high_non _) fun _ _ h => h
theorem MInv.frN (h : MInv base P A w m S) (f : Fr Non w w') : MInv base P A w' m S := by
  obtain ⟨L, h⟩ := h
  exact ⟨L, h.frN f⟩

/-- The memory has changed. -/
theorem ML.upMem (h : ML base P A w m S L) {D' : Nat → Prop} {M' : Mem} (f : Fr L.Dm w w') (hM : MI D' w' L.mb M') (hD : ∀ b, D' b → L.Dm b ∨ (w.heap.size ≤ b ∧ b < w'.heap.size)) :
    ML base P (fun x => A x ∨ D' x) w' m { S with mem := M' } { L with Dm := D' } := by
  have hH : High base L.Dm := fun x hx => h.high x (h.od x hx)
  have hb : base ≤ w.heap.size := Nat.le_of_lt (Nat.lt_of_le_of_lt (h.high _ h.om) (h.lt _ h.om))
  refine { high := ?_, lt := ?_, row := f.row h.row fun e => (h.sep _ e).1 rfl, funs := h.funs.fr f hH, cos := h.cos.fr f hH, mem := hM, ev := h.ev.fr f fun e => (h.sep _ e).2.1 rfl, told := h.told.fr f fun x hx e => (h.sep _ e).2.2.1 hx, stk := h.stk.fr f fun x hx e => (h.sep _ e).2.2.2.1 hx, len := h.len, nodup := h.nodup, cls := fun i b c hb hc => (h.cls i b c hb hc).fr f hH fun e => (h.sep _ e).2.2.2.2 (List.mem_of_getElem? hb), om := Or.inl h.om, oe := Or.inl h.oe, od := fun x hx => Or.inr hx, ot := fun x hx => Or.inl (h.ot x hx), os := fun x hx => Or.inl (h.os x hx), ob := fun x hx => Or.inl (h.ob x hx), sep := ?_ }
  · rintro x (hx | hx)
    · exact h.high x hx
    · rcases hD x hx with e | e
      · exact hH x e
      · omega
  · rintro x (hx | hx)
    · exact Nat.lt_of_lt_of_le (h.lt x hx) f.size
    · rcases hD x hx with e | e
      · exact Nat.lt_of_lt_of_le (h.lt x (h.od x e)) f.size
      · exact e.2
  · intro x hx
    rcases hD x hx with e | e
    · exact h.sep x e
    · have hn : ∀ y, A y → x ≠ y := fun y hy e2 => by have := h.lt y hy; omega
      exact ⟨hn _ h.om, hn _ h.oe, fun e2 => hn _ (h.ot _ e2) rfl, fun e2 => hn _ (h.os _ e2) rfl, fun e2 => hn _ (h.ob _ e2) rfl⟩

/-- What was told has changed. -/
theorem ML.upTold (h : ML base P A w m S L) {tv' : Value} {t' : List Ev} (r : Row w' m 82 ({ L with tv := tv' }.cells P S.task S.fuel)) (ho : Own w' tv' 63 4 t'.length (evs t'))
    (hg : ∀ g, tv'.ownBlock = some g → L.tv.ownBlock = some g ∨ w.heap.size ≤ g) (f : Fr (fun x => x = m ∨ L.tv.ownBlock = some x) w w') :
    ML base P (fun x => A x ∨ tv'.ownBlock = some x) w' m { S with told := t' } { L with tv := tv' } := by
  have hE : ∀ x, (x = m ∨ L.tv.ownBlock = some x) → A x := fun x hx => by rcases hx with rfl | hx; exact h.om; exact h.ot x hx
  have hH : High base (fun x => x = m ∨ L.tv.ownBlock = some x) := fun x hx => h.high x (hE x hx)
  have hb : base ≤ w.heap.size := Nat.le_of_lt (Nat.lt_of_le_of_lt (h.high _ h.om) (h.lt _ h.om))
  refine { high := ?_, lt := ?_, row := r, funs := h.funs.fr f hH, cos := h.cos.fr f hH, mem := h.mem.fr f ?_, ev := h.ev.fr f ?_, told := ho, stk := h.stk.fr f ?_, len := h.len, nodup := h.nodup, cls := fun i b c hb hc => (h.cls i b c hb hc).fr f hH ?_, om := Or.inl h.om, oe := Or.inl h.oe, od := fun x hx => Or.inl (h.od x hx), ot := fun x hx => Or.inr hx, os := fun x hx => Or.inl (h.os x hx), ob := fun x hx => Or.inl (h.ob x hx), sep := ?_ }
  · rintro x (hx | hx)
    · exact h.high x hx
    · rcases hg x hx with e | e
      · exact h.high x (h.ot x e)
      · omega
  · rintro x (hx | hx)
    · exact Nat.lt_of_lt_of_le (h.lt x hx) f.size
    · exact ho.lt hx
  · rintro x hx (e | e)
    · exact (h.sep x hx).1 e
    · exact (h.sep x hx).2.2.1 e
  · rintro (e | e)
    · exact h.ne_me e.symm
    · exact h.told.ne_map h.ev e
  · rintro x hx (e | e)
    · exact h.sv_m (e ▸ hx)
    · exact h.tv_sv x e hx
  · have hm := List.mem_of_getElem? hb
    rintro (e | e)
    · exact h.bl_m hm e
    · exact h.bl_tv hm e
  · intro x hx
    obtain ⟨s1, s2, s3, s4, s5⟩ := h.sep x hx
    refine ⟨s1, s2, fun e => ?_, s4, s5⟩
    rcases hg x e with e2 | e2
    · exact s3 e2
    · have := h.lt x (h.od x hx); omega

/-- The call that runs has changed. -/
theorem ML.upTop (h : ML base P A w m S L) {b : Nat} {bs : List Nat} {c' : Cl} (hb : L.bl = b :: bs) (hc : ClAt base w' b c') (f : Fr (fun x => x = b) w w') :
    ML base P A w' m (S.setTop c') L := by
  have hbm : b ∈ L.bl := by rw [hb]; exact List.mem_cons_self
  have hH : High base (fun x => x = b) := fun x hx => h.high x (hx ▸ h.ob _ hbm)
  have hl := h.len
  rw [hb] at hl
  refine { high := h.high, lt := fun x hx => Nat.lt_of_lt_of_le (h.lt x hx) f.size, row := f.row h.row (h.bl_m hbm).symm, funs := h.funs.fr f hH, cos := h.cos.fr f hH, mem := h.mem.fr f ?_, ev := h.ev.fr f (h.bl_e hbm).symm, told := h.told.fr f ?_, stk := h.stk.fr f ?_, len := ?_, nodup := h.nodup, cls := ?_, om := h.om, oe := h.oe, od := h.od, ot := h.ot, os := h.os, ob := h.ob, sep := h.sep }
  · rintro x hx rfl
    exact (h.sep x hx).2.2.2.2 hbm
  · rintro x hx rfl
    exact h.bl_tv hbm hx
  · rintro x hx rfl
    exact h.bl_sv hbm hx
  · show L.bl.length = S.stack.tail.length + 1
    rw [hb, List.length_tail, ← hl]
    simp
  · intro i x c hx hcx
    cases i with
    | zero =>
      rw [hb] at hx
      simp only [List.getElem?_cons_zero, Option.some.injEq] at hx
      simp only [St.setTop, List.getElem?_cons_zero, Option.some.injEq] at hcx
      subst hx hcx
      exact hc
    | succ i =>
      have hc2 : S.stack[i + 1]? = some c := by
        simp only [St.setTop, List.getElem?_cons_succ, List.getElem?_tail] at hcx
        exact hcx
      refine (h.cls (i + 1) x c hx hc2).fr f hH fun e => ?_
      subst e
      have hn := h.nodup
      rw [hb] at hn hx
      simp only [List.getElem?_cons_succ] at hx
      exact (List.nodup_cons.1 hn).1 (List.mem_of_getElem? hx)
end

end Go.Proofs.Ytlbomnbpahmphaa

/- Walks: the machine's 'top', 'pop', 'begin', 'Told', 'Live'. Conditions: the machine's cells that are read. -/
namespace Go.Proofs.Ytlbomnbpahmphaa
open Go.RowKit

set_option maxRecDepth 100000 in
set_option maxHeartbeats 400000 in
theorem top_c {w : World} {m g n sc b : Nat} (h5 : w.cell? ⟨m, 5, none⟩ = some (.slice (some ⟨g, 0, none⟩) (n + 1) sc)) (hg : w.cell? ⟨g, n, none⟩ = some (.pointer (some ⟨b, 0, none⟩))) (hn : n ≤ 1000000000000) :
    Calls Try.prog 71 #[.pointer (some ⟨m, 0, none⟩)] w fun e w' => e = .returned (.pointer (some ⟨b, 0, none⟩)) ∧ Fr Non w w' := by
  have hw : IntKind.i64.wrap (n : Int) = (n : Int) := IntWalk.i64_in _ (by omega)
  have h0 : (0 : Int) ≤ (n : Int) := by omega
  have h1 : (n : Int) < (n : Int) + 1 := by omega
  have hm := World.block_lt_of_cell? w _ h5
  go_enter Try.func71, Try.ntmps71
  go_wp2_with fail
  go_quiet (fail)
  go_wp2_with fail
  go_ret
  exact ⟨rfl, by exact (by repeat (first | exact Fr.refl _ _ | assumption | refine Fr.drewN ?_ _ | refine Fr.drew ?_ | refine Fr.drewl ?_ | refine Fr.drewNl ?_ _ | refine Fr.alloc ?_ _))⟩

set_option maxRecDepth 100000 in
set_option maxHeartbeats 400000 in
theorem pop_c {w : World} {m g n sc b : Nat} (h5 : w.cell? ⟨m, 5, none⟩ = some (.slice (some ⟨g, 0, none⟩) (n + 1) sc)) (hz : ∀ o, w.frozen? ⟨m, o, none⟩ = false) (hg : w.cell? ⟨g, n, none⟩ = some (.pointer (some ⟨b, 0, none⟩))) (hn : n ≤ 1000000000000) (hsc : n + 1 ≤ sc) :
    Calls Try.prog 99 #[.pointer (some ⟨m, 0, none⟩)] w fun e w' => e = .returned (.pointer (some ⟨b, 0, none⟩)) ∧ ∃ w1, Fr Non w w1 ∧ w' = w1.setCell ⟨m, 5, none⟩ (.slice (some ⟨g, 0, none⟩) n sc) := by
  have hT := Lib.hid fun w1 (f : Fr Non w w1) => top_c (f.cell h5 id) (f.cell hg id) hn
  have hw : IntKind.i64.wrap (n : Int) = (n : Int) := IntWalk.i64_in _ (by omega)
  have h0 : (0 : Int) ≤ (n : Int) := by omega
  have h2 : (n : Int) ≤ (sc : Int) := by omega
  have h2n : n ≤ sc := by omega
  have hs0 : ¬ sc = 0 := by omega
  have hs1 : ¬ (0 = sc) := by omega
  have hm := World.block_lt_of_cell? w _ h5
  have H5 := Lib.hid (And.intro h5 hz)
  clear h5 hg hz
  go_enter Try.func99, Try.ntmps99
  go_wp2_with fail
  refine (hT.out w (Fr.refl _ _)).mono ?_
  rintro e1 w1 ⟨rfl, hf⟩
  have k5 := hf.cell H5.out.1 id
  have kz := fun o => hf.frozen hm (H5.out.2 o) id
  have HF := Lib.hid hf
  clear hf
  go_wp2_with fail
  go_still_tail 14, (by kernel_rfl)
  change wpList _ _ _ _ _ w1.drew
  have k5' : w1.drew.cell? ⟨m, 5, none⟩ = some (.slice (some ⟨g, 0, none⟩) (n + 1) sc) := k5
  have kz' : ∀ o, w1.drew.frozen? ⟨m, o, none⟩ = false := kz
  have HF2 := Lib.hid HF.out.drew
  generalize w1.drew = w2 at *
  go_wp2_with fail
  go_ret
  exact ⟨rfl, w2, HF2.out, rfl⟩

end Go.Proofs.Ytlbomnbpahmphaa

/- Walks: the machine's 'begin', 'tell'. Conditions: the machine's own cells; 'tell': the row of what was told is its own. -/
namespace Go.Proofs.Ytlbomnbpahmphaa
open Go.RowKit

set_option maxRecDepth 100000 in
set_option maxHeartbeats 400000 in
theorem begin_c {w : World} {m : Nat} {a0 a1 a2 a3 tv sv : Value} {t0 f0 : Int} (r : Row w m 82 [a0, a1, a2, a3, tv, sv, .int .i64 t0, .int .i64 f0]) (task fuel : Int) :
    Calls Try.prog 35 #[.pointer (some ⟨m, 0, none⟩), .int .i64 task, .int .i64 fuel] w fun e w' => e = .returned (.tuple #[]) ∧ Row w' m 82 [a0, a1, a2, a3, tv, .slice none 0 0, .int .i64 task, .int .i64 fuel] ∧ Fr (fun x => x = m) w w' := by
  have c5 := r.cell (o := 5) rfl
  have c6 := r.cell (o := 6) rfl
  have c7 := r.cell (o := 7) rfl
  have cz := r.frozen
  have HR := Lib.hid r
  clear r
  go_enter Try.func35, Try.ntmps35
  go_wp2_with fail
  refine bodyPost_end (results_none rfl _ _ _) rfl ?_
  refine ⟨rfl, ?_, ?_⟩
  · exact ((HR.out.set_same 5 _).set_same 6 _).set_same 7 _
  · exact ((Fr.set1 _ _ _ _).trans (Fr.set1 _ _ _ _)).trans (Fr.set1 _ _ _ _)

set_option maxRecDepth 100000 in
set_option maxHeartbeats 400000 in
theorem mtell_c {w : World} {m : Nat} {a0 a1 a2 a3 tv sv : Value} {t0 f0 : Int} {es : List Ev} (r : Row w m 82 [a0, a1, a2, a3, tv, sv, .int .i64 t0, .int .i64 f0]) (ht : Own w tv 63 4 es.length (evs es)) (hes : es.length ≤ 1000000000) (k t a n : Int) :
    Calls Try.prog 96 #[.pointer (some ⟨m, 0, none⟩), .agg #[.int .i64 k, .int .i64 t, .int .i64 a, .int .i64 n]] w fun e w' => e = .returned (.tuple #[]) ∧ ∃ tv', Row w' m 82 [a0, a1, a2, a3, tv', sv, .int .i64 t0, .int .i64 f0] ∧
      Own w' tv' 63 4 (es.length + 1) (evs (es ++ [⟨k, t0, a, n⟩])) ∧ (∀ g, tv'.ownBlock = some g → tv.ownBlock = some g ∨ w.heap.size ≤ g) ∧ Fr (fun x => x = m ∨ tv.ownBlock = some x) w w' := by
  have c4 := r.cell (o := 4) rfl
  have c6 := r.cell (o := 6) rfl
  have hm := r.lt
  have hmw : ¬ m = w.heap.size := by omega
  have HR := Lib.hid (And.intro r ht)
  clear r ht
  go_enter Try.func96, Try.ntmps96
  go_wp2_with fail
  obtain ⟨i0, hi, hz0, hz1, hz2⟩ := info_parts Try.infoEvent
  have rb : Row (w.alloc (.cells #[.int .i64 k, .int .i64 t0, .int .i64 a, .int .i64 n] 63)) w.heap.size 63 [.int .i64 k, .int .i64 t0, .int .i64 a, .int .i64 n] := Row.new' rfl
  have hf0 : Fr Non w (w.alloc (.cells #[.int .i64 k, .int .i64 t0, .int .i64 a, .int .i64 n] 63)) := by exact (by repeat (first | exact Fr.refl _ _ | assumption | refine Fr.drewN ?_ _ | refine Fr.drew ?_ | refine Fr.drewl ?_ | refine Fr.drewNl ?_ _ | refine Fr.alloc ?_ _))
  have hs : (w.alloc (.cells #[.int .i64 k, .int .i64 t0, .int .i64 a, .int .i64 n] 63)).heap.size = w.heap.size + 1 := by simp
  have k4 := hf0.cell c4 id
  generalize w.alloc (.cells #[.int .i64 k, .int .i64 t0, .int .i64 a, .int .i64 n] 63) = W at *
  obtain ⟨q0, q1, q2, q3, qz⟩ := row4 rb
  have hmW := hf0.row HR.out.1 id
  have hoW := HR.out.2.fr hf0 (fun _ _ => id)
  have hno := HR.out.2.ne HR.out.1 (by decide)
  have hnb : tv.ownBlock ≠ some w.heap.size := fun e => by have := HR.out.2.lt e; omega
  have HW := Lib.hid (And.intro hmW (And.intro hoW (And.intro hno (And.intro hnb hf0))))
  clear hmW hoW hno hnb hf0 rb c4 c6
  have cW := @Mix.cls_drew W [m, w.heap.size]
  refine Mix.wp_region_mix [4, 5] [(0, 0), (0, 1), (0, 2), (0, 3), (1, 4), (1, 5), (2, 6), (2, 7), (0, 8), (0, 9), (3, 10)] (fun V => ∃ g, V = Mix.upon W [m, w.heap.size] g) (by kernel_rfl) (by kernel_rfl) cW ?_
  clear cW
  repeat (first | (refine Mix.S_pure (o := _) rfl rfl ?_; intro K hK; simp only [List.getElem_toArray, List.getElem_cons_zero, List.getElem_cons_succ]; go_big_quiet_op; go_big_quiet_on) | (refine Mix.S_load (o := _) rfl rfl ?_; intro K hK; simp only [List.getElem_toArray, List.getElem_cons_zero, List.getElem_cons_succ]; go_big_quiet_op; go_big_quiet_on) | refine Mix.S_skip0 (o := _) rfl rfl ?_ | refine Mix.S_skip1 (o := _) rfl rfl ?_)
  refine Mix.S_eff (o := _) rfl rfl ?_
  intro K hK
  simp only [List.getElem_toArray, List.getElem_cons_zero, List.getElem_cons_succ]
  go_simp
  refine hK _ _ ⟨Mix.cls_fr (D := Non) (by exact (by repeat (first | exact Fr.refl _ _ | assumption | refine Fr.drewN ?_ _ | refine Fr.drew ?_ | refine Fr.drewl ?_ | refine Fr.drewNl ?_ _ | refine Fr.alloc ?_ _))) (by simp [Non]; omega), ?_⟩
  clear hK K
  refine Mix.S_eff (o := _) rfl rfl ?_
  intro K hK
  simp only [List.getElem_toArray, List.getElem_cons_zero, List.getElem_cons_succ]
  refine wp_app_own (.tmp 13) (.tmp 15) 48 rfl rfl (by exact HW.out.2.1.fr (D := Non) (by exact (by repeat (first | exact Fr.refl _ _ | assumption | refine Fr.drewN ?_ _ | refine Fr.drew ?_ | refine Fr.drewl ?_ | refine Fr.drewNl ?_ _ | refine Fr.alloc ?_ _))) (fun _ _ => id)) i0 _ 32 Try.underlying48 hi hz0 hz1 hz2 rfl (by omega) (w.heap.size + 1) 0 1 1 rfl (evs [⟨k, t0, a, n⟩]) rfl (by exact (Row.new' (by simp [hs])).news) (fun u hu => by simp [evs, Ev.cs] at hu; rcases hu with rfl | rfl | rfl | rfl <;> rfl) (by omega) (by omega) (by unfold maxLen; omega) ?_
  intro g cap w2 ho2 hf2 hg2
  refine hK _ _ ⟨Mix.cls_fr (D := fun x => tv.ownBlock = some x) hf2 (by simp; exact ⟨⟨by omega, HW.out.2.2.1⟩, ⟨by omega, HW.out.2.2.2.1⟩⟩), ?_⟩
  clear hK K
  have r2 := hf2.row (show Row _ m 82 [a0, a1, a2, a3, tv, sv, .int .i64 t0, .int .i64 f0] from HW.out.1.alloc _) HW.out.2.2.1
  have y4 := r2.cell (o := 4) rfl
  have yz := r2.frozen
  have hm2 := r2.lt
  have hsz := hf2.size
  have H2 := Lib.hid (And.intro r2 (And.intro ho2 (And.intro hf2 hg2)))
  clear r2 ho2 hf2 hg2
  simp only [Act.put, List.setIfInBounds_toArray, List.set_cons_succ, List.set_cons_zero]
  repeat (first | (refine Mix.S_pure (o := _) rfl rfl ?_; intro K hK; simp only [List.getElem_toArray, List.getElem_cons_zero, List.getElem_cons_succ]; go_big_quiet_op; go_big_quiet_on) | (refine Mix.S_load (o := _) rfl rfl ?_; intro K hK; simp only [List.getElem_toArray, List.getElem_cons_zero, List.getElem_cons_succ]; go_big_quiet_op; go_big_quiet_on) | refine Mix.S_skip0 (o := _) rfl rfl ?_ | refine Mix.S_skip1 (o := _) rfl rfl ?_)
  refine Mix.S_late (o := _) rfl rfl ?_
  intro K hK
  simp only [List.getElem_toArray, List.getElem_cons_zero, List.getElem_cons_succ]
  go_simp
  refine hK _ _ ?_
  clear hK K
  refine Mix.S_done ?_
  go_wp2
  refine bodyPost_end (results_none rfl _ _ _) rfl ?_
  obtain ⟨r2, ho2, hf2, hg2⟩ := H2.out
  have hfw : Fr (fun x => x = m ∨ tv.ownBlock = some x) w w2 := Fr.then (D := fun x => x = m ∨ tv.ownBlock = some x) (by exact (HW.out.2.2.2.2.mono (fun _ _ h => h.elim)).drew.alloc _) hf2 (fun _ _ h => Or.inr h)
  refine ⟨rfl, _, r2.set_same 4 _, ?_, ?_, ?_⟩
  · rw [evs_append]
    exact Own.fr (D := fun x => x = m) ho2 (Fr.set1 _ _ _ _) (fun g' e e2 => by subst e2; exact ho2.ne r2 (by decide) e)
  · intro g' e
    simp [Value.ownBlock] at e
    subst e
    rcases hg2 with e | e
    · exact Or.inl e
    · simp at e; exact Or.inr (by omega)
  · exact hfw.setCell (a := ⟨m, 4, none⟩) (Or.inl (Or.inl rfl)) _

end Go.Proofs.Ytlbomnbpahmphaa

/- Walks: the machine's 'push'. Conditions: the machine's own cells; the row of calls is its own; the function's slice is there. -/
namespace Go.Proofs.Ytlbomnbpahmphaa
open Go.RowKit

theorem Try.infoPtr : (Try.prog.info? 142).map (fun i => (i.zero, i.size, i.bytes)) = some (some (.pointer none), 1, 8) := by kernel_rfl

set_option maxRecDepth 100000 in
set_option maxHeartbeats 400000 in
theorem push_c {w : World} {m fb fo fn fc i n : Nat} {a1 a2 a3 tv sv : Value} {t0 f0 : Int} {bs : List Value} {io : Option Addr} {il ic : Nat}
    (r : Row w m 82 [.slice (some ⟨fb, fo, none⟩) fn fc, a1, a2, a3, tv, sv, .int .i64 t0, .int .i64 f0]) (hst : Own w sv 142 1 n bs) (hn : n ≤ 1000000000) (hfn : w.cell? ⟨fb, fo + i, none⟩ = some (.slice io il ic)) (hi : i < fn)
    (A : List Value) (hA : A.length = 56) :
    Calls Try.prog 57 #[.pointer (some ⟨m, 0, none⟩), .int .i64 i, .agg A.toArray] w fun e w' => e = .returned (.tuple #[]) ∧ ∃ b sv', Row w' m 82 [.slice (some ⟨fb, fo, none⟩) fn fc, a1, a2, a3, tv, sv', .int .i64 t0, .int .i64 f0] ∧
      Own w' sv' 142 1 (n + 1) (bs ++ [ptr b]) ∧ Row w' b 97 (A.set 0 (.slice io il ic)) ∧ w.heap.size ≤ b ∧ (∀ g, sv'.ownBlock = some g → sv.ownBlock = some g ∨ w.heap.size ≤ g) ∧ sv'.ownBlock ≠ some b ∧ Fr (fun x => x = m ∨ sv.ownBlock = some x) w w' := by
  obtain ⟨i0, hi0, hz0, hz1, hz2⟩ := info_parts Try.infoPtr
  have c0 := r.cell (o := 0) rfl
  have c5 := r.cell (o := 5) rfl
  have hm := r.lt
  have hfb := World.block_lt_of_cell? w _ hfn
  have h0 : (0 : Int) ≤ (i : Int) := by omega
  have h1 : (i : Int) < (fn : Int) := by omega
  have HR := Lib.hid (And.intro r hst)
  clear r hst
  have hW : Fr Non w ((w.alloc (.cells (A.set 0 (.slice io il ic)).toArray 97)).alloc (.cells #[.pointer (some ⟨w.heap.size, 0, none⟩)] 142)) := ((Fr.refl Non w).alloc _).alloc _
  have hb : Row ((w.alloc (.cells (A.set 0 (.slice io il ic)).toArray 97)).alloc (.cells #[.pointer (some ⟨w.heap.size, 0, none⟩)] 142)) w.heap.size 97 (A.set 0 (.slice io il ic)) := Row.alloc (by exact Row.new' rfl) _
  obtain ⟨g, cap, w2, hrun, ho2, hf2, hg2, hlt2⟩ := run_app (P := Try.prog) (HR.out.2.fr hW (fun _ _ => id)) 80 80 i0 _ 8 Try.underlying80 hi0 hz0 hz1 hz2 rfl (by omega) (w.heap.size + 1) 0 1 1 [ptr w.heap.size] rfl (by exact (Row.new' (by simp)).news) (fun u hu => by simp at hu; subst hu; rfl) (by omega) (by omega) (by unfold maxLen; omega)
  have r2 := hf2.row (hW.row HR.out.1 id) (HR.out.2.ne HR.out.1 (by decide))
  have hsb : ∀ x, sv.ownBlock = some x → x < w.heap.size := fun x e => HR.out.2.lt e
  have hb2 := hf2.row hb (fun e => by have := hsb _ e; omega)
  have y5 := r2.cell (o := 5) rfl
  have yz := r2.frozen
  have hgm : g ≠ m := fun e => by subst e; exact ho2.ne r2 (by decide) rfl
  have hgb : g ≠ w.heap.size := fun e => by subst e; exact ho2.ne hb2 (by decide) rfl
  have hbm : w.heap.size ≠ m := by omega
  have H2 := Lib.hid (And.intro r2 (And.intro ho2 (And.intro hb2 (And.intro (hW.mono (D' := fun x => x = m ∨ sv.ownBlock = some x) (fun _ _ h => h.elim) |>.then hf2 (fun _ _ h => Or.inr h)) hg2))))
  clear r2 ho2 hb2 hf2 hg2 hW hb hsb
  go_enter Try.func57, Try.ntmps57
  go_wp2_with (at_builtin; refine wpList_app rfl (.tmp 19) (.tmp 20) _ rfl rfl rfl _ rfl hrun ?_)
  refine bodyPost_end (results_none rfl _ _ _) rfl ?_
  obtain ⟨r2, ho2, hb2, hf2, hg2⟩ := H2.out
  refine ⟨rfl, w.heap.size, _, r2.set_same 5 _, ?_, hb2.set_ne (by simp; omega) _, Nat.le_refl _, ?_, ?_, hf2.setCell (a := ⟨m, 5, none⟩) (Or.inl (Or.inl rfl)) _⟩
  · exact Own.fr (D := fun x => x = m) ho2 (Fr.set1 _ _ _ _) (fun g' e e2 => by simp [Value.ownBlock] at e; omega)
  · intro g' e
    simp [Value.ownBlock] at e
    subst e
    rcases hg2 with e | e
    · exact Or.inl e
    · simp at e; exact Or.inr (by omega)
  · simp [Value.ownBlock]
    exact hgb

end Go.Proofs.Ytlbomnbpahmphaa

/- Walks: the machine's 'Told', 'Live'. Conditions: the machine's own cells. -/
namespace Go.Proofs.Ytlbomnbpahmphaa
open Go.RowKit

set_option maxRecDepth 100000 in
set_option maxHeartbeats 400000 in
theorem told_c {w : World} {m : Nat} {a0 a1 a2 a3 sv a6 a7 : Value} {to : Option Addr} {tn tc : Nat} (r : Row w m 82 [a0, a1, a2, a3, .slice to tn tc, sv, a6, a7]) :
    Calls Try.prog 17 #[.pointer (some ⟨m, 0, none⟩)] w fun e w' => e = .returned (.slice to tn tc) ∧ Row w' m 82 [a0, a1, a2, a3, .slice none 0 0, sv, a6, a7] ∧ Fr (fun x => x = m) w w' := by
  have c4 := r.cell (o := 4) rfl
  have cz := r.frozen
  have HR := Lib.hid r
  clear r
  go_enter Try.func17, Try.ntmps17
  go_wp2_with fail
  go_ret
  exact ⟨rfl, by exact HR.out.set_same 4 _, by exact Fr.set1 _ _ _ _⟩

set_option maxRecDepth 100000 in
set_option maxHeartbeats 400000 in
theorem mlive_c {D : Nat → Prop} {w : World} {m mb : Nat} {M : Mem} (h2 : w.cell? ⟨m, 2, none⟩ = some (.pointer (some ⟨mb, 0, none⟩))) (h : MI D w mb M) :
    Calls Try.prog 19 #[.pointer (some ⟨m, 0, none⟩)] w fun e w' => e = .returned (.int .i64 (live M.blocks)) ∧ Fr Non w w' := by
  have hL := Lib.hid fun w1 (h1 : Fr Non w w1) => live_i (h.frN h1)
  have hm := World.block_lt_of_cell? w _ h2
  clear h
  generalize (live M.blocks : Int) = L at *
  go_enter Try.func19, Try.ntmps19
  go_wp2_with fail
  refine (hL.out _ (by exact (by repeat (first | exact Fr.refl _ _ | assumption | refine Fr.drewN ?_ _ | refine Fr.drew ?_ | refine Fr.drewl ?_ | refine Fr.drewNl ?_ _ | refine Fr.alloc ?_ _)))).mono ?_
  rintro e1 w1 ⟨rfl, hf⟩
  go_wp2_with fail
  go_ret
  exact ⟨rfl, by exact (by repeat (first | exact Fr.refl _ _ | assumption | refine Fr.drewN ?_ _ | refine Fr.drew ?_ | refine Fr.drewl ?_ | refine Fr.drewNl ?_ _ | refine Fr.alloc ?_ _))⟩

end Go.Proofs.Ytlbomnbpahmphaa

/- The machine's layout behind each kind of step: a call pushed, a call popped, fuel, a new beginning, an event. No condition. -/
namespace Go.Proofs.Ytlbomnbpahmphaa
open Go.RowKit

section
variable {base : Nat} {P : Pr} {A : Nat → Prop} {w w' w2 : World} {m : Nat} {S S' S2 : St} {L : Lay}

/-- Another fuel, or task. -/
theorem ML.upNums (h : ML base P A w m S L) {task fuel : Int} (r : Row w' m 82 (L.cells P task fuel)) (f : Fr (fun x => x = m) w w') :
    ML base P A w' m { S with task := task, fuel := fuel } L := by
  have hH := h.base_m
  refine { high := h.high, lt := fun x hx => Nat.lt_of_lt_of_le (h.lt x hx) f.size, row := r, funs := h.funs.fr f hH, cos := h.cos.fr f hH, mem := h.mem.fr f (fun x hx e => (h.sep x hx).1 e), ev := h.ev.fr f (fun e => h.ne_me e.symm), told := h.told.fr f ?_, stk := h.stk.fr f ?_, len := h.len, nodup := h.nodup, cls := fun i b c hb hc => (h.cls i b c hb hc).fr f hH (h.bl_m (List.mem_of_getElem? hb)), om := h.om, oe := h.oe, od := h.od, ot := h.ot, os := h.os, ob := h.ob, sep := h.sep }
  · rintro x hx rfl
    exact h.tv_m hx
  · rintro x hx rfl
    exact h.sv_m hx

/-- Another stack, of calls that were there. -/
theorem ML.upStack (h : ML base P A w m S L) {sv' : Value} {bl' : List Nat} {st' : List Cl} {task fuel : Int} (r : Row w' m 82 ({ L with sv := sv', bl := bl' }.cells P task fuel)) (f : Fr (fun x => x = m) w w')
    (ho : Own w sv' 142 1 bl'.length (bl'.reverse.map ptr)) (hs : ∀ x, sv'.ownBlock = some x → L.sv.ownBlock = some x) (hl : bl'.length = st'.length) (hn : bl'.Nodup) (hsub : ∀ x ∈ bl', x ∈ L.bl)
    (hc : ∀ (i b : Nat) (c : Cl), bl'[i]? = some b → st'[i]? = some c → ClAt base w b c) :
    ML base P A w' m { S with stack := st', task := task, fuel := fuel } { L with sv := sv', bl := bl' } := by
  have hH := h.base_m
  refine { high := h.high, lt := fun x hx => Nat.lt_of_lt_of_le (h.lt x hx) f.size, row := r, funs := h.funs.fr f hH, cos := h.cos.fr f hH, mem := h.mem.fr f (fun x hx e => (h.sep x hx).1 e), ev := h.ev.fr f (fun e => h.ne_me e.symm), told := h.told.fr f ?_, stk := ho.fr f ?_, len := hl, nodup := hn, cls := fun i b c hb hcc => (hc i b c hb hcc).fr f hH (h.bl_m (hsub _ (List.mem_of_getElem? hb))), om := h.om, oe := h.oe, od := h.od, ot := h.ot, os := fun x hx => h.os x (hs x hx), ob := fun x hx => h.ob x (hsub x hx), sep := ?_ }
  · rintro x hx rfl
    exact h.tv_m hx
  · rintro x hx rfl
    exact h.sv_m (hs _ hx)
  · intro x hx
    obtain ⟨s1, s2, s3, s4, s5⟩ := h.sep x hx
    exact ⟨s1, s2, s3, fun e => s4 (hs x e), fun e => s5 (hsub x e)⟩

/-- A call more. -/
theorem ML.upPush (h : ML base P A w m S L) {b : Nat} {sv' : Value} {c : Cl} (r : Row w' m 82 ({ L with sv := sv' }.cells P S.task S.fuel)) (ho : Own w' sv' 142 1 (L.bl.length + 1) (L.bl.reverse.map ptr ++ [ptr b]))
    (hc : ClAt base w' b c) (hb : w.heap.size ≤ b) (hg : ∀ g, sv'.ownBlock = some g → L.sv.ownBlock = some g ∨ w.heap.size ≤ g) (f : Fr (fun x => x = m ∨ L.sv.ownBlock = some x) w w') :
    ML base P (fun x => A x ∨ x = b ∨ sv'.ownBlock = some x) w' m { S with stack := c :: S.stack } { L with sv := sv', bl := b :: L.bl } := by
  have hE : ∀ x, (x = m ∨ L.sv.ownBlock = some x) → A x := fun x hx => by rcases hx with rfl | hx; exact h.om; exact h.os x hx
  have hH : High base (fun x => x = m ∨ L.sv.ownBlock = some x) := fun x hx => h.high x (hE x hx)
  have hbs : base ≤ w.heap.size := Nat.le_of_lt (Nat.lt_of_le_of_lt (h.high _ h.om) (h.lt _ h.om))
  have hnb : b ∉ L.bl := fun e => by have := h.lt _ (h.ob _ e); omega
  obtain ⟨io, ic, hc1, hc2⟩ := hc
  refine { high := ?_, lt := ?_, row := r, funs := h.funs.fr f hH, cos := h.cos.fr f hH, mem := h.mem.fr f ?_, ev := h.ev.fr f ?_, told := h.told.fr f ?_, stk := by simpa using ho, len := by simp [h.len], nodup := List.nodup_cons.2 ⟨hnb, h.nodup⟩, cls := ?_, om := Or.inl h.om, oe := Or.inl h.oe, od := fun x hx => Or.inl (h.od x hx), ot := fun x hx => Or.inl (h.ot x hx), os := fun x hx => Or.inr (Or.inr hx), ob := ?_, sep := ?_ }
  · rintro x (hx | rfl | hx)
    · exact h.high x hx
    · omega
    · rcases hg x hx with e | e
      · exact h.high x (h.os x e)
      · omega
  · rintro x (hx | rfl | hx)
    · exact Nat.lt_of_lt_of_le (h.lt x hx) f.size
    · exact hc1.lt
    · exact ho.lt hx
  · rintro x hx (e | e)
    · exact (h.sep x hx).1 e
    · exact (h.sep x hx).2.2.2.1 e
  · rintro (e | e)
    · exact h.ne_me e.symm
    · exact h.stk.ne_map h.ev e
  · rintro x hx (e | e)
    · exact h.tv_m (e ▸ hx)
    · exact h.tv_sv x hx e
  · intro i x y hx hy
    cases i with
    | zero =>
      simp only [List.getElem?_cons_zero, Option.some.injEq] at hx hy
      subst hx hy
      exact ⟨io, ic, hc1, hc2⟩
    | succ i =>
      simp only [List.getElem?_cons_succ] at hx hy
      have hm := List.mem_of_getElem? hx
      refine (h.cls i x y hx hy).fr f hH ?_
      rintro (e | e)
      · exact h.bl_m hm e
      · exact h.bl_sv hm e
  · rintro x hx
    rcases List.mem_cons.1 hx with rfl | hx
    · exact Or.inr (Or.inl rfl)
    · exact Or.inl (h.ob x hx)
  · intro x hx
    obtain ⟨s1, s2, s3, s4, s5⟩ := h.sep x hx
    have hlt := h.lt x (h.od x hx)
    refine ⟨s1, s2, s3, fun e => ?_, fun e => ?_⟩
    · rcases hg x e with e2 | e2
      · exact s4 e2
      · omega
    · rcases List.mem_cons.1 e with rfl | e
      · omega
      · exact s5 e

theorem ML.aft (h : ML base P A w m S L) {A' : Nat → Prop} {L' : Lay} (h' : ML base P A' w' m S' L') (hA : ∀ x, A' x → A x ∨ w.heap.size ≤ x) (f : Fr A w w') : Aft base P A w w' m S' := ⟨A', ⟨L', h'⟩, hA, f⟩
theorem ML.aftN (h : ML base P A w m S L) (f : Fr Non w w') : Aft base P A w w' m S := ⟨A, ⟨L, h.frN f⟩, fun x hx => Or.inl hx, f.mono fun _ _ h => h.elim⟩
theorem ML.aftMem (h : ML base P A w m S L) {D' : Nat → Prop} {M' : Mem} (f : Fr L.Dm w w') (hM : MI D' w' L.mb M') (hD : ∀ b, D' b → L.Dm b ∨ (w.heap.size ≤ b ∧ b < w'.heap.size)) : Aft base P A w w' m { S with mem := M' } :=
  ⟨_, ⟨_, h.upMem f hM hD⟩, fun x hx => by
    rcases hx with hx | hx
    · exact Or.inl hx
    · rcases hD x hx with e | e
      · exact Or.inl (h.od x e)
      · exact Or.inr e.1, f.mono fun x _ hx => h.od x hx⟩
theorem ML.aftTop (h : ML base P A w m S L) {b : Nat} {bs : List Nat} {c' : Cl} (hb : L.bl = b :: bs) (hc : ClAt base w' b c') (f : Fr (fun x => x = b) w w') : Aft base P A w w' m (S.setTop c') :=
  ⟨A, ⟨L, h.upTop hb hc f⟩, fun x hx => Or.inl hx, f.mono fun x _ hx => hx ▸ h.ob b (by rw [hb]; exact List.mem_cons_self)⟩

/-- One step behind another. -/
theorem Aft.trans {w1 : World} {S1 : St} (h : Aft base P A w w1 m S1) (k : ∀ A1, MInv base P A1 w1 m S1 → (∀ x, A1 x → A x ∨ w.heap.size ≤ x) → Aft base P A1 w1 w' m S') : Aft base P A w w' m S' := by
  obtain ⟨A1, h1, h2, h3⟩ := h
  obtain ⟨A2, k1, k2, k3⟩ := k A1 h1 h2
  refine ⟨A2, k1, fun x hx => ?_, h3.then k3 fun x hx e => ?_⟩
  · rcases k2 x hx with e | e
    · exact h2 x e
    · exact Or.inr (Nat.le_trans h3.size e)
  · rcases h2 x e with e | e
    · exact e
    · omega
/-- A step, with new blocks ahead of it that are not the machine's. -/
theorem Aft.ahead {w1 : World} (f : Fr Non w w1) (k : Aft base P A w1 w' m S') : Aft base P A w w' m S' := by
  obtain ⟨A2, k1, k2, k3⟩ := k
  exact ⟨A2, k1, fun x hx => (k2 x hx).imp id fun e => Nat.le_trans f.size e, (f.mono fun _ _ h => h.elim).trans k3⟩
theorem ML.base_le (h : ML base P A w m S L) : base ≤ w.heap.size := Nat.le_of_lt (Nat.lt_of_le_of_lt (h.high _ h.om) (h.lt _ h.om))
/-- Boxes are made; a step; then the boxes change. -/
theorem Aft.box {E : Nat → Prop} {wc : World} (f0 : Fr Non w wc) (h : Aft base P A wc w' m S) (f : Fr E w' w2) (hE : ∀ x, E x → w.heap.size ≤ x ∧ x < wc.heap.size) (hlt : ∀ x, A x → x < w.heap.size) (hb : base ≤ w.heap.size) : Aft base P A w w2 m S := by
  obtain ⟨A', ⟨L, h1⟩, h2, h3⟩ := h
  have hn : ∀ x, A' x → ¬ E x := fun x hx e => by
    obtain ⟨e1, e2⟩ := hE x e
    rcases h2 x hx with h4 | h4
    · have := hlt x h4; omega
    · omega
  refine ⟨A', ⟨L, h1.frE f (fun x hx => Nat.le_trans hb (hE x hx).1) hn⟩, fun x hx => (h2 x hx).imp id fun e => Nat.le_trans f0.size e, ?_⟩
  exact ((f0.mono fun _ _ h => h.elim).trans h3).then f fun x hx e => by have := (hE x e).1; omega

/-- The call that runs: where it stands. -/
theorem ML.atTop (h : ML base P A w m S L) {b : Nat} {bs : List Nat} (hb : L.bl = b :: bs) : ∃ g sc, L.sv = .slice (some ⟨g, 0, none⟩) (bs.length + 1) sc ∧ w.cell? ⟨g, bs.length, none⟩ = some (.pointer (some ⟨b, 0, none⟩)) ∧ bs.length + 1 ≤ sc := by
  have hk := h.stk
  rw [hb] at hk
  obtain ⟨ao, cap, e, h1, h2, h3, h4⟩ := hk.form
  obtain ⟨g, rfl⟩ := h3 (by simp)
  refine ⟨g, cap, e, ?_, by simpa using h1⟩
  rw [e] at hk
  exact hk.cell rfl (by simp [List.getElem?_append_right, ptr])
theorem ML.atTop' (h : ML base P A w m S L) {c : Cl} {cs : List Cl} (hs : S.stack = c :: cs) : ∃ b bs, L.bl = b :: bs ∧ bs.length = cs.length ∧ ClAt base w b c := by
  have hl := h.len
  rw [hs] at hl
  match hbl : L.bl with
  | [] => rw [hbl] at hl; cases hl
  | b :: bs =>
    rw [hbl] at hl
    exact ⟨b, bs, rfl, by simpa using hl, h.cls 0 b c (by rw [hbl]; rfl) (by rw [hs]; rfl)⟩

theorem top_m (h : ML base P A w m S L) {b : Nat} {bs : List Nat} (hb : L.bl = b :: bs) (hn : L.bl.length ≤ 1000000000) :
    Calls Try.prog 71 #[.pointer (some ⟨m, 0, none⟩)] w fun e w' => e = .returned (.pointer (some ⟨b, 0, none⟩)) ∧ Fr Non w w' := by
  obtain ⟨g, sc, e, h1, h2⟩ := h.atTop hb
  rw [hb] at hn
  simp at hn
  exact top_c (h.c5.trans (by rw [e])) h1 (by omega)

theorem pop_m (h : ML base P A w m S L) {b : Nat} {bs : List Nat} (hb : L.bl = b :: bs) (hn : L.bl.length ≤ 1000000000) :
    Calls Try.prog 99 #[.pointer (some ⟨m, 0, none⟩)] w fun e w' => e = .returned (.pointer (some ⟨b, 0, none⟩)) ∧ (∃ sv', ML base P A w' m { S with stack := S.stack.tail } { L with sv := sv', bl := bs }) ∧ Fr (fun x => x = m) w w' := by
  obtain ⟨g, sc, e, h1, h2⟩ := h.atTop hb
  have hn' := hn
  rw [hb] at hn'
  simp at hn'
  refine (pop_c (h.c5.trans (by rw [e])) h.row.frozen h1 (by omega) h2).mono ?_
  rintro e1 w1 ⟨rfl, w2, hf, rfl⟩
  have hf2 : Fr (fun x => x = m) w (w2.setCell ⟨m, 5, none⟩ (.slice (some ⟨g, 0, none⟩) bs.length sc)) := (hf.mono fun _ _ h => h.elim).trans (Fr.set1 _ _ _ _)
  refine ⟨rfl, ⟨.slice (some ⟨g, 0, none⟩) bs.length sc, ?_⟩, hf2⟩
  have hk := h.stk
  rw [e, hb] at hk
  have hk2 : Own w (.slice (some ⟨g, 0, none⟩) bs.length sc) 142 1 bs.length (bs.reverse.map ptr) := by
    obtain ⟨hk1, hk2⟩ := hk
    refine ⟨by simp, ?_⟩
    rcases hk2 with ⟨h3, _⟩ | ⟨g', cap, cur, h3, h4, h5, h6, h7, h8, h9⟩
    · cases h3
    · cases h3
      refine Or.inr ⟨g, sc, cur, rfl, h4, h5, by simp at h6; omega, h7, h8, ?_⟩
      simp at h9 ⊢
      have h10 := congrArg (List.take bs.length) h9
      simp [List.take_take] at h10
      exact h10
  refine (h.frN hf).upStack (by exact (hf.row h.row id).set_same 5 _) (Fr.set1 _ _ _ _) ?_ ?_ ?_ ?_ ?_ ?_
  · exact hk2.fr hf fun _ _ => id
  · intro x hx
    rw [e]
    exact hx
  · have := h.len
    rw [hb] at this
    simp at this ⊢
    omega
  · have := h.nodup
    rw [hb] at this
    exact (List.nodup_cons.1 this).2
  · intro x hx
    rw [hb]
    exact List.mem_cons_of_mem _ hx
  · intro i x c hx hc
    refine (h.frN hf).cls (i + 1) x c (by rw [hb]; exact hx) ?_
    simpa [List.getElem?_tail] using hc
end

end Go.Proofs.Ytlbomnbpahmphaa
