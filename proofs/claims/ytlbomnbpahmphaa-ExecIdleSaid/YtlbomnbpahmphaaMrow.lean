/- Laws: the builtin 'clear' and 'copy' at a row that is known whole, whatever the size of its elements. Conditions: the pieces lie within their rows. -/
import Derived.Test.YtlbomnbpahmphaaMalloc
import Derived.Laws.CopyOwn
namespace Go.Proofs.Ytlbomnbpahmphaa
open Go.RowKit

section
variable {P : Program} {w : World} {o : Oper} {a : Act} {K : Act → World → Prop} {Q : Exit → Act → World → Prop}

theorem row_setRow {b : Nat} {T : TypeId} {cs : List Value} (r : Row w b T cs) (l : List Value) : Row (w.setRow b l.toArray) b T l ∧ Fr (fun x => x = b) w (w.setRow b l.toArray) :=
  ⟨setRow_heap w b _ _ T _ r, ⟨rfl, rfl, rfl, by simp [World.setRow], fun k _ hk => setRow_other w b k _ hk⟩⟩

theorem wp_clear_bools (x : Operand) (t : TypeId) (ho : o.op = .call { callee := .builtin .clear, args := #[x], argTypes := #[t] }) (e : TypeId) (i : TypeInfo)
    (ht : P.underlying t = some (.slice e)) (hi : P.info? e = some i) (hz : i.zero = some (.bool false))
    (ao : Option Addr) (n c g off : Nat) (hx : a.eval x = .slice ao n c) (ha : 0 < n → ao = some ⟨g, off, none⟩) (T : TypeId) (cs : List Value) (hr : Row w g T cs) (hfit : off + n ≤ cs.length)
    (h : ∀ w', Row w' g T (splice cs off (List.replicate n (.bool false))) → Fr (fun x => x = g) w w' → K (a.put o.dst (.tuple #[])) w') : o.wp P a w K Q := by
  cases n with
  | zero =>
    have hrun : (Builtin.clear_ #[t] o.type #[.slice ao 0 c]).run P w = .ok (.tuple #[]) w := by
      cases ao <;> simp [Builtin.clear_, run_underlying ht]
    unfold Oper.wp execOp
    simp only [ho, resolve, invoke, builtin, Sem.run_bind, Sem.run_pure, Result.andThen_ok, List.map_toArray, List.map_cons, List.map_nil, hx, hrun]
    exact h w (by simpa [splice] using hr) (Fr.refl _ _)
  | succ n =>
    obtain rfl := ha (by omega)
    have hzc : (Builtin.zeroCells (Value.bool false).cells (n + 1)).toList = List.replicate (n + 1) (.bool false) := by
      refine List.eq_replicate_iff.2 ⟨by simp [Builtin.zeroCells, Value.cells], ?_⟩
      simp [Builtin.zeroCells, Value.cells, Nat.mod_one]
    have hst := run_storeCells_at P g off T (List.replicate (n + 1) (.bool false)) 0 cs.toArray w hr (by simpa using hfit) (by simp [Value.oneCell'])
    have hrun : (Builtin.clear_ #[t] o.type #[.slice (some ⟨g, off, none⟩) (n + 1) c]).run P w = .ok (.tuple #[]) (w.setRow g (splice cs off (List.replicate (n + 1) (.bool false))).toArray) := by
      simp [Builtin.clear_, run_underlying ht, zeroValue, typeInfo, hi, hz, hzc, hst, splice]
    unfold Oper.wp execOp
    simp only [ho, resolve, invoke, builtin, Sem.run_bind, Sem.run_pure, Result.andThen_ok, List.map_toArray, List.map_cons, List.map_nil, hx, hrun]
    exact h _ (row_setRow hr _).1 (row_setRow hr _).2

theorem run_copy (dT sT ty : TypeId) (e : TypeId) (i : TypeInfo) (size : Nat)
    (hu : P.underlying dT = some (.slice e)) (hi : P.info? e = some i) (hs : i.size = size)
    (dp sp : Option Addr) (dLen dCap sLen sCap : Nat) (n : Nat) (hn : n = Nat.min sLen dLen)
    (g off : Nat) (T : TypeId) (cur cs : List Value) (hr : Row w g T cur) (hl : cs.length = n * size)
    (hpos : 0 < n → dp = some ⟨g, off, none⟩ ∧ ∃ ad, sp = some ad ∧ ∀ j v, cs[j]? = some v → w.cell? (ad.add j) = some v) (hfit : off + cs.length ≤ cur.length) (h1 : ∀ v ∈ cs, v.oneCell' = true)
    (hnil : n = 0 → (∃ x, dp = some x) ∧ (sp = none ∨ ∃ x, sp = some x)) :
    ∃ w', (Builtin.copy_ #[dT, sT] ty #[.slice dp dLen dCap, .slice sp sLen sCap]).run P w = .ok (.int .i64 n) w' ∧ Row w' g T (splice cur off cs) ∧ Fr (fun x => x = g) w w' := by
  cases n with
  | zero =>
    obtain ⟨⟨x, rfl⟩, hsp⟩ := hnil rfl
    obtain rfl : cs = [] := List.eq_nil_of_length_eq_zero (by simpa using hl)
    refine ⟨w, ?_, by simpa [splice] using hr, Fr.refl _ _⟩
    rcases hsp with rfl | ⟨y, rfl⟩
    · simp [Builtin.copy_, run_underlying hu, Builtin.lenOf, Builtin.firstCells, sizeOf, typeInfo, hi, ← hn, storeCells, goInt]
    · simp [Builtin.copy_, run_underlying hu, Builtin.lenOf, Builtin.firstCells, sizeOf, typeInfo, hi, ← hn, storeCells, loadCells, loadCellsFrom, goInt]
  | succ n =>
    obtain ⟨rfl, ad, rfl, hsrc⟩ := hpos (by omega)
    have hld := run_loadCells_list (P := P) w ad cs hsrc
    have hst := run_storeCells_at P g off T cs 0 cur.toArray w hr (by simpa using hfit) h1
    refine ⟨w.setRow g (splice cur off cs).toArray, ?_, (row_setRow hr _).1, (row_setRow hr _).2⟩
    simp [Builtin.copy_, run_underlying hu, Builtin.lenOf, Builtin.firstCells, sizeOf, typeInfo, hi, hs, ← hn, ← hl, hld, hst, splice, goInt]

theorem wp_copy_row (d s : Operand) (dT sT : TypeId) (ho : o.op = .call { callee := .builtin .copy, args := #[d, s], argTypes := #[dT, sT] }) (e : TypeId) (i : TypeInfo) (size : Nat)
    (hu : P.underlying dT = some (.slice e)) (hi : P.info? e = some i) (hs : i.size = size)
    (dp sp : Option Addr) (dLen dCap sLen sCap : Nat) (hd : a.eval d = .slice dp dLen dCap) (hsv : a.eval s = .slice sp sLen sCap) (n : Nat) (hn : n = Nat.min sLen dLen)
    (g off : Nat) (T : TypeId) (cur cs : List Value) (hr : Row w g T cur) (hl : cs.length = n * size)
    (hpos : 0 < n → dp = some ⟨g, off, none⟩ ∧ ∃ ad, sp = some ad ∧ ∀ j v, cs[j]? = some v → w.cell? (ad.add j) = some v) (hfit : off + cs.length ≤ cur.length) (h1 : ∀ v ∈ cs, v.oneCell' = true)
    (hnil : n = 0 → (∃ x, dp = some x) ∧ (sp = none ∨ ∃ x, sp = some x))
    (h : ∀ w', Row w' g T (splice cur off cs) → Fr (fun x => x = g) w w' → K (a.put o.dst (.int .i64 n)) w') : o.wp P a w K Q := by
  obtain ⟨w', hrun, h2, h3⟩ := run_copy (P := P) dT sT o.type e i size hu hi hs dp sp dLen dCap sLen sCap n hn g off T cur cs hr hl hpos hfit h1 hnil
  unfold Oper.wp execOp
  simp only [ho, resolve, invoke, builtin, Sem.run_bind, Sem.run_pure, Result.andThen_ok, List.map_toArray, List.map_cons, List.map_nil, hd, hsv, hrun]
  exact h w' h2 h3
end

theorem splice_map {α β : Type} (f : α → β) (l : List α) (o : Nat) (c : List α) : (splice l o c).map f = splice (l.map f) o (c.map f) := by
  simp [splice, List.map_take, List.map_drop]
theorem flat_append (l m : List Wd) : flat (l ++ m) = flat l ++ flat m := by simp [flat]
theorem flat_take (l : List Wd) (k : Nat) : (flat l).take (k * 3) = flat (l.take k) := by
  induction k generalizing l with
  | zero => simp [flat]
  | succ k ih =>
    cases l with
    | nil => simp [flat]
    | cons x l => rw [List.take_succ_cons, flat_cons, flat_cons, ← ih l, show (k + 1) * 3 = k * 3 + 3 by omega]; rfl
theorem flat_drop (l : List Wd) (k : Nat) : (flat l).drop (k * 3) = flat (l.drop k) := by
  induction k generalizing l with
  | zero => simp
  | succ k ih =>
    cases l with
    | nil => simp [flat]
    | cons x l => rw [List.drop_succ_cons, flat_cons, ← ih l, show (k + 1) * 3 = k * 3 + 3 by omega]; rfl
theorem flat_splice (l : List Wd) (k : Nat) (c : List Wd) : flat (splice l k c) = splice (flat l) (k * 3) (flat c) := by
  unfold splice
  rw [flat_append, flat_append, flat_take, flat_len, ← Nat.add_mul, flat_drop]

end Go.Proofs.Ytlbomnbpahmphaa
