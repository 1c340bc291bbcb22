/- Arguments of numbers, bools, and slices and structs of these: they read the same where no cell of theirs has changed. Condition: a slice's element has a cell. -/
import Derived.ChangeArms
import Derived.OpenShut
import Derived.Test.YtlbomnbpahmphaaGreatR08
namespace Go.Proofs.YtlbomnbpahmphaaGreat
open Go.ChangeShapes Go.WideShapes Go.RowKit

def plainT (P : Program) : Nat → TypeId → Bool
 | 0, _ => false
 | k + 1, t => match P.underlying t with
  | some .bool => true
  | some (.int _) => true
  | some .string => true
  | some (.slice e) => decide (0 < P.cellsOf e) && plainT P k e
  | some (.struct fs) => fs.toList.all fun f => plainT P k f.type
  | _ => false

theorem mapM_again {α β : Type} {f g : α → Option β} : ∀ {l : List α} {r : List β}, l.mapM f = some r → (∀ a ∈ l, ∀ y ∈ r, f a = some y → g a = some y) → l.mapM g = some r
 | [], r, h, _ => by simpa using h
 | a :: l, r, h, k => by
  simp only [List.mapM_cons, Option.bind_eq_bind, Option.bind_eq_some_iff, Option.pure_def, Option.some.injEq] at h ⊢
  obtain ⟨y, h1, ys, h2, rfl⟩ := h
  exact ⟨y, k a (by simp) y (by simp) h1, ys, mapM_again h2 fun b hb z hz => k b (by simp [hb]) z (by simp [hz]), rfl⟩

section
variable {H : Type} {enc : TypeId × Value → H} {P : Program} {w w' : World} {base : Nat} {held : Bool} {sp : Nat → Bool}

theorem trod_again (hc : ∀ a n cs, w.cells? base a n = some cs → w'.cells? base a n = some cs) : ∀ (k : Nat) (t : TypeId), plainT P k t = true → ∀ (fuel : Nat) (cs : List Value) (x : DataW H × List MemPlace),
 DataW.trod enc P w base (fun _ => true) held fuel t cs = some x → (∀ p ∈ x.2, sp p.block = true) → DataW.trod enc P w' base sp held fuel t cs = some x
 | 0, _, hp, _, _, _, _, _ => by simp [plainT] at hp
 | k + 1, t, hp, 0, _, _, h, _ => by simp [DataW.trod] at h
 | k + 1, t, hp, fuel + 1, cs, x, h, hs => by
  unfold plainT at hp
  split at hp
  · rename_i ht
    unfold DataW.trod at h ⊢
    rw [ht] at h ⊢
    split at h <;> simp_all
  · rename_i kk ht
    unfold DataW.trod at h ⊢
    rw [ht] at h ⊢
    split at h <;> simp_all
  · rename_i ht
    unfold DataW.trod at h ⊢
    rw [ht] at h ⊢
    split at h <;> simp_all
  · rename_i e ht
    simp only [Bool.and_eq_true, decide_eq_true_eq] at hp
    rcases DataW.trod_slice ht h with ⟨rfl, rfl⟩ | ⟨a, len, cap, _, _, _, _, rfl, _, hb, hl, hm, _⟩
    · unfold DataW.trod
      rw [ht]
      rfl
    · unfold DataW.trod at h ⊢
      rw [ht] at h ⊢
      simp only [if_true] at h ⊢
      rw [if_pos ⟨hb, hl, hm⟩] at h ⊢
      simp only [Option.bind_eq_some_iff, Option.map_eq_some_iff] at h ⊢
      obtain ⟨es, h1, rs, h2, rfl⟩ := h
      have el : ∀ (i : Nat) (y : DataW H × List MemPlace), y ∈ es ++ rs → ((w.cells? base (a.add (i * P.cellsOf e)) (P.cellsOf e)).bind (DataW.trod enc P w base (fun _ => true) held fuel e)) = some y → ((w'.cells? base (a.add (i * P.cellsOf e)) (P.cellsOf e)).bind (DataW.trod enc P w' base sp held fuel e)) = some y := by
       intro i y hy hf
       obtain ⟨cs', c1, c2⟩ := Option.bind_eq_some_iff.1 hf
       refine Option.bind_eq_some_iff.2 ⟨cs', hc _ _ _ c1, trod_again hc k e hp.2 fuel cs' y c2 fun p hpy => hs p ?_⟩
       exact List.mem_append_right _ (List.mem_flatMap.2 ⟨y, hy, hpy⟩)
      refine ⟨es, mapM_again h1 fun i _ y hy hf => el i y (List.mem_append_left _ hy) hf, rs, ?_, rfl⟩
      have l2 := mapM_some_length h2
      have h2' := mapM_again h2 fun j _ y hy hf => el (len + j) y (List.mem_append_right _ hy) hf
      by_cases hcl : cap - len = 0
      · rw [hcl] at h2' ⊢
        rw [h2']
        simp only [List.range_zero, List.mapM_nil, Option.pure_def, Option.some.injEq] at h2'
        subst h2'
        split <;> rfl
      · have hb1 : sp a.block = true := hs (.cell a.block (a.off + 0)) (List.mem_append_left _ (by
         have : 0 < (es.length + rs.length) * P.cellsOf e := Nat.mul_pos (by rw [l2]; simp; omega) hp.1
         simp only [MemPlace.row, List.mem_map, List.mem_range]
         exact ⟨0, this, rfl⟩))
        rw [if_pos hb1]
        exact h2'
  · rename_i fs ht
    unfold DataW.trod at h ⊢
    rw [ht] at h ⊢
    simp only at h ⊢
    split at h
    · rename_i hlen
      rw [if_pos hlen]
      simp only [Option.map_eq_some_iff] at h ⊢
      obtain ⟨xs, h1, rfl⟩ := h
      refine ⟨xs, mapM_again h1 fun f hf y hy hfy => ?_, rfl⟩
      exact trod_again hc k f.type (List.all_eq_true.1 hp f hf) fuel _ y hfy fun p hpy => hs p (List.mem_flatMap.2 ⟨y, hy, hpy⟩)
    · cases h
  · cases hp

theorem trodAll_again (hc : ∀ a n cs, w.cells? base a n = some cs → w'.cells? base a n = some cs) (k : Nat) : ∀ {ts : List TypeId} {vs : List Value} {ds : List (DataW H)} {ps : List MemPlace}, ts.all (plainT P k) = true →
 DataW.TrodAll enc P w base (fun _ => true) held ts vs ds ps → (∀ p ∈ ps, sp p.block = true) → DataW.TrodAll enc P w' base sp held ts vs ds ps
 | [], _, _, _, _, h, _ => by
  obtain ⟨rfl, rfl, rfl⟩ := trodAll_nil h
  exact trodAll_mk0
 | t :: ts, _, _, _, hp, h, hs => by
  obtain ⟨v, vs1, d, ds1, a, b, rfl, rfl, rfl, ⟨n, h1⟩, h2⟩ := trodAll_cons h
  simp only [List.all_cons, Bool.and_eq_true] at hp
  exact ⟨a, b, ⟨n, trod_again hc k t hp.1 n _ _ h1 fun p hq => hs p (List.mem_append_left _ hq)⟩, trodAll_again hc k hp.2 h2 (fun p hq => hs p (List.mem_append_right _ hq)), rfl⟩
end

theorem Fr.cells {w w' : World} (f : Fr Non w w') (base : Nat) (a : Addr) (n : Nat) (cs : List Value) (h : w.cells? base a n = some cs) : w'.cells? base a n = some cs := by
 unfold World.cells? at h ⊢
 split at h
 · rename_i hb
   rw [if_pos hb]
   refine mapM_again h fun i _ y _ hy => ?_
   have hlt := World.block_lt_of_cell? w _ hy
   rw [← hy]
   simp only [World.cell?, f.keep _ hlt id]
 · cases h

/-- What a law's end must be: it answers true, and no block that was there has changed. -/
theorem law_post {H : Type} {enc : TypeId × Value → H} {P : Program} {f : Func} {s : ChangeSpec} {W W' : World} {args : Array Value} {ds gs : List (DataW H)} {before : List MemPlace} {tb : TypeId} (hf : Fr Non W W')
 (hW : DataW.Whole enc P f.params.toList s.vars false W args.toList ds gs before) (k : Nat) (hts : f.params.toList.all (plainT P k) = true) (hv : s.vars = []) (hr : f.resultTypes = #[tb]) (htb : P.underlying tb = some .bool)
 (hsr : (s.fn H (ds ++ gs)).results = [.lit (.bool true)]) (hsa : (s.fn H (ds ++ gs)).args = ds) (hsv : (s.fn H (ds ++ gs)).vars = []) : s.post enc P f false true false false W args (.bool true) W' := by
 have hWW := hW
 obtain ⟨p, q, hA, hV, rfl, _, _⟩ := hW
 rw [hv] at hV
 obtain ⟨rfl, rfl⟩ := trodVars_none hV
 refine ⟨ds, [], p ++ [], [], p, [], hWW, ?_, ?_, ?_, ⟨hf.os, hf.output, fun i hi => ?_⟩, fun h => by cases h⟩
 · rw [hsr, hr]
   exact trodAll_cons_mk (shut_bool htb _) trodAll_mk0
 · rw [hsa]
   exact trodAll_again (hf.cells 0) k hts hA fun x hx => by simpa using hWW.lt x (by simpa using hx)
 · rw [hsv, hv]
   exact rfl
 · rw [hf.keep i hi id]
   cases hh : W.heap[i]? with
   | none => rfl
   | some o => cases o <;> simp

end Go.Proofs.YtlbomnbpahmphaaGreat
