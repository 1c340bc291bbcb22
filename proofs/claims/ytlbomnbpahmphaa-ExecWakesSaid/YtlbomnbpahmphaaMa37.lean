/- Walks: the checker's 'right'. Conditions: the checker's record lies there; so do the labels; they are not too many. -/
import Derived.Test.YtlbomnbpahmphaaMa36
import Derived.Test.YtlbomnbpahmphaaMa17
namespace Go.Proofs.Ytlbomnbpahmphaa
open Go.RowKit

theorem withinS_iff {n m : Int} : withinS n m = true ↔ 0 ≤ n ∧ n < m := by
  unfold withinS
  simp
theorem one_ok {kinds : List Int} {ncos n : Nat} {kind : Int} {x : In} (h : oneS kinds ncos n kind x = true) :
    (∀ r ∈ readsS x, 0 ≤ r ∧ r < 16) ∧ ((writesS x).2 = true → 0 ≤ (writesS x).1 ∧ (writesS x).1 < 16) ∧ (∀ a ∈ x.l, 0 ≤ a ∧ a < (n : Int)) := by
  unfold oneS at h
  split at h
  · cases h
  · rename_i h1
    split at h
    · cases h
    · simp only [Bool.or_eq_true, Bool.not_eq_true', not_or, Bool.not_eq_false] at h1
      obtain ⟨⟨⟨⟨_, ha⟩, hb⟩, hc⟩, _⟩ := h1
      have hf : ∀ (f n : Int), f = 1 ∨ f = 2 → fieldS kinds ncos f n = true → 0 ≤ n ∧ n < 16 := by
        intro f n hf h
        unfold fieldS at h
        rw [if_pos hf] at h
        exact withinS_iff.1 h
      refine ⟨?_, ?_, ?_⟩
      · intro r hr
        unfold readsS at hr
        rcases List.mem_append.1 hr with hr | hr
        · split at hr
          · rename_i e
            simp at hr e
            subst hr
            exact hf _ _ (Or.inl e) ha
          · cases hr
        · rcases List.mem_append.1 hr with hr | hr
          · split at hr
            · rename_i e
              simp at hr e
              subst hr
              exact hf _ _ (Or.inl e) hb
            · cases hr
          · split at hr
            · rename_i e
              simp at hr e
              subst hr
              exact hf _ _ (Or.inl e) hc
            · cases hr
      · intro hw
        unfold writesS at hw ⊢
        split at hw
        · rename_i e
          simp only [e, if_true]
          exact hf _ _ (Or.inr (by simpa using e)) ha
        · cases hw
      · intro a hx
        have := List.all_eq_true.1 h a hx
        exact withinS_iff.1 this

theorem fn_ok {kinds : List Int} {ncos : Nat} {kind : Int} {f : List In} (h0 : 0 < f.length) (h1 : f.length ≤ 65536) (hf : fallsS (f.getD (f.length - 1) In.zero).op = false) (ho : f.all (oneS kinds ncos f.length kind) = true) (hL : ∀ x ∈ f, x.l.length ≤ 17592186043904) : FnOk f := by
  refine ⟨h0, h1, fun j x hx => ?_⟩
  have hm := List.mem_of_getElem? hx
  obtain ⟨a1, a2, a3⟩ := one_ok (List.all_eq_true.1 ho x hm)
  refine ⟨a1, a2, a3, fun hfx => ?_, hL x hm⟩
  have hj := (List.getElem?_eq_some_iff.1 hx).1
  by_cases e : j = f.length - 1
  · subst e
    rw [List.getD_eq_getElem?_getD, hx] at hf
    simp only [Option.getD_some] at hf
    rw [hf] at hfx
    cases hfx
  · omega

section
variable {base : Nat} {P : Pr} {kinds : List Int} {f : List In} {kind : Int} {w : World} {c : Nat}

set_option maxRecDepth 100000 in
set_option maxHeartbeats 4000000 in
theorem right_c (h : Chk base P kinds f kind w c) (hL : ∀ x ∈ f, x.l.length ≤ 17592186043904) : Calls Try.prog 49 #[.pointer (some ⟨c, 0, none⟩)] w fun e w' => e = .returned (.bool (rightS kinds P.cos.length kind f)) ∧ Fr Non w w' := by
  obtain ⟨R, hR⟩ : ∃ R, R = rightS kinds P.cos.length kind f := ⟨_, rfl⟩
  rw [← hR]
  unfold rightS at hR
  have HH := Lib.hid (And.intro h (And.intro hL hR))
  obtain ⟨fo, fc, co, cc, kb, kc, io, ic, h1, hkk, h3⟩ := h
  have c3 := h1.cell (o := 3) rfl
  have hcl := h1.lt
  have HI := Lib.hid h3
  clear h1 h3 hR hkk hL
  by_cases hn : f.length < 1
  · have hz : f.length = 0 := by omega
    rw [hz] at c3
    go_enter Try.func49, Try.ntmps49
    go_wp2_with fail
    go_ret
    exact ⟨by rw [HH.out.2.2, if_pos (Or.inl hn)]; rfl, by exact (by repeat (first | exact .refl _ _ | assumption | apply Fr.drewN | apply Fr.drew | apply Fr.drewl | apply Fr.drewNl | apply Fr.alloc))⟩
  · have hn1 : ¬ (f.length : Int) < 1 := by omega
    by_cases hb : 65536 < f.length
    · have hb1 : (65536 : Int) < (f.length : Int) := by omega
      go_enter Try.func49, Try.ntmps49
      go_wp2_with fail
      go_ret
      exact ⟨by rw [HH.out.2.2, if_pos (Or.inr (Or.inl hb))]; rfl, by exact (by repeat (first | exact .refl _ _ | assumption | apply Fr.drewN | apply Fr.drew | apply Fr.drewl | apply Fr.drewNl | apply Fr.alloc))⟩
    · have hb1 : ¬ (65536 : Int) < (f.length : Int) := by omega
      obtain ⟨m, hm⟩ : ∃ m, f.length = m + 1 := ⟨f.length - 1, by omega⟩
      obtain ⟨x, hx⟩ : ∃ x, f[m]? = some x := ⟨f[m], List.getElem?_eq_getElem (by omega)⟩
      have hfx : f.getD (f.length - 1) In.zero = x := by rw [hm, Nat.add_sub_cancel, List.getD_eq_getElem?_getD, hx]; rfl
      obtain ⟨ib, iof, la, lc, e0, i0, i1, i2, i3, i4, i5⟩ := HI.out m x hx
      subst e0
      have y0 := i0.2
      have y1 := i1.2
      have y2 := i2.2
      have y3 := i3.2
      have y4 := i4.2
      have hR2 := HH.out.2.2
      rw [hfx] at hR2
      have HR := Lib.hid hR2
      clear hR2 i0 i1 i2 i3 i4 i5 hx
      have hw1 : IntKind.i64.wrap (m : Int) = (m : Int) := IntWalk.i64_in _ (by omega)
      have hm0 : (0 : Int) ≤ (m : Int) := by omega
      have hm1 : (m : Int) < (m : Int) + 1 := by omega
      have hm2 : ¬ (m : Int) + 1 < 1 := by omega
      have hm3 : ¬ (65536 : Int) < (m : Int) + 1 := by omega
      rw [hm] at c3
      have hF := Lib.hid fun w1 => falls_c w1 x la lc
      have hfo := @fn_ok kinds P.cos.length kind f (by omega) (by omega)
      rw [hfx] at hfo
      obtain ⟨xop, xa, xb, xc, xl⟩ := x
      simp only at y0 y1 y2 y3 y4 hF
      have HFO := Lib.hid hfo
      clear hfo hn1 hb1
      go_enter Try.func49, Try.ntmps49
      go_wp2_with fail
      refine (hF.out _).mono ?_
      rintro e1 w1 ⟨rfl, hf1⟩
      have d3 := hf1.cell c3 id
      have HF1 := Lib.hid hf1
      cases hfl : fallsS xop with
      | true =>
        clear hf1
        go_wp2_with fail
        go_ret
        exact ⟨by rw [HR.out, if_pos (Or.inr (Or.inr hfl))]; rfl, HF1.out⟩
      | false =>
        clear hf1 y0 y1 y2 y3 y4
        go_wp2_with fail
        have HR2 := Lib.hid (show R = if f.all (oneS kinds P.cos.length f.length kind) = true then waysS f kind else false by
          rw [HR.out, if_neg (fun e => by
            rcases e with e | e | e
            · exact hn e
            · exact hb e
            · rw [hfl] at e; cases e)])
        clear HR hF
        go_loopw [33] (fun v33 wr => ∃ i : Nat, i ≤ m + 1 ∧ v33 = .int .i64 i ∧ (∀ t, t < i → ∀ y, f[t]? = some y → oneS kinds P.cos.length f.length kind y = true) ∧ Fr Non w1 wr) (fun v33 _ => m + 1 - (intOf v33).toNat)
        case atStart => exact ⟨0, Nat.zero_le _, rfl, fun t ht => by omega, by exact (by repeat (first | exact .refl _ _ | assumption | apply Fr.drewN | apply Fr.drew | apply Fr.drewl | apply Fr.drewNl | apply Fr.alloc))⟩
        case round =>
          obtain ⟨i, hi, rfl, hall, hfr⟩ := hrel
          have hi0 : (0 : Int) ≤ (i : Int) := by omega
          have hfw := HF1.out.trans hfr
          by_cases hil : i < m + 1
          · have hil' : (i : Int) < (m : Int) + 1 := by omega
            obtain ⟨y, hy⟩ : ∃ y, f[i]? = some y := ⟨f[i]'(by omega), List.getElem?_eq_getElem _⟩
            obtain ⟨ib2, iof2, la2, lc2, e0, i0, i1, i2, i3, i4, i5⟩ := HI.out i y hy
            cases e0
            have y0 := hfw.cell i0.2 id
            have y1 := hfw.cell i1.2 id
            have y2 := hfw.cell i2.2 id
            have y3 := hfw.cell i3.2 id
            have y4 := hfw.cell i4.2 id
            have hla : ArgsAt w la2 y.l := fun i n hn => by
              obtain ⟨b, o, e, hc⟩ := i5 i n hn
              exact ⟨b, o, e, hc.2⟩
            have hO := Lib.hid fun w2 (g : Fr Non w w2) => one_c (HH.out.1.fr g) y la2 lc2 (hla.fr g (fun _ _ _ h => h)) (HH.out.2.1 y (List.mem_of_getElem? hy))
            have hwi : IntKind.i64.wrap ((i : Int) + 1) = (i : Int) + 1 := IntWalk.i64_in _ (by omega)
            have HX := Lib.hid (And.intro hall (And.intro hfr hy))
            have hwr := HF1.out.size
            have hwr2 := hfr.size
            clear hall hfr i0 i1 i2 i3 i4 i5 hla hy
            obtain ⟨yop, ya, yb, yc, yl⟩ := y
            simp only at y0 y1 y2 y3 y4
            have HFW := Lib.hid hfw
            clear hfw
            go_wp2_with fail
            refine (hO.out _ (by exact HFW.out.alloc _)).mono ?_
            rintro e2 w2 ⟨rfl, hf2⟩
            have hf12 : Fr Non w1 w2 := Fr.trans (by exact HX.out.2.1.alloc _) hf2
            clear hf2
            cases hob : oneS kinds P.cos.length f.length kind ⟨yop, ya, yb, yc, yl⟩ with
            | true =>
              go_wp2_with fail
              refine ⟨⟨i + 1, by omega, rfl, ?_, hf12⟩, by simp [intOf]; omega⟩
              intro t ht z hz
              rcases Nat.lt_succ_iff_lt_or_eq.1 ht with h | rfl
              · exact HX.out.1 t h z hz
              · rw [HX.out.2.2] at hz
                cases hz
                exact hob
            | false =>
              go_wp2_with fail
              go_ret
              refine ⟨?_, HF1.out.trans hf12⟩
              rw [HR2.out, if_neg]
              · rfl
              · intro e
                have := List.all_eq_true.1 e _ (List.mem_of_getElem? HX.out.2.2)
                rw [hob] at this
                cases this
          · have hii : i = m + 1 := by omega
            subst hii
            have hall2 : f.all (oneS kinds P.cos.length f.length kind) = true := by
              rw [List.all_eq_true]
              intro y hy
              obtain ⟨t, ht, rfl⟩ := List.getElem_of_mem hy
              exact hall t (by omega) _ (List.getElem?_eq_getElem ht)
            have hnlt : ¬ ((m : Int) + 1 < (m : Int) + 1) := by omega
            have hW := Lib.hid (ways_c (HH.out.1.fr hfw) (HFO.out hfl hall2 HH.out.2.1))
            have hR3 := HR2.out
            rw [if_pos hall2] at hR3
            rw [← hR3] at hW
            have HFW := Lib.hid hfw
            clear hall hfr hall2 hfw hR3
            go_wp2_with fail
            refine hW.out.mono ?_
            rintro e2 w2 ⟨rfl, hf2⟩
            have HE := Lib.hid (HFW.out.trans hf2)
            clear hf2
            go_wp2_with fail
            go_ret
            exact ⟨rfl, HE.out⟩
end

end Go.Proofs.Ytlbomnbpahmphaa

/- Walks: the checker's 'Kinds'. Conditions: the coroutines lie at their slice; they are not too many. -/
namespace Go.Proofs.Ytlbomnbpahmphaa
open Go.RowKit

theorem mark_len (l : List Int) (a k : Int) : (markS l a k).length = l.length := by
  unfold markS
  split <;> simp

section
variable {base : Nat} {P : Pr} {w : World}

set_option maxRecDepth 100000 in
set_option maxHeartbeats 400000 in
theorem kinds1_c {q kb c : Nat} {l : List Int} (hq : w.cell? ⟨q, 0, none⟩ = some (.slice (some ⟨kb, 0, none⟩) l.length c)) (hr : Row w kb 3 (ints l)) (a k : Int) :
    Calls Try.prog 65 #[.int .i64 a, .int .i64 k, .pointer (some ⟨q, 0, none⟩)] w fun e w' => e = .returned (.tuple #[]) ∧ Row w' kb 3 (ints (markS l a k)) ∧ Fr (fun x => x = kb) w w' := by
  have hql := World.block_lt_of_cell? w _ hq
  have HR := Lib.hid hr
  have hz := hr.frozen
  have hkl := hr.lt
  by_cases h0 : 0 ≤ a
  · obtain ⟨i, rfl⟩ := Int.eq_ofNat_of_zero_le h0
    by_cases h1 : i < l.length
    · have h1' : (i : Int) < (l.length : Int) := by omega
      have hm : markS l (i : Int) k = l.set i k := by
        unfold markS
        rw [if_pos (withinS_iff.2 ⟨h0, h1'⟩), Int.toNat_natCast]
      rw [hm]
      have hc := hr.cell (show (ints l)[i]? = some (.int .i64 l[i]) by simp [ints, h1])
      clear hr hm
      generalize l[i] = li at *
      go_enter Try.func65, Try.ntmps65
      go_wp2_with fail
      refine bodyPost_end (results_none rfl _ _ _) rfl ?_
      refine ⟨rfl, ?_, Fr.set1 _ _ _ _⟩
      have : ints (l.set i k) = (ints l).set i (.int .i64 k) := by simp [ints, List.map_set]
      rw [this]
      exact HR.out.set_same i _
    · have h1' : ¬ (i : Int) < (l.length : Int) := by omega
      have hm : markS l (i : Int) k = l := by
        unfold markS
        rw [if_neg (fun e => h1' (withinS_iff.1 e).2)]
      rw [hm]
      clear hr hm
      go_enter Try.func65, Try.ntmps65
      go_wp2_with fail
      refine bodyPost_end (results_none rfl _ _ _) rfl ?_
      exact ⟨rfl, HR.out, Fr.refl _ _⟩
  · have hm : markS l a k = l := by
      unfold markS
      rw [if_neg (fun e => h0 (withinS_iff.1 e).1)]
    rw [hm]
    clear hr hm
    go_enter Try.func65, Try.ntmps65
    go_wp2_with fail
    refine bodyPost_end (results_none rfl _ _ _) rfl ?_
    exact ⟨rfl, HR.out, Fr.refl _ _⟩

set_option maxRecDepth 100000 in
set_option maxHeartbeats 1000000 in
theorem kinds_c (fo : Option Addr) (fc : Nat) (co : Option Addr) (cc : Nat) (hco : CosB base w co P.cos) (hn : P.funs.length ≤ 65536) (hnc : P.cos.length ≤ 65536) :
    Calls Try.prog 47 #[.agg #[.slice fo P.funs.length fc, .slice co P.cos.length cc]] w fun e w' => ∃ g, e = .returned (.slice (some ⟨g, 0, none⟩) P.funs.length P.funs.length) ∧ Row w' g 3 (ints (kindsS P)) ∧ w.heap.size ≤ g ∧ Fr Non w w' := by
  obtain ⟨j0, hj, hj0, hj1, hj2⟩ := info_parts Try.infoInt
  have hmf : ∀ (fn : Fn) (first cap : Array Value) (W : World), (Instr.makeFunc fn first cap).run Try.prog W = .ok (.func fn first cap) W := fun _ _ _ _ => rfl
  obtain ⟨n, hnn⟩ : ∃ n, n = P.funs.length := ⟨_, rfl⟩
  obtain ⟨R, hR⟩ : ∃ R, R = kindsS P := ⟨_, rfl⟩
  rw [← hR]
  unfold kindsS at hR
  rw [← hnn] at hR hn ⊢
  have hm2 : ∀ W : World, (Instr.makeSlice 34 (.int .i64 n) (.int .i64 n)).run Try.prog W = .ok (.slice (Option.some ⟨W.heap.size, 0, none⟩) n n) (W.alloc (.cells (madeCells #[.int .i64 0] (n * 1)) 3)) := by
    intro W
    have := run_make (P := Try.prog) W 34 3 j0 _ Try.underlying34 hj hj0 .i64 .i64 (n : Int) (n : Int) (by omega) (by omega) (by rw [hj2]; omega) (by omega)
    rw [hj1] at this
    simpa [Value.cells] using this
  have hZ := madeCells_int n
  generalize madeCells #[.int .i64 0] (n * 1) = zZ at *
  have HZ := Lib.hid (And.intro hZ (And.intro hR (And.intro hco hnc)))
  clear hZ hR hco hnn hnc
  go_enter Try.func47, Try.ntmps47
  go_wp2_with fail
  have b1 : (((w.alloc (.cells #[.slice fo n fc, .slice co P.cos.length cc] 25)).alloc (.cells zZ 3)).alloc (.cells #[.slice (some ⟨w.heap.size + 1, 0, none⟩) n n] 34)).cell? ⟨w.heap.size, 1, none⟩ = some (.slice co P.cos.length cc) := (Row.alloc (Row.alloc (Row.new' rfl) _) _).cell (o := 1) rfl
  have b2 : Row (((w.alloc (.cells #[.slice fo n fc, .slice co P.cos.length cc] 25)).alloc (.cells zZ 3)).alloc (.cells #[.slice (some ⟨w.heap.size + 1, 0, none⟩) n n] 34)) (w.heap.size + 1 + 1) 34 [.slice (some ⟨w.heap.size + 1, 0, none⟩) n n] := Row.new' (by simp)
  have hr : Row (((w.alloc (.cells #[.slice fo n fc, .slice co P.cos.length cc] 25)).alloc (.cells zZ 3)).alloc (.cells #[.slice (some ⟨w.heap.size + 1, 0, none⟩) n n] 34)) (w.heap.size + 1) 3 (ints (List.replicate n 0)) := by
    have : ints (List.replicate n 0) = zZ.toList := by rw [HZ.out.1]; simp [ints]
    rw [this]
    exact (Row.new' (by simp)).alloc _
  have hf : Fr Non w (((w.alloc (.cells #[.slice fo n fc, .slice co P.cos.length cc] 25)).alloc (.cells zZ 3)).alloc (.cells #[.slice (some ⟨w.heap.size + 1, 0, none⟩) n n] 34)) := by exact (by repeat (first | exact .refl _ _ | assumption | apply Fr.drewN | apply Fr.drew | apply Fr.drewl | apply Fr.drewNl | apply Fr.alloc))
  have hsz : (((w.alloc (.cells #[.slice fo n fc, .slice co P.cos.length cc] 25)).alloc (.cells zZ 3)).alloc (.cells #[.slice (some ⟨w.heap.size + 1, 0, none⟩) n n] 34)).heap.size = w.heap.size + 1 + 1 + 1 := by simp
  generalize ((w.alloc (.cells #[.slice fo n fc, .slice co P.cos.length cc] 25)).alloc (.cells zZ 3)).alloc (.cells #[.slice (some ⟨w.heap.size + 1, 0, none⟩) n n] 34) = W at *
  have HR := Lib.hid (And.intro hr (And.intro hf b2))
  clear hr hf b2
  go_loopw [17] (fun v wr => ∃ (i : Nat) (l : List Int), i ≤ P.cos.length ∧ v = .int .i64 i ∧ l = List.foldl (fun l c => markS l c.cancel 2) (List.replicate n 0) (P.cos.take i) ∧ l.length = n ∧ Row wr (w.heap.size + 1) 3 (ints l) ∧ Fr (fun x => x = w.heap.size + 1) W wr) (fun v _ => P.cos.length - (intOf v).toNat)
  case atStart => exact ⟨0, _, Nat.zero_le _, rfl, rfl, by simp, HR.out.1, Fr.refl _ _⟩
  case round =>
    obtain ⟨i, l, hi, rfl, hl, hln, hrow, hfr⟩ := hrel
    have hi0 : (0 : Int) ≤ (i : Int) := by omega
    have hwr := hfr.size
    have hq : wr.cell? ⟨w.heap.size + 1 + 1, 0, none⟩ = some (.slice (some ⟨w.heap.size + 1, 0, none⟩) l.length n) := by rw [hln]; exact hfr.cell (HR.out.2.2.cell rfl) (by simp)
    have hb1 := hfr.cell b1 (by simp)
    by_cases hil : i < P.cos.length
    · have hil' : (i : Int) < (P.cos.length : Int) := by omega
      obtain ⟨cb, oo, eco, hcs⟩ := HZ.out.2.2.1 (by omega)
      subst eco
      obtain ⟨x, hx⟩ : ∃ x, P.cos[i]? = some x := ⟨P.cos[i], List.getElem?_eq_getElem hil⟩
      obtain ⟨g0, g1, g2, g3, g4⟩ := crs_get hx
      have hcbw : cb < w.heap.size := World.block_lt_of_cell? w _ (hcs _ _ g0).2
      have hcn : ¬ cb = w.heap.size + 1 := by omega
      have c0 := hfr.cell (HR.out.2.1.cell (hcs _ _ g0).2 id) hcn
      have c1 := hfr.cell (HR.out.2.1.cell (hcs _ _ g1).2 id) hcn
      have c2 := hfr.cell (HR.out.2.1.cell (hcs _ _ g2).2 id) hcn
      have c3 := hfr.cell (HR.out.2.1.cell (hcs _ _ g3).2 id) hcn
      have c4 := hfr.cell (HR.out.2.1.cell (hcs _ _ g4).2 id) hcn
      rw [← Nat.add_assoc] at c1 c2 c3 c4
      have hnext : List.foldl (fun l c => markS l c.cancel 2) (List.replicate n 0) (P.cos.take (i + 1)) = markS l x.cancel 2 := by
        have hx2 : P.cos[i] = x := by have := List.getElem?_eq_getElem hil; rw [this] at hx; exact Option.some.inj hx
        rw [List.take_succ_eq_append_getElem hil, List.foldl_append, ← hl, hx2]
        rfl
      have hwi : IntKind.i64.wrap ((i : Int) + 1) = (i : Int) + 1 := IntWalk.i64_in _ (by have := HZ.out.2.2.2; omega)
      have hKK := Lib.hid fun w2 (f : Fr Non wr w2) a k => kinds1_c (f.cell hq id) (f.row hrow id) a k
      have HX := Lib.hid (And.intro hl (And.intro hln (And.intro hfr hnext)))
      clear hl hrow hfr hcs g0 g1 g2 g3 g4 hnext hx
      have hlq : Hid (l.length = n) := Lib.hid hln
      rw [hln] at hq
      clear hln
      obtain ⟨xn, xr, xc, xw, xa⟩ := x
      simp only at c0 c1 c2 c3 c4
      go_wp2_with fail
      refine (hKK.out _ (by exact (by repeat (first | exact .refl _ _ | assumption | apply Fr.drewN | apply Fr.drew | apply Fr.drewl | apply Fr.drewNl | apply Fr.alloc))) _ _).mono ?_
      rintro e1 w2 ⟨rfl, hr2, hf2⟩
      have HY := Lib.hid (And.intro hr2 hf2)
      clear hr2 hf2
      go_wp2_with fail
      obtain ⟨hl, hln, hfr, hnext⟩ := HX.out
      refine ⟨⟨i + 1, _, by omega, rfl, rfl, ?_, ?_, ?_⟩, by simp [intOf]; omega⟩
      · rw [hnext, mark_len]; exact hln
      · rw [hnext]; exact HY.out.1
      · exact Fr.trans (by exact hfr.alloc _) HY.out.2
    · have hii : i = P.cos.length := by omega
      subst hii
      rw [List.take_length] at hl
      have hnlt : ¬ ((P.cos.length : Int) < (P.cos.length : Int)) := by omega
      clear hil hi hi0
      have HX1 := Lib.hid (And.intro hl hln)
      have HX2 := Lib.hid hrow
      have HX3 := Lib.hid hfr
      clear hl hln hrow hfr
      go_wp2_with fail
      have HR' : Hid (Row wr (w.heap.size + 1) 3 (ints l) ∧ Fr Non w wr ∧ Row wr (w.heap.size + 1 + 1) 34 [.slice (some ⟨w.heap.size + 1, 0, none⟩) n n]) := Lib.hid ⟨HX2.out, Fr.then HR.out.2.1 HX3.out (fun x h e => by subst e; omega), HX3.out.row HR.out.2.2 (by simp)⟩
      have hs2 : w.heap.size + 3 ≤ wr.heap.size := by omega
      clear HR HX2 HX3 hq b1 hwr hsz
      have HR := HR'
      clear HR'
      rename World => W
      obtain ⟨l1, hl1⟩ : ∃ l1, l1 = l := ⟨_, rfl⟩
      rw [← hl1] at HR HX1
      clear hl1
      have b1 := hb1
      clear hb1
      go_loopw [29] (fun v wr => ∃ (i : Nat) (l : List Int), i ≤ P.cos.length ∧ v = .int .i64 i ∧ l = List.foldl (fun l c => markS l c.resume 1) l1 (P.cos.take i) ∧ l.length = n ∧ Row wr (w.heap.size + 1) 3 (ints l) ∧ Fr (fun x => x = w.heap.size + 1) W wr) (fun v _ => P.cos.length - (intOf v).toNat)
      case atStart => exact ⟨0, _, Nat.zero_le _, rfl, rfl, HX1.out.2, HR.out.1, Fr.refl _ _⟩
      case round =>
        obtain ⟨i, l, hi, rfl, hl, hln, hrow, hfr⟩ := hrel
        have hi0 : (0 : Int) ≤ (i : Int) := by omega
        have hwr := hfr.size
        have hq : wr.cell? ⟨w.heap.size + 1 + 1, 0, none⟩ = some (.slice (some ⟨w.heap.size + 1, 0, none⟩) l.length n) := by rw [hln]; exact hfr.cell (HR.out.2.2.cell rfl) (by simp)
        have hb1 := hfr.cell b1 (by simp)
        by_cases hil : i < P.cos.length
        · have hil' : (i : Int) < (P.cos.length : Int) := by omega
          obtain ⟨cb, oo, eco, hcs⟩ := HZ.out.2.2.1 (by omega)
          subst eco
          obtain ⟨x, hx⟩ : ∃ x, P.cos[i]? = some x := ⟨P.cos[i], List.getElem?_eq_getElem hil⟩
          obtain ⟨g0, g1, g2, g3, g4⟩ := crs_get hx
          have hcbw : cb < w.heap.size := World.block_lt_of_cell? w _ (hcs _ _ g0).2
          have hcn : ¬ cb = w.heap.size + 1 := by omega
          have c0 := hfr.cell (HR.out.2.1.cell (hcs _ _ g0).2 id) hcn
          have c1 := hfr.cell (HR.out.2.1.cell (hcs _ _ g1).2 id) hcn
          have c2 := hfr.cell (HR.out.2.1.cell (hcs _ _ g2).2 id) hcn
          have c3 := hfr.cell (HR.out.2.1.cell (hcs _ _ g3).2 id) hcn
          have c4 := hfr.cell (HR.out.2.1.cell (hcs _ _ g4).2 id) hcn
          rw [← Nat.add_assoc] at c1 c2 c3 c4
          have hnext : List.foldl (fun l c => markS l c.resume 1) l1 (P.cos.take (i + 1)) = markS l x.resume 1 := by
            have hx2 : P.cos[i] = x := by have := List.getElem?_eq_getElem hil; rw [this] at hx; exact Option.some.inj hx
            rw [List.take_succ_eq_append_getElem hil, List.foldl_append, ← hl, hx2]
            rfl
          have hwi : IntKind.i64.wrap ((i : Int) + 1) = (i : Int) + 1 := IntWalk.i64_in _ (by have := HZ.out.2.2.2; omega)
          have hKK := Lib.hid fun w2 (f : Fr Non wr w2) a k => kinds1_c (f.cell hq id) (f.row hrow id) a k
          have HX := Lib.hid (And.intro hl (And.intro hln (And.intro hfr hnext)))
          clear hl hrow hfr hcs g0 g1 g2 g3 g4 hnext hx
          have hlq : Hid (l.length = n) := Lib.hid hln
          rw [hln] at hq
          clear hln
          obtain ⟨xn, xr, xc, xw, xa⟩ := x
          simp only at c0 c1 c2 c3 c4
          go_wp2_with fail
          refine (hKK.out _ (by exact (by repeat (first | exact .refl _ _ | assumption | apply Fr.drewN | apply Fr.drew | apply Fr.drewl | apply Fr.drewNl | apply Fr.alloc))) _ _).mono ?_
          rintro e1 w2 ⟨rfl, hr2, hf2⟩
          have HY := Lib.hid (And.intro hr2 hf2)
          clear hr2 hf2
          go_wp2_with fail
          obtain ⟨hl, hln, hfr, hnext⟩ := HX.out
          refine ⟨⟨i + 1, _, by omega, rfl, rfl, ?_, ?_, ?_⟩, by simp [intOf]; omega⟩
          · rw [hnext, mark_len]; exact hln
          · rw [hnext]; exact HY.out.1
          · exact Fr.trans (by exact hfr.alloc _) HY.out.2
        · have hii : i = P.cos.length := by omega
          subst hii
          rw [List.take_length] at hl
          have hnlt : ¬ ((P.cos.length : Int) < (P.cos.length : Int)) := by omega
          clear hil hi hi0
          have q1 := hrow
          have HE : Hid (Row wr (w.heap.size + 1) 3 (ints R) ∧ Fr Non w wr) := Lib.hid ⟨by rw [HZ.out.2.1, ← HX1.out.1, ← hl]; exact hrow, Fr.then HR.out.2.1 hfr (fun x h e => by subst e; omega)⟩
          clear hl hrow hfr hb1 q1
          rw [hln] at hq
          clear hln
          go_wp2_with fail
          go_ret
          exact ⟨w.heap.size + 1, rfl, HE.out.1, by omega, HE.out.2⟩
end

end Go.Proofs.Ytlbomnbpahmphaa

/- Walk: the checker, whole: 'Valid'. Conditions: the program lies at its slices; a list of labels is not too long. -/
namespace Go.Proofs.Ytlbomnbpahmphaa
open Go.RowKit

theorem rights_all (kinds : List Int) (n : Nat) : ∀ (l : List (List In)) (i : Nat), rightsS kinds n i l = true ↔ ∀ (t : Nat) (f : List In), l[t]? = some f → rightS kinds n (kinds.getD (i + t) 0) f = true
  | [], i => by simp [rightsS]
  | f :: l, i => by
    have ih := rights_all kinds n l (i + 1)
    simp only [rightsS, Bool.and_eq_true, ih]
    constructor
    · rintro ⟨h1, h2⟩ t g hg
      cases t with
      | zero => cases hg; exact h1
      | succ t => have := h2 t g hg; rwa [show i + (t + 1) = i + 1 + t from by omega]
    · intro h
      exact ⟨h 0 f rfl, fun t g hg => by have := h (t + 1) g hg; rwa [show i + 1 + t = i + (t + 1) from by omega]⟩

section
variable {base : Nat} {P : Pr} {w : World}

theorem marks_len (g : Cr → Int) (k : Int) : ∀ (l : List Cr) (z : List Int), (l.foldl (fun l c => markS l (g c) k) z).length = z.length
  | [], z => rfl
  | c :: l, z => by rw [List.foldl_cons, marks_len g k l, mark_len]
theorem kinds_len (P : Pr) : (kindsS P).length = P.funs.length := by
  unfold kindsS
  rw [marks_len, marks_len, List.length_replicate]

set_option maxRecDepth 100000 in
set_option maxHeartbeats 1000000 in
theorem valid_c (fo : Option Addr) (fc : Nat) (co : Option Addr) (cc : Nat) (hf : FunsAt base w fo P.funs) (hco : CosB base w co P.cos) (hL : ∀ f ∈ P.funs, ∀ x ∈ f, x.l.length ≤ 17592186043904) :
    Calls Try.prog 28 #[.agg #[.slice fo P.funs.length fc, .slice co P.cos.length cc]] w fun e w' => e = .returned (.bool (validS P)) ∧ Fr Non w w' := by
  obtain ⟨R, hR⟩ : ∃ R, R = validS P := ⟨_, rfl⟩
  rw [← hR]
  unfold validS at hR
  have HH := Lib.hid (And.intro hf (And.intro hco (And.intro hL hR)))
  clear hf hco hL hR
  by_cases hn : 65536 < P.funs.length
  · have hn1 : (65536 : Int) < (P.funs.length : Int) := by omega
    go_enter Try.func28, Try.ntmps28
    go_wp2_with fail
    go_ret
    exact ⟨by rw [HH.out.2.2.2, if_pos (Or.inl hn)]; rfl, by exact (by repeat (first | exact .refl _ _ | assumption | apply Fr.drewN | apply Fr.drew | apply Fr.drewl | apply Fr.drewNl | apply Fr.alloc))⟩
  have hn1 : ¬ (65536 : Int) < (P.funs.length : Int) := by omega
  by_cases hc : 65536 < P.cos.length
  · have hc1 : (65536 : Int) < (P.cos.length : Int) := by omega
    go_enter Try.func28, Try.ntmps28
    go_wp2_with fail
    go_ret
    exact ⟨by rw [HH.out.2.2.2, if_pos (Or.inr hc)]; rfl, by exact (by repeat (first | exact .refl _ _ | assumption | apply Fr.drewN | apply Fr.drew | apply Fr.drewl | apply Fr.drewNl | apply Fr.alloc))⟩
  have hc1 : ¬ (65536 : Int) < (P.cos.length : Int) := by omega
  have hR1 := HH.out.2.2.2
  rw [if_neg (by omega)] at hR1
  have HK := Lib.hid fun w1 (g : Fr Non w w1) => kinds_c fo fc co cc (HH.out.2.1.fr g (fun _ h => h.elim)) (P := P) (by omega) (by omega)
  have HR := Lib.hid hR1
  clear hR1
  go_enter Try.func28, Try.ntmps28
  go_wp2_with fail
  refine (HK.out _ (by exact (by repeat (first | exact .refl _ _ | assumption | apply Fr.drewN | apply Fr.drew | apply Fr.drewl | apply Fr.drewNl | apply Fr.alloc)))).mono ?_
  rintro e1 w1 ⟨g, rfl, hr, hg, hf⟩
  have hgl := hr.lt
  have hs1 := hf.size
  have b0 := hf.new_cell (by simp [Non]) (o := 0) rfl
  have b1 := hf.new_cell (by simp [Non]) (o := 1) rfl
  have HF : Hid (Fr Non w w1) := Lib.hid (Fr.trans (by exact (by repeat (first | exact .refl _ _ | assumption | apply Fr.drewN | apply Fr.drew | apply Fr.drewl | apply Fr.drewNl | apply Fr.alloc))) hf)
  have hkl := kinds_len P
  have HG := Lib.hid (And.intro hr hkl)
  generalize kindsS P = kinds at *
  simp only [World.size_alloc] at hs1 hg
  clear hr hf HK
  clear hkl
  go_wp2_with fail
  go_loopw [24] (fun v wr => ∃ i : Nat, i ≤ P.cos.length ∧ v = .int .i64 i ∧ (∀ t, t < i → ∀ x, P.cos[t]? = some x → coroutineS kinds x = true) ∧ Fr Non w1 wr) (fun v _ => P.cos.length - (intOf v).toNat)
  case atStart => exact ⟨0, Nat.zero_le _, rfl, fun t ht => by omega, Fr.refl _ _⟩
  case round =>
    obtain ⟨i, hi, rfl, hall, hfr⟩ := hrel
    have hi0 : (0 : Int) ≤ (i : Int) := by omega
    have hwr := hfr.size
    have d0 := hfr.cell b0 id
    have d1 := hfr.cell b1 id
    by_cases hil : i < P.cos.length
    · have hil' : (i : Int) < (P.cos.length : Int) := by omega
      obtain ⟨cb, oo, eco, hcs⟩ := HH.out.2.1 (by omega)
      subst eco
      obtain ⟨x, hx⟩ : ∃ x, P.cos[i]? = some x := ⟨P.cos[i], List.getElem?_eq_getElem hil⟩
      obtain ⟨g0, g1, g2, g3, g4⟩ := crs_get hx
      have hfw := HF.out.trans hfr
      have c0 := hfw.cell (hcs _ _ g0).2 id
      have c1 := hfw.cell (hcs _ _ g1).2 id
      have c2 := hfw.cell (hcs _ _ g2).2 id
      have c3 := hfw.cell (hcs _ _ g3).2 id
      have c4 := hfw.cell (hcs _ _ g4).2 id
      rw [← Nat.add_assoc] at c1 c2 c3 c4
      have hwi : IntKind.i64.wrap ((i : Int) + 1) = (i : Int) + 1 := IntWalk.i64_in _ (by omega)
      have HC := Lib.hid fun w2 (f : Fr Non w1 w2) => coroutine_c (kinds := kinds) w2 g P.funs.length (fun j hj => (f.row HG.out.1 id).cell (by simp [ints, hj])) x
      rw [HG.out.2] at HC
      have HX := Lib.hid (And.intro hall (And.intro hfr hx))
      clear hall hfr hcs g0 g1 g2 g3 g4 hx hfw
      obtain ⟨xn, xr, xc, xw, xa⟩ := x
      simp only at c0 c1 c2 c3 c4
      go_wp2_with fail
      refine (HC.out _ (by exact HX.out.2.1.alloc _)).mono ?_
      rintro e2 w2 ⟨rfl, hf2⟩
      have hf12 : Fr Non w1 w2 := Fr.trans (by exact HX.out.2.1.alloc _) hf2
      clear hf2
      cases hob : coroutineS kinds ⟨xn, xr, xc, xw, xa⟩ with
      | true =>
        go_wp2_with fail
        refine ⟨⟨i + 1, by omega, rfl, ?_, hf12⟩, by simp [intOf]; omega⟩
        intro t ht z hz
        rcases Nat.lt_succ_iff_lt_or_eq.1 ht with h | rfl
        · exact HX.out.1 t h z hz
        · rw [HX.out.2.2] at hz
          cases hz
          exact hob
      | false =>
        go_wp2_with fail
        go_ret
        refine ⟨?_, HF.out.trans hf12⟩
        rw [HR.out]
        have : P.cos.all (coroutineS kinds) = false := by
          rw [List.all_eq_false]
          exact ⟨_, List.mem_of_getElem? HX.out.2.2, by rw [hob]; simp⟩
        rw [this]
        rfl
    · have hii : i = P.cos.length := by omega
      subst hii
      have hall2 : P.cos.all (coroutineS kinds) = true := by
        rw [List.all_eq_true]
        intro y hy
        obtain ⟨t, ht, rfl⟩ := List.getElem_of_mem hy
        exact hall t (by omega) _ (List.getElem?_eq_getElem ht)
      have HR2 : Hid (R = rightsS kinds P.cos.length 0 P.funs) := Lib.hid (by rw [HR.out, hall2]; rfl)
      have hnlt : ¬ ((P.cos.length : Int) < (P.cos.length : Int)) := by omega
      have HF2 := Lib.hid hfr
      clear hall hall2 hfr hil hi hi0 HR
      go_wp2_with fail
      go_loopw [36] (fun v wr2 => ∃ i : Nat, i ≤ P.funs.length ∧ v = .int .i64 i ∧ (∀ t, t < i → ∀ f, P.funs[t]? = some f → rightS kinds P.cos.length (kinds.getD t 0) f = true) ∧ Fr Non w1 wr2) (fun v _ => P.funs.length - (intOf v).toNat)
      case atStart => exact ⟨0, Nat.zero_le _, rfl, fun t ht => by omega, HF2.out⟩
      case round =>
        rename World => wx
        obtain ⟨i, hi, rfl, hall, hfr⟩ := hrel
        have hi0 : (0 : Int) ≤ (i : Int) := by omega
        have hwx := hfr.size
        have e0 := hfr.cell b0 id
        have e1 := hfr.cell b1 id
        clear d0 d1
        by_cases hil : i < P.funs.length
        · have hil' : (i : Int) < (P.funs.length : Int) := by omega
          obtain ⟨f, hfi⟩ : ∃ f, P.funs[i]? = some f := ⟨P.funs[i], List.getElem?_eq_getElem hil⟩
          obtain ⟨fb, off, io, ic, eco, c0, hin⟩ := HH.out.1 i f hfi
          subst eco
          have hfw := HF.out.trans hfr
          have c0 := hfw.cell c0.2 id
          have hwi : IntKind.i64.wrap ((i : Int) + 1) = (i : Int) + 1 := IntWalk.i64_in _ (by omega)
          have r0 := (hfr.row HG.out.1 id).cell (o := i) (v := .int .i64 (kinds.getD i 0)) (by simp [ints, HG.out.2, hil])
          have hRC := Lib.hid fun w2 (c : Nat) (f1 : Fr Non w1 w2) h => right_c (base := base) (P := P) (kinds := kinds) (f := f) (kind := kinds.getD i 0) (w := w2) (c := c) ⟨⟨some ⟨fb, off, none⟩, fc, co, cc, g, P.funs.length, io, ic, h, ⟨_, f1.row HG.out.1 id, fun j n hn => by simp [ints, hn]⟩, hin.fr (HF.out.trans f1) (high_non _)⟩⟩ (HH.out.2.2.1 f (List.mem_of_getElem? hfi))
          have HX := Lib.hid (And.intro hall (And.intro hfr hfi))
          clear hall hfr hin hfi hfw
          obtain ⟨kd, hkd⟩ : ∃ kd, kd = kinds.getD i 0 := ⟨_, rfl⟩
          rw [← hkd] at r0 hRC
          have HKD := Lib.hid hkd
          clear hkd
          go_wp2_with fail
          go_still_tail 8, (by kernel_rfl)
          change wpList _ _ _ _ _ wx.drew
          have HX2 : Hid (Fr Non w1 wx.drew) := Lib.hid HX.out.2.1.drew
          have r0' : wx.drew.cell? ⟨g, i, none⟩ = some (.int .i64 kd) := r0
          have x0 : wx.drew.cell? _ = _ := e0
          have x1 : wx.drew.cell? _ = _ := e1
          have hws : wx.drew.heap.size = wx.heap.size := rfl
          generalize wx.drew = w2 at *
          clear r0 e0 e1
          go_wp2_with fail
          refine (hRC.out _ _ (by exact HX2.out.alloc _) (by rw [HG.out.2, ← hws]; exact Row.new' rfl)).mono ?_
          rintro e3 w3 ⟨rfl, hf3⟩
          have hf13 : Fr Non w1 w3 := Fr.trans (by exact HX2.out.alloc _) hf3
          clear hf3
          cases hob : rightS kinds P.cos.length kd f with
          | true =>
            go_wp2_with fail
            refine ⟨⟨i + 1, by omega, rfl, ?_, hf13⟩, by simp [intOf]; omega⟩
            intro t ht z hz
            rcases Nat.lt_succ_iff_lt_or_eq.1 ht with h | rfl
            · exact HX.out.1 t h z hz
            · rw [HX.out.2.2] at hz
              cases hz
              rw [← HKD.out]
              exact hob
          | false =>
            go_wp2_with fail
            go_ret
            refine ⟨?_, HF.out.trans hf13⟩
            rw [HR2.out]
            have : rightsS kinds P.cos.length 0 P.funs = false := by
              rw [Bool.eq_false_iff]
              intro h
              have := (rights_all kinds P.cos.length P.funs 0).1 h i f HX.out.2.2
              rw [Nat.zero_add, ← HKD.out, hob] at this
              cases this
            rw [this]
            rfl
        · have hii : i = P.funs.length := by omega
          subst hii
          have hall2 : rightsS kinds P.cos.length 0 P.funs = true := by
            rw [rights_all]
            intro t f hf
            rw [Nat.zero_add]
            exact hall t (List.getElem?_eq_some_iff.1 hf).1 f hf
          have hnlt2 : ¬ ((P.funs.length : Int) < (P.funs.length : Int)) := by omega
          have HF3 := Lib.hid (HF.out.trans hfr)
          clear hall hfr hi hi0
          go_wp2_with fail
          go_ret
          exact ⟨by rw [HR2.out, hall2]; rfl, HF3.out⟩
end

end Go.Proofs.Ytlbomnbpahmphaa

/- The plain law: what the checker takes stands well. Condition: none beyond. -/
namespace Go.Proofs.Ytlbomnbpahmphaa

theorem shape_op {op : Int} (h : (shapeS op).ok = true) : 0 ≤ op ∧ op ≤ 29 := by
  by_cases h0 : 0 ≤ op ∧ op ≤ 29
  · exact h0
  · unfold shapeS at h
    rw [if_neg (by omega), if_neg (by omega), if_neg (by omega), if_neg (by omega), if_neg (by omega), if_neg (by omega), if_neg (by omega), if_neg (by omega), if_neg (by omega), if_neg (by omega), if_neg (by omega), if_neg (by omega), if_neg (by omega), if_neg (by omega), if_neg (by omega), if_neg (by omega), if_neg (by omega), if_neg (by omega), if_neg (by omega)] at h
    cases h

theorem op_cases {op : Int} (h0 : 0 ≤ op) (h1 : op ≤ 29) : ∃ k : Fin 30, op = (k.val : Int) := ⟨⟨op.toNat, by omega⟩, by simp; omega⟩

theorem field_reg {kinds : List Int} {nc : Nat} {f n : Int} (hf : f = 1 ∨ f = 2) (h : fieldS kinds nc f n = true) : Reg n := by
  unfold fieldS at h
  rw [if_pos hf] at h
  exact withinS_iff.1 h

theorem inOk_of {P : Pr} {kinds : List Int} {n : Nat} {kind : Int} {x : In} (hk : kinds.length = P.funs.length) (h : oneS kinds P.cos.length n kind x = true) : InOk P n x ∧ (x.op = 29 → kind ≠ 1) := by
  obtain ⟨_, _, hto⟩ := one_ok h
  unfold oneS at h
  split at h
  · cases h
  · rename_i h1
    split at h
    · cases h
    · rename_i h2
      simp only [Bool.or_eq_true, Bool.not_eq_true', not_or, Bool.not_eq_false, Bool.and_eq_true, decide_eq_true_eq, bne_iff_ne, beq_iff_eq, ne_eq, not_and, Classical.not_not] at h1 h2
      obtain ⟨⟨⟨⟨hok, ha⟩, hb⟩, hc⟩, hal⟩ := h1
      obtain ⟨l1, l2⟩ := h2
      obtain ⟨o0, o1⟩ := shape_op hok
      have sa : x.op ∈ [0, 1, 2, 3, 4, 5, 6, 7, 8, 9, 10, 11, 12, 14, 15, 16, 17, 18, 19, 20, 21, 22, 23, 24, 25, (26 : Int)] → (shapeS x.op).a = 1 ∨ (shapeS x.op).a = 2 := by
        intro hm
        simp only [List.mem_cons, List.not_mem_nil, or_false] at hm
        rcases hm with e | e | e | e | e | e | e | e | e | e | e | e | e | e | e | e | e | e | e | e | e | e | e | e | e | e <;> rw [e] <;> decide
      have sb : x.op ∈ [2, 3, 4, 5, 6, 8, 9, 10, 11, 12, 21, (24 : Int)] → (shapeS x.op).b = 1 ∨ (shapeS x.op).b = 2 := by
        intro hm
        simp only [List.mem_cons, List.not_mem_nil, or_false] at hm
        rcases hm with e | e | e | e | e | e | e | e | e | e | e | e <;> rw [e] <;> decide
      have sc : x.op ∈ [8, 9, 10, 11, (12 : Int)] → (shapeS x.op).c = 1 ∨ (shapeS x.op).c = 2 := by
        intro hm
        simp only [List.mem_cons, List.not_mem_nil, or_false] at hm
        rcases hm with e | e | e | e | e <;> rw [e] <;> decide
      have sl : x.op ∈ [8, 9, 10, 13, 14, 15, 23, (24 : Int)] → (shapeS x.op).l = 1 ∨ (shapeS x.op).l = -1 := by
        intro hm
        simp only [List.mem_cons, List.not_mem_nil, or_false] at hm
        rcases hm with e | e | e | e | e | e | e | e <;> rw [e] <;> decide
      refine ⟨⟨o0, o1, fun m => field_reg (sa m) ha, fun m => field_reg (sb m) hb, fun m => field_reg (sc m) hc, fun m => ?_, hto, fun e => ?_, fun e => ?_⟩, fun e => ?_⟩
      · rcases sl m with e | e
        · have := l1 (by rw [e]; decide); rw [e] at this; omega
        · have := l2 (by rw [e]; decide); omega
      · rw [e] at hb
        change fieldS kinds P.cos.length 7 x.b = true at hb
        exact withinS_iff.1 (show withinS x.b P.cos.length = true from hb)
      · rw [e] at hb
        have hb : (withinS x.b kinds.length && kinds.getD x.b.toNat 0 == 0) = true := hb
        rw [Bool.and_eq_true] at hb
        have := withinS_iff.1 hb.1
        rw [hk] at this
        exact this
      · rw [e] at hal
        have hal : (kind != 1) = true := hal
        simpa using hal

theorem mark_kept (a k : Int) (l : List Int) (i : Nat) (h : l.getD i 0 = k) (hi : i < l.length) : (markS l a k).getD i 0 = k := by
  unfold markS
  split
  · rw [List.getD_eq_getElem?_getD, List.getElem?_set]
    split
    · rw [if_pos (by omega)]; rfl
    · rw [← h, List.getD_eq_getElem?_getD]
  · exact h
theorem marks_kept (g : Cr → Int) (k : Int) (i : Nat) : ∀ (cs : List Cr) (l : List Int), l.getD i 0 = k → i < l.length → (cs.foldl (fun l c => markS l (g c) k) l).getD i 0 = k
  | [], l, h, _ => h
  | c :: cs, l, h, hi => marks_kept g k i cs _ (mark_kept _ _ _ _ h hi) (by rw [mark_len]; exact hi)
theorem marks_set (g : Cr → Int) (k : Int) (x : Cr) : ∀ (cs : List Cr) (l : List Int), x ∈ cs → 0 ≤ g x → g x < l.length → (cs.foldl (fun l c => markS l (g c) k) l).getD (g x).toNat 0 = k
  | c :: cs, l, hx, h0, h1 => by
    rw [List.foldl_cons]
    rcases List.mem_cons.1 hx with rfl | hx
    · refine marks_kept g k _ cs _ ?_ (by rw [mark_len]; omega)
      unfold markS
      rw [if_pos (withinS_iff.2 ⟨h0, h1⟩), List.getD_eq_getElem?_getD, List.getElem?_set_self (by omega)]
      rfl
    · exact marks_set g k x cs _ hx h0 (by rw [mark_len]; exact h1)

theorem valid_good {P : Pr} (h : validS P = true) (hL : ∀ f ∈ P.funs, ∀ x ∈ f, x.l.length ≤ 17592186043904) : PrGood P (kindsS P) := by
  unfold validS at h
  split at h
  · cases h
  · rename_i hn
    rw [Bool.and_eq_true, List.all_eq_true, rights_all] at h
    obtain ⟨hc, hr⟩ := h
    have hk := kinds_len P
    have hcr : ∀ x ∈ P.cos, (0 ≤ x.resume ∧ x.resume < P.funs.length) ∧ (0 ≤ x.cancel ∧ x.cancel < P.funs.length) := by
      intro x hx
      have := hc x hx
      unfold coroutineS at this
      split at this
      · cases this
      · rename_i h1
        simp only [Bool.or_eq_true, Bool.not_eq_true', not_or, Bool.not_eq_false] at h1
        rw [← hk]
        exact ⟨withinS_iff.1 h1.1.1, withinS_iff.1 h1.1.2⟩
    refine ⟨⟨fun x hx => (hcr x hx).1, fun x hx => (hcr x hx).2⟩, fun k f hf => ?_, fun x hx => ?_⟩
    · have h1 := hr k f hf
      rw [Nat.zero_add] at h1
      unfold rightS at h1
      split at h1
      · cases h1
      · rename_i h2
        simp only [not_or, Nat.not_lt, Bool.not_eq_true] at h2
        split at h1
        · rename_i h3
          refine ⟨by omega, h2.2.1, fun j x hx => ?_⟩
          have hxm := List.mem_of_getElem? hx
          have ho := inOk_of hk (List.all_eq_true.1 h3 x hxm)
          refine ⟨ho.1, fun hop => ?_, ho.2⟩
          have := ((fn_ok (by omega) h2.2.1 h2.2.2 h3 (hL f (List.mem_of_getElem? hf))).ok j x hx).2.2.2.1
          refine this ?_
          unfold fallsS
          rw [if_neg (by simpa using hop)]
          have := List.all_eq_true.1 h3 x hxm
          unfold oneS at this
          split at this
          · cases this
          · rename_i h4
            simp only [Bool.or_eq_true, Bool.not_eq_true', not_or, Bool.not_eq_false] at h4
            exact h4.1.1.1.1
        · cases h1
    · have := (hcr x hx).1
      exact marks_set Cr.resume 1 x P.cos _ hx this.1 (by rw [marks_len, List.length_replicate]; exact this.2)

end Go.Proofs.Ytlbomnbpahmphaa
