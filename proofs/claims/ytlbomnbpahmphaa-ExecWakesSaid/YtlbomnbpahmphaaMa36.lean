/- Walks: the checker's 'ways'. Conditions: the checker's record lies there; each instruction is right by itself. -/
import Derived.Deep.LoopGhost
import Derived.Test.YtlbomnbpahmphaaMa34
import Derived.Test.YtlbomnbpahmphaaMa32
import Derived.Test.YtlbomnbpahmphaaMa35
import Derived.Test.YtlbomnbpahmphaaShelf
namespace Go.Proofs.Ytlbomnbpahmphaa
open Go.RowKit

def mapU (W : List (Int × Int)) : List (Int × Value) := W.map fun x => (x.1, .int .u32 x.2)
theorem mfind_U (W : List (Int × Int)) (k : Int) : mfind (mapU W) k = (evOf W k).map (fun n => .int .u32 n) := by
  induction W with
  | nil => rfl
  | cons x l ih =>
    rw [evOf_cons]
    simp only [mapU, List.map_cons, mfind] at *
    cases (x.1 == k) <;> simp [ih]
theorem mset_U (W : List (Int × Int)) (k v : Int) : mset (mapU W) k (.int .u32 v) = mapU (setS W k v) := by
  induction W with
  | nil => rfl
  | cons x l ih =>
    simp only [mapU, List.map_cons, mset, setS] at *
    cases (x.1 == k) <;> simp [ih]

theorem Own.pop1 {w : World} {T : TypeId} {g n cap : Nat} {cs : List Value} {v : Value} (h : Own w (.slice (some ⟨g, 0, none⟩) (n + 1) cap) T 1 (n + 1) (cs ++ [v])) (hl : cs.length = n) : Own w (.slice (some ⟨g, 0, none⟩) n cap) T 1 n cs := by
  obtain ⟨h1, h2⟩ := h
  refine ⟨by omega, ?_⟩
  rcases h2 with ⟨e, _⟩ | ⟨g', cap', cur, e, k1, k2, k3, k4, k5, k6⟩
  · cases e
  · cases e
    refine Or.inr ⟨g, cap, cur, rfl, k1, k2, by omega, k4, k5, ?_⟩
    have h4 : (cur.toList.take ((n + 1) * 1)).take n = (cs ++ [v]).take n := by rw [k6]
    rw [List.take_take, Nat.min_eq_left (by omega)] at h4
    have h5 : (cs ++ [v]).take n = cs := by rw [← hl]; simp
    rw [h5] at h4
    rw [Nat.mul_one]
    exact h4
theorem meetS_snoc (now : Int) (a : Int) : ∀ (l : List Int) (W : List (Int × Int)) (st : List Int), meetS W st now (l ++ [a]) = meetS (meetS W st now l).1 (meetS W st now l).2 now [a]
  | [], W, st => rfl
  | b :: l, W, st => by
    simp only [List.cons_append]
    conv => lhs; unfold meetS
    conv => rhs; arg 1; arg 1; unfold meetS
    conv => rhs; arg 2; arg 1; unfold meetS
    cases evOf W b with
    | some was =>
      simp only
      split
      · exact meetS_snoc now a l W st
      · exact meetS_snoc now a l _ _
    | none => exact meetS_snoc now a l _ _
theorem MapAt.ne_own {w : World} {b : Nat} {l : List (Int × Value)} (h : MapAt w b l) {v : Value} {T : TypeId} {k n : Nat} {cs : List Value} (o : Own w v T k n cs) : v.ownBlock ≠ some b := fun hv => by
  obtain ⟨arr, ha⟩ := o.row hv
  obtain ⟨es, clock, h1, _⟩ := h
  unfold Row at ha
  rw [ha] at h1
  cases h1
theorem reads_len (x : In) : (readsS x).length ≤ 3 := by
  unfold readsS
  (repeat' split) <;> simp

/-- Each instruction of the function is right by itself. -/
structure FnOk (f : List In) : Prop where
  pos : 0 < f.length
  big : f.length ≤ 65536
  ok : ∀ (j : Nat) (x : In), f[j]? = some x → (∀ r ∈ readsS x, 0 ≤ r ∧ r < 16) ∧ ((writesS x).2 = true → 0 ≤ (writesS x).1 ∧ (writesS x).1 < 16) ∧ (∀ a ∈ x.l, 0 ≤ a ∧ a < (f.length : Int)) ∧ (fallsS x.op = true → j + 1 < f.length) ∧ x.l.length ≤ 17592186043904

theorem clone_c (w : World) (l : List Int) (la : Option Addr) (lc : Nat) (hl : ArgsAt w la l) (hz : la = none → l = []) (hn : l.length ≤ 17592186043904) :
    Calls Try.prog 89 #[.slice la l.length lc] w fun e w' => ∃ v, e = .returned v ∧ Own w' v 3 1 l.length (ints l) ∧ (∀ g, v.ownBlock = some g → w.heap.size ≤ g) ∧ Fr Non w w' := by
  have hown : ∀ {w' : World} {v : Value} {n : Nat} {cs : List Value}, w'.ownsRow w.heap.size 3 1 v n cs → Own w' v 3 1 n cs ∧ (∀ g, v.ownBlock = some g → w.heap.size ≤ g) := by
    intro w' v n cs h
    refine ⟨⟨h.1, ?_⟩, ?_⟩
    · rcases h.2 with h2 | ⟨g, cap, cur, h1, h2, h3⟩
      · exact Or.inl h2
      · exact Or.inr ⟨g, cap, cur, h1, Nat.zero_le _, h3⟩
    · intro g hg
      rcases h.2 with h2 | ⟨g', cap, cur, h1, h2, h3⟩
      · rw [h2.1] at hg; cases hg
      · rw [h1] at hg; simp [Value.ownBlock] at hg; omega
  cases la with
  | none =>
    obtain rfl := hz rfl
    refine (Try.slices_Clone_int_nil 0 lc w).mono ?_
    rintro e w' ⟨rfl, rfl⟩
    exact ⟨_, rfl, Own.nil _ _ _, fun g hg => (by cases hg), Fr.refl _ _⟩
  | some a =>
    cases l with
    | nil =>
      refine (Try.slices_Clone_int_zero a lc w).mono ?_
      rintro e w' ⟨v, rfl, h1, _, h2⟩
      obtain ⟨h3, h4⟩ := hown h1
      exact ⟨v, rfl, h3, h4, Fr.below h2⟩
    | cons x l =>
      obtain ⟨b, o, e, _⟩ := hl 0 x rfl
      cases e
      refine (Try.slices_Clone_int b o (x :: l).length lc (x :: l) w (Nat.le_refl _) (by simp only [List.length_cons] at hn ⊢; omega) (fun j hj => ?_)).mono ?_
      · obtain ⟨b', o', e, hc⟩ := hl j _ (List.getElem?_eq_getElem hj)
        cases e
        rw [hc, List.getD_eq_getElem?_getD, List.getElem?_eq_getElem hj]
        rfl
      · rintro e w' ⟨v, rfl, h1, _, h2⟩
        obtain ⟨h3, h4⟩ := hown h1
        rw [List.take_length] at h3
        exact ⟨v, rfl, h3, h4, Fr.below h2⟩

section
variable {base : Nat} {P : Pr} {kinds : List Int} {f : List In} {kind : Int} {w : World} {c : Nat}

set_option maxRecDepth 100000 in
set_option maxHeartbeats 4000000 in
theorem ways_c (h : Chk base P kinds f kind w c) (hf : FnOk f) : Calls Try.prog 69 #[.pointer (some ⟨c, 0, none⟩)] w fun e w' => e = .returned (.bool (waysS f kind)) ∧ Fr Non w w' := by
  have hmm := @run_makeMap Try.prog
  obtain ⟨q0, hq0, hqa, hqb, hqc⟩ := info_parts Try.infoInt
  obtain ⟨R, hR⟩ : ∃ R, R = waysS f kind := ⟨_, rfl⟩
  rw [← hR]
  unfold waysS at hR
  have HH := Lib.hid (And.intro h (And.intro hf hR))
  obtain ⟨fo, fc, co, cc, kb, kc, io, ic, h1, hkk, h3⟩ := h
  clear hkk
  have c3 := h1.cell (o := 3) rfl
  have c4 := h1.cell (o := 4) rfl
  have hcl := h1.lt
  have HI := Lib.hid h3
  clear h1 h3 hf hR
  have hkz : (kind = 0 ∧ (kind == 0) = true) ∨ (kind ≠ 0 ∧ (kind == 0) = false) := by by_cases h : kind = 0 <;> simp [h]
  have hm0 : MapAt (w.alloc (.map #[] 0)) w.heap.size [] := ⟨#[], 0, heap_alloc_new w _, rfl, fun x hx => by simp at hx⟩
  obtain ⟨u1, hu1, hm1, hfu1⟩ := run_update_map (P := Try.prog) hm0 Try.underlying161 Try.underlying3 0 (.int .u32 0)
  have hfw1 : Fr Non w u1 := ((Fr.refl Non w).alloc _).then hfu1 (fun x hx e => by subst e; omega)
  have hm1' : MapAt u1 w.heap.size (mapU [(0, 0)]) := hm1
  obtain ⟨u2, hu2, hm2, hfu2⟩ := run_update_map (P := Try.prog) hm1' Try.underlying161 Try.underlying3 0 (.int .u32 1)
  have hfw2 : Fr Non w u2 := hfw1.then hfu2 (fun x hx e => by subst e; omega)
  have hm2' : MapAt u2 w.heap.size (mapU [(0, 1)]) := hm2
  have HM := Lib.hid (And.intro hm1' (And.intro hfw1 (And.intro hm2' hfw2)))
  have d4 := hfw1.cell c4 id
  clear hm0 hm1 hm2 hfu1 hfu2 hm1' hfw1 hm2' hfw2
  rcases hkz with ⟨rfl, hkb⟩ | ⟨hk0, hkb⟩
  · go_enter Try.func69, Try.ntmps69
    go_wp2_with fail
    have rst : Row (u2.alloc (.cells #[.int .i64 0] 3)) u2.heap.size 3 [.int .i64 0] := Row.new' rfl
    have hfS : Fr Non u2 (u2.alloc (.cells #[.int .i64 0] 3)) := (Fr.refl _ _).alloc _
    have hmS := (HM.out.2.2.1).fr hfS id
    have hfwS := (HM.out.2.2.2).trans hfS
    have hoS : Own (u2.alloc (.cells #[.int .i64 0] 3)) (.slice (some ⟨u2.heap.size, 0, none⟩) 1 1) 3 1 1 [.int .i64 0] := Own.mk rst rfl (Nat.le_refl _) (by unfold maxLen; omega)
    have hsS : w.heap.size ≤ u2.heap.size := (HM.out.2.2.2).size
    generalize hgs : u2.heap.size = gs at *
    generalize u2.alloc (.cells #[.int .i64 0] 3) = V at *
    clear rst hfS hu1 d4
    go_loopg [4] (waysN f.length) (fun k v4 wr => ∃ W st, MapAt wr w.heap.size (mapU W) ∧ Own wr v4 3 1 st.length (ints st.reverse) ∧ MarksOk f.length W st ∧ (potS f.length W st ≤ k ∧ k ≤ waysN f.length) ∧ R = waysF f k W st ∧ Fr Non w wr ∧ (∀ g, v4.ownBlock = some g → w.heap.size ≤ g))
    case atStart =>
      refine ⟨[(0, 1)], [0], hmS, hoS, ⟨?_, ?_⟩, ⟨?_, Nat.le_refl _⟩, ?_, hfwS, fun g e => by simp [Value.ownBlock] at e; omega⟩
      · intro k v e
        rw [evOf_cons] at e
        split at e
        · cases e; exact ⟨by omega, by omega⟩
        · cases e
      · intro a ha
        simp at ha
        subst ha
        have := HH.out.2.1.pos
        omega
      · unfold potS waysN
        have := sumS_bound [(0, 1)] f.length
        simp only [List.length_cons, List.length_nil]
        omega
      · have := HH.out.2.2
        first | simpa using this | simpa [hk0] using this
    case round =>
      obtain ⟨W, st, hmp, hown, hmk, hpot, hRk, hfr, hgo⟩ := hrel
      cases st with
      | nil =>
        obtain ⟨ao, cap, rfl, _⟩ := hown.form
        have HX := Lib.hid (And.intro hRk hfr)
        clear hmp hown hmk hpot hRk hfr hgo hmS hoS hfwS
        go_wp2_with fail
        go_ret
        refine ⟨?_, HX.out.2⟩
        rw [HX.out.1]
        cases gk <;> rfl
      | cons at_ st =>
        obtain ⟨hat0, hat1⟩ := hmk.st at_ List.mem_cons_self
        obtain ⟨j, rfl⟩ := Int.eq_ofNat_of_zero_le hat0
        have hj : j < f.length := by omega
        obtain ⟨x, hx⟩ : ∃ x, f[j]? = some x := ⟨f[j], List.getElem?_eq_getElem hj⟩
        have hfx : f.getD ((j : Int)).toNat In.zero = x := by rw [Int.toNat_natCast, List.getD_eq_getElem?_getD, hx]; rfl
        obtain ⟨ib, iof, la, lc, e0, i0, i1, i2, i3, i4, i5⟩ := HI.out j x hx
        subst e0
        obtain ⟨hok1, hok2, hok3, hok4, hok5⟩ := HH.out.2.1.ok j x hx
        have hbig := HH.out.2.1.big
        have hstl : st.length + 1 ≤ 10000000 := by
          have h1 := hpot.1
          have h2 := hpot.2
          unfold potS at h1
          unfold waysN at h2
          simp only [List.length_cons] at h1
          omega
        obtain ⟨ao, cap, rfl, hcap, hmax, hpos, hodd⟩ := hown.form
        obtain ⟨g, rfl⟩ := hpos (by simp)
        have hcg : wr.cell? ⟨g, st.length, none⟩ = some (.int .i64 j) := hown.cell rfl (by simp [ints])
        simp only [List.length_cons] at hcap hown
        have hsl0 : (0 : Int) < (st.length : Int) + 1 := by omega
        have hsl1 : (0 : Int) ≤ (st.length : Int) := by omega
        have hsl2 : (st.length : Int) < (st.length : Int) + 1 := by omega
        have hsl3 : (st.length : Int) ≤ (cap : Int) := by omega
        have hsl4 : st.length ≤ cap := by omega
        have hsl5 : ¬ cap = 0 := by omega
        have hsl6 : ¬ 0 = cap := by omega
        have hw1 : IntKind.i64.wrap (st.length : Int) = (st.length : Int) := IntWalk.i64_in _ (by omega)
        have hj0 : (0 : Int) ≤ (j : Int) := by omega
        have hj1 : (j : Int) < (f.length : Int) := by omega
        have y0 := hfr.cell i0.2 id
        have y1 := hfr.cell i1.2 id
        have y2 := hfr.cell i2.2 id
        have y3 := hfr.cell i3.2 id
        have y4 := hfr.cell i4.2 id
        have d3 := hfr.cell c3 id
        have hla : ArgsAt w la x.l := fun i n hn => by
          obtain ⟨b, o, e, hc⟩ := i5 i n hn
          exact ⟨b, o, e, hc.2⟩
        have hibl := World.block_lt_of_cell? wr _ y0
        have hcr : c < wr.heap.size := World.block_lt_of_cell? wr _ d3
        have hmbl : w.heap.size < wr.heap.size := hmp.lt
        have hlk : ∀ g' : World, (Instr.lookup 161 (.map (some w.heap.size)) (.int .i64 j) false).run Try.prog (Mix2.upon wr [c, ib, w.heap.size] g') = .ok (.int .u32 ((evOf W (j : Int)).getD 0)) (Mix2.upon wr [c, ib, w.heap.size] g') := by
          intro g'
          have hmp' : MapAt (Mix2.upon wr [c, ib, w.heap.size] g') w.heap.size (mapU W) := by
            obtain ⟨es, clock, q1, q2, q3⟩ := hmp
            exact ⟨es, clock, (Mix2.upon_agree wr [c, ib, w.heap.size] g' _ (by simp)).trans q1, q2, q3⟩
          have := run_lookup_one (P := Try.prog) hmp' Try.underlying161 Try.underlying3 (.int .u32 0) (by kernel_rfl) (j : Int)
          rw [mfind_U] at this
          rw [this]
          cases evOf W (j : Int) <;> rfl
        obtain ⟨now, hnow⟩ : ∃ now, now = (evOf W (j : Int)).getD 0 := ⟨_, rfl⟩
        rw [← hnow] at hlk
        have hnow32 : In32 now := by
          rw [hnow]
          cases he : evOf W (j : Int) with
          | none => exact ⟨by simp, by simp⟩
          | some v => exact hmk.val _ _ he
        cases gk with
        | zero =>
          have h1 := hpot.1
          unfold potS at h1
          simp only [List.length_cons] at h1
          omega
        | succ k =>
          have hRk2 : R = if (readsS x).any (fun r => andU now (shlU r) == 0) then false else waysF f k (meetS W st (nowS x now) (nextS x (j : Int))).1 (meetS W st (nowS x now) (nextS x (j : Int))).2 := by
            rw [hRk, waysF_cons, hfx, ← hnow]
          have HX := Lib.hid (And.intro hmp (And.intro hown (And.intro hmk (And.intro hpot (And.intro hRk2 (And.intro hfr (And.intro hgo (And.intro hla (And.intro hok1 (And.intro hok2 (And.intro hok3 (And.intro hok4 (And.intro hok5 hnow32)))))))))))))
          clear hmp hown hmk hpot hRk hRk2 hfr hgo hla hok1 hok2 hok3 hok4 hok5 hmS hoS hfwS hx hfx i0 i1 i2 i3 i4 i5 hnow hnow32
          obtain ⟨xop, xa, xb, xc, xl⟩ := x
          simp only at y0 y1 y2 y3 y4
          have HLK := Lib.hid hlk
          clear hlk hpos hodd hmm HM c4 hkb hat0 hat1 hj hbig c3
          try clear hu2
          go_wp2_with fail
          have hlk := HLK.out
          have cW := @Mix2.cls_drew wr [c, ib, w.heap.size]
          refine Mix2.wp_region_mix [3, 6, 9] [(0, 0), (0, 1), (0, 2), (1, 3), (0, 4), (0, 5), (1, 6), (0, 7), (0, 8), (1, 9), (2, 10), (2, 11), (0, 12)] (fun U => ∃ g', U = Mix2.upon wr [c, ib, w.heap.size] g') (by kernel_rfl) (by kernel_rfl) cW ?_
          clear cW
          repeat (first | ((first | refine Mix2.S_pure rfl rfl ?_ | refine Mix2.S_load rfl rfl ?_); intro K hK; simp only [nA, nB, nC]; go_big_quiet_op; go_big_quiet_on) | refine Mix2.S_skip0 rfl rfl ?_ | refine Mix2.S_skip1 rfl rfl ?_)
          clear hlk
          refine Mix2.S_eff (o := _) rfl rfl ?_
          intro K hK
          simp only [nA, nB, nC]
          go_simp
          refine hK _ _ ⟨Mix2.cls_fr (D := Non) (by exact ((Fr.refl Non wr).alloc _).drew.drewl) (by simp [Non]; omega), ?_⟩
          clear hK K
          refine Mix2.S_eff (o := _) rfl rfl ?_
          intro K hK
          simp only [nA, nB, nC]
          go_simp
          refine hK _ _ ⟨Mix2.cls_fr (D := fun x => x = wr.heap.size) (by exact ((Fr.realloc _ _ _).drew).drewl) (by simp; omega), ?_⟩
          clear hK K
          repeat (first | ((first | refine Mix2.S_pure rfl rfl ?_ | refine Mix2.S_load rfl rfl ?_); intro K hK; simp only [nA, nB, nC]; go_big_quiet_op; go_big_quiet_on) | refine Mix2.S_skip0 rfl rfl ?_ | refine Mix2.S_skip1 rfl rfl ?_)
          refine Mix2.S_done ?_
          have rxZ : Row ((wr.alloc (.cells #[.int .i64 xop, .int .i64 xa, .int .i64 xb, .int .i64 xc, .slice la xl.length lc] 112)).drew) wr.heap.size 112 [.int .i64 xop, .int .i64 xa, .int .i64 xb, .int .i64 xc, .slice la xl.length lc] := Row.drew (Row.new' rfl)
          have hfZ : Fr Non wr ((wr.alloc (.cells #[.int .i64 xop, .int .i64 xa, .int .i64 xb, .int .i64 xc, .slice la xl.length lc] 112)).drew) := ((Fr.refl _ _).alloc _).drew
          generalize (wr.alloc (.cells #[.int .i64 xop, .int .i64 xa, .int .i64 xb, .int .i64 xc, .slice la xl.length lc] 112)).drew = Z at *
          obtain ⟨z0, z1, z2, z3, z4, zz⟩ := row5 rxZ
          have HZ := Lib.hid (And.intro hfZ rxZ)
          clear hfZ rxZ y0 y1 y2 y3 y4 d3 hcg
          go_wp2_with fail
          refine (reads_c Z ⟨xop, xa, xb, xc, xl⟩ la lc).mono ?_
          rintro e1 w1 ⟨v, rfl, ho1, hv1, hf1⟩
          obtain ⟨rao, rcap, rfl, _, _, hrp, hodd⟩ := ho1.form
          clear hodd
          have H1 := Lib.hid (And.intro ho1 (And.intro hv1 (And.intro (HZ.out.1.trans hf1) (And.intro (hf1.row HZ.out.2 id) hrp))))
          clear ho1 hv1 hf1 z0 z1 z2 z3 z4 zz hrp
          go_wp2_with fail
          go_loopg [53] (readsS ⟨xop, xa, xb, xc, xl⟩).length (fun q v53 wq => wq = w1 ∧ ∃ i : Nat, i ≤ (readsS ⟨xop, xa, xb, xc, xl⟩).length ∧ q = (readsS ⟨xop, xa, xb, xc, xl⟩).length - i ∧ v53 = .int .i64 i ∧ ∀ t, t < i → ∀ n, (readsS ⟨xop, xa, xb, xc, xl⟩)[t]? = some n → andU now (shlU n) ≠ 0)
          case atStart => exact ⟨rfl, 0, Nat.zero_le _, rfl, rfl, fun t ht => by omega⟩
          case round =>
            obtain ⟨rfl, i, hi, rfl, rfl, hall⟩ := hrel
            by_cases hil : i < (readsS ⟨xop, xa, xb, xc, xl⟩).length
            · have hget := List.getElem?_eq_getElem hil
              have hi0 : (0 : Int) ≤ (i : Int) := by omega
              have hi1 : (i : Int) < ((readsS ⟨xop, xa, xb, xc, xl⟩).length : Int) := by omega
              obtain ⟨rg, rfl⟩ := H1.out.2.2.2.2 (by omega)
              have hcell := H1.out.1.cell rfl (show (ints (readsS ⟨xop, xa, xb, xc, xl⟩))[i]? = some (.int .i64 (readsS ⟨xop, xa, xb, xc, xl⟩)[i]) by simp [ints, hget])
              have hrr := HX.out.2.2.2.2.2.2.2.2.1 _ (List.getElem_mem hil)
              generalize hrn : (readsS ⟨xop, xa, xb, xc, xl⟩)[i] = rn at *
              obtain ⟨rm, rfl⟩ := Int.eq_ofNat_of_zero_le hrr.1
              have hrm0 : (0 : Int) ≤ (rm : Int) := by omega
              have hsh : shlU (rm : Int) = 2 ^ rm % 4294967296 := by unfold shlU; rw [Int.toNat_natCast]
              have hbb : andU now (shlU (rm : Int)) = bits .and .u32 now (2 ^ rm % 4294967296) := by rw [hsh]; rfl
              cases hb : (bits .and .u32 now (2 ^ rm % 4294967296) == 0) with
              | true =>
                have HB := Lib.hid (And.intro hbb (And.intro hget hb))
                clear hbb hget hrn hsh hall
                go_wp2_with fail
                go_ret
                refine ⟨?_, HX.out.2.2.2.2.2.1.trans H1.out.2.2.1⟩
                have hR3 := HX.out.2.2.2.2.1
                rw [if_pos (List.any_eq_true.2 ⟨(rm : Int), List.mem_of_getElem? HB.out.2.1, by rw [HB.out.1]; exact HB.out.2.2⟩)] at hR3
                rw [hR3]
                rfl
              | false =>
                have HB := Lib.hid (And.intro hbb (And.intro hget (And.intro hb hall)))
                clear hbb hget hrn hsh hall
                have hwi : IntKind.i64.wrap ((i : Int) + 1) = (i : Int) + 1 := IntWalk.i64_in _ (by have := reads_len ⟨xop, xa, xb, xc, xl⟩; omega)
                go_wp2_with fail
                go_roundg ((readsS ⟨xop, xa, xb, xc, xl⟩).length - (i + 1))
                case measure => omega
                case rel =>
                  refine ⟨rfl, i + 1, by omega, rfl, by simp, ?_⟩
                  intro t ht n hn
                  rcases Nat.lt_succ_iff_lt_or_eq.1 ht with h | rfl
                  · exact HB.out.2.2.2 t h n hn
                  · rw [HB.out.2.1] at hn
                    cases hn
                    rw [HB.out.1]
                    intro e
                    have := HB.out.2.2.1
                    rw [e] at this
                    simp at this
            · have hii : i = (readsS ⟨xop, xa, xb, xc, xl⟩).length := by omega
              subst hii
              have hany : ((readsS ⟨xop, xa, xb, xc, xl⟩).any fun r => andU now (shlU r) == 0) = false := by
                rw [List.any_eq_false]
                intro n hn
                obtain ⟨t, ht, rfl⟩ := List.getElem_of_mem hn
                have := hall t ht _ (List.getElem?_eq_getElem ht)
                simpa using this
              have hR3 := HX.out.2.2.2.2.1
              rw [hany, if_neg (by simp)] at hR3
              have HR3 := Lib.hid hR3
              clear hR3 hany hall
              obtain ⟨z0, z1, z2, z3, z4, zz⟩ := row5 H1.out.2.2.2.1
              go_wp2_with fail
              refine (writes_c _ ⟨xop, xa, xb, xc, xl⟩ la lc).mono ?_
              rintro e1 w2 ⟨rfl, hf2⟩
              have hw2 := HX.out.2.2.2.2.2.2.2.2.2.1
              have H2 := Lib.hid (And.intro hf2 (hf2.row H1.out.2.2.2.1 id))
              clear z0 z1 z2 z3 z4 zz hf2
              obtain ⟨z0, z1, z2, z3, z4, zz⟩ := row5 H2.out.2
              have hnS : nowS ⟨xop, xa, xb, xc, xl⟩ now = if (writesS ⟨xop, xa, xb, xc, xl⟩).2 then orU now (shlU (writesS ⟨xop, xa, xb, xc, xl⟩).1) else now := rfl
              generalize writesS ⟨xop, xa, xb, xc, xl⟩ = ws at *
              obtain ⟨wi, wb⟩ := ws
              simp only at hw2 hnS
              cases wb with
              | true =>
                obtain ⟨wm, rfl⟩ := Int.eq_ofNat_of_zero_le (hw2 rfl).1
                have hwm := (hw2 rfl).2
                have hwm0 : (0 : Int) ≤ (wm : Int) := by omega
                have hsh : shlU (wm : Int) = 2 ^ wm % 4294967296 := by unfold shlU; rw [Int.toNat_natCast]
                rw [if_pos rfl, hsh] at hnS
                have hn32 : In32 (nowS ⟨xop, xa, xb, xc, xl⟩ now) := by rw [hnS]; exact orU_in _ _
                have hnS2 : nowS ⟨xop, xa, xb, xc, xl⟩ now = bits .or .u32 now (2 ^ wm % 4294967296) := hnS
                have HN := Lib.hid (And.intro hnS2 hn32)
                clear hnS hnS2 hn32 hsh hw2
                go_wp2_with fail
                rw [← HN.out.1]
                generalize hnn : nowS ⟨xop, xa, xb, xc, xl⟩ now = now' at *
                have HN2 := Lib.hid (And.intro hnn HN.out.2)
                have HR4 := Lib.hid HR3.out
                clear HN hnn hwm hwm0 HR3
                refine (falls_c _ ⟨xop, xa, xb, xc, xl⟩ la lc).mono ?_
                rintro e1 w3 ⟨rfl, hf3⟩
                have hO3 := (H1.out.2.2.1.trans H2.out.1).trans hf3
                have H3 := Lib.hid (And.intro hO3 (hf3.row H2.out.2 id))
                clear hf3 hO3 z0 z1 z2 z3 z4 zz
                have hok4 := HX.out.2.2.2.2.2.2.2.2.2.2.2.1
                have hnx : nextS ⟨xop, xa, xb, xc, xl⟩ (j : Int) = if fallsS xop then xl ++ [(j : Int) + 1] else xl := rfl
                have hR4 := HR4.out
                rw [hnx] at hR4
                clear hnx HR4
                cases hfl : fallsS xop with
                | true =>
                  rw [hfl] at hok4 hR4
                  rw [if_pos rfl] at hR4
                  have hj2 := hok4 rfl
                  have HR4 := Lib.hid hR4
                  clear hR4 hok4 hfl
                  have hwj : IntKind.i64.wrap ((j : Int) + 1) = (j : Int) + 1 := IntWalk.i64_in _ (by have := HH.out.2.1.big; omega)
                  have hla3 : ArgsAt w3 la xl := (HX.out.2.2.2.2.2.2.2.1.fr HX.out.2.2.2.2.2.1 (fun _ _ _ h => h)).fr H3.out.1 (fun _ _ _ h => h)
                  have hz3 : la = none → xl = [] := fun e => by
                    cases xl with
                    | nil => rfl
                    | cons y l =>
                      obtain ⟨b, o, e2, _⟩ := hla3 0 y rfl
                      rw [e] at e2
                      cases e2
                  have hC := Lib.hid (clone_c w3 xl la lc hla3 hz3 HX.out.2.2.2.2.2.2.2.2.2.2.2.2.1)
                  obtain ⟨z0, z1, z2, z3, z4, zz⟩ := row5 H3.out.2
                  clear hla3 hz3
                  go_wp2_with fail
                  refine hC.out.mono ?_
                  rintro e1 w4 ⟨cv, rfl, ho4, hn4, hf4⟩
                  obtain ⟨cao, ccap, rfl, hodd1, hodd2, hodd3, hodd4⟩ := ho4.form
                  clear hodd1 hodd2 hodd3 hodd4
                  obtain ⟨ng, ncap, w5, hrun, ho5, hf5, hg5, hlt5⟩ := run_app (P := Try.prog) (w := w4.alloc (.cells #[.int .i64 ((j : Int) + 1)] 3)) (ho4.fr ((Fr.refl Non w4).alloc _) (fun _ _ h => h)) 34 34 q0 _ 8 Try.underlying34 hq0 hqa hqb hqc rfl (by omega) w4.heap.size 0 1 1 [.int .i64 ((j : Int) + 1)] rfl (by exact (Row.new' rfl).news) (fun u hu => by simp at hu; subst hu; rfl) (by omega) (by have := HX.out.2.2.2.2.2.2.2.2.2.2.2.2.1; omega) (by have := HX.out.2.2.2.2.2.2.2.2.2.2.2.2.1; unfold maxLen; omega)
                  have hs3 : g < w3.heap.size := by
                    have h1 := HX.out.2.1.lt (g := g) rfl
                    have h2 := H3.out.1.size
                    omega
                  have hf35 : Fr Non w3 w5 := (hf4.alloc _).then hf5 (fun x hx e => by have := hn4 x e; omega)
                  have hng : w3.heap.size ≤ ng := by
                    rcases hg5 with h | h
                    · exact hn4 _ h
                    · have := hf4.size; simp at h; omega
                  have hOX := H3.out.1.trans hf35
                  have hNX : ∀ (i : Nat) (n : Int), (xl ++ [(j : Int) + 1])[i]? = some n → ∃ b o, (some ⟨ng, 0, none⟩ : Option Addr) = some ⟨b, o, none⟩ ∧ w5.cell? ⟨b, o + i, none⟩ = some (.int .i64 n) ∧ b ≠ w.heap.size ∧ b ≠ g := by
                    intro i n hn
                    refine ⟨ng, 0, rfl, ?_, ?_, by omega⟩
                    · rw [Nat.zero_add]
                      refine ho5.cell rfl ?_
                      have : ints xl ++ [Value.int .i64 ((j : Int) + 1)] = ints (xl ++ [(j : Int) + 1]) := by simp [ints]
                      rw [this]
                      unfold ints
                      rw [List.getElem?_map, hn]
                      rfl
                    · intro e
                      exact (HX.out.1.fr hOX id).ne_own ho5 (by rw [← e]; rfl)
                  have hnr : ∀ a ∈ xl ++ [(j : Int) + 1], 0 ≤ a ∧ a < (f.length : Int) := by
                    intro a ha
                    rcases List.mem_append.1 ha with ha | ha
                    · exact HX.out.2.2.2.2.2.2.2.2.2.2.1 a ha
                    · simp at ha
                      subst ha
                      omega
                  have hnl : (xl ++ [(j : Int) + 1]).length = xl.length + 1 := by simp
                  have HL := Lib.hid (And.intro hOX (And.intro hNX (And.intro hnr hnl)))
                  clear ho4 hn4 hf4 ho5 hf5 hg5 hf35 hNX hnr hOX
                  go_wp2_with (at_builtin; refine wpList_app rfl (.tmp 79) (.tmp 82) _ rfl rfl rfl _ rfl hrun ?_)
                  clear hrun z0 z1 z2 z3 z4 zz
                  generalize (xl ++ [(j : Int) + 1]) = nx at *
                  have hmpX := HX.out.1.fr HL.out.1 id
                  have hownX : Own w5 (.slice (some ⟨g, 0, none⟩) st.length cap) 3 1 st.length (ints st.reverse) := (Own.pop1 (cs := ints st.reverse) (v := .int .i64 j) (by have := HX.out.2.1; simpa [ints] using this) (by simp [ints])).fr HL.out.1 (fun _ _ h => h)
                  have hmkX : MarksOk f.length W st := ⟨HX.out.2.2.1.val, fun a ha => HX.out.2.2.1.st a (List.mem_cons_of_mem _ ha)⟩
                  have hpotX : potS f.length W st ≤ k := by
                    have := HX.out.2.2.2.1.1
                    unfold potS at this ⊢
                    simp only [List.length_cons] at this
                    omega
                  have hkX : k ≤ waysN f.length := by have := HX.out.2.2.2.1.2; omega
                  have hsX : g < w5.heap.size ∧ w.heap.size ≤ g := ⟨by have h1 := HX.out.2.1.lt (g := g) rfl; have h2 := HL.out.1.size; omega, HX.out.2.2.2.2.2.2.1 g rfl⟩
                  have HK := Lib.hid (And.intro hmkX (And.intro hpotX (And.intro hkX hsX)))
                  clear hmkX hpotX hkX hsX
                  go_loopg [4, 86] nx.length (fun q v4 v86 wq => ∃ i : Nat, i ≤ nx.length ∧ q = nx.length - i ∧ v86 = .int .i64 i ∧ MapAt wq w.heap.size (mapU (meetS W st now' (nx.take i)).1) ∧ Own wq v4 3 1 (meetS W st now' (nx.take i)).2.length (ints (meetS W st now' (nx.take i)).2.reverse) ∧ Fr (fun x => x = w.heap.size ∨ x = g) w5 wq ∧ (∀ q', v4.ownBlock = some q' → q' = g ∨ w5.heap.size ≤ q'))
                  case atStart => exact ⟨0, Nat.zero_le _, rfl, rfl, hmpX, hownX, Fr.refl _ _, fun q' e => by simp [Value.ownBlock] at e; exact Or.inl e.symm⟩
                  case round =>
                    obtain ⟨i, hi, rfl, rfl, hmq, hoq, hfq, hgq⟩ := hrel
                    by_cases hil : i < nx.length
                    · have hget := List.getElem?_eq_getElem hil
                      have hss : meetS W st now' (nx.take (i + 1)) = meetS (meetS W st now' (nx.take i)).1 (meetS W st now' (nx.take i)).2 now' [nx[i]] := by rw [List.take_succ_eq_append_getElem hil, meetS_snoc]
                      have hpi := meet_pot HN2.out.2 (nx.take i) W st (fun a ha => HL.out.2.2.1 a (List.mem_of_mem_take ha)) HK.out.1
                      have hra := HL.out.2.2.1 _ (List.getElem_mem hil)
                      obtain ⟨ab, ao', e, hc, hne1, hne2⟩ := HL.out.2.1 i _ hget
                      generalize meetS W st now' (nx.take i) = Ws at *
                      obtain ⟨W', st'⟩ := Ws
                      simp only at hmq hoq hss hpi
                      generalize nx[i] = a at *
                      have hcq := hfq.cell hc (by simp [hne1, hne2])
                      (first | subst e | cases e)
                      try simp only [Nat.zero_add] at hcq
                      have ha0 : (0 : Int) ≤ (i : Int) := by omega
                      have hll := HL.out.2.2.2
                      have hia : (i : Int) < (xl.length : Int) + 1 := by omega
                      have hst' : st'.length + 1 ≤ 10000000 := by
                        have h1 := hpi.1
                        have h2 := HK.out.2.1
                        have h3 := HK.out.2.2.1
                        have h4 := HH.out.2.1.big
                        unfold potS at h1
                        unfold potS at h2
                        unfold waysN at h3
                        omega
                      have hwi : IntKind.i64.wrap ((i : Int) + 1) = (i : Int) + 1 := IntWalk.i64_in _ (by have := HX.out.2.2.2.2.2.2.2.2.2.2.2.2.1; have := HL.out.2.2.2; omega)
                      have hlk := run_lookup_ok (P := Try.prog) hmq Try.underlying161 Try.underlying3 (.int .u32 0) (by kernel_rfl) a
                      rw [mfind_U] at hlk
                      have hmbq := hmq.lt
                      have hHQ := Lib.hid (And.intro hmq (And.intro hoq (And.intro hfq (And.intro hgq (And.intro hpi hra)))))
                      clear hmq hoq hfq hgq hpi hra hc hne1 hne2 hget hll
                      cases hev : evOf W' a with
                      | some was =>
                        rw [hev] at hlk
                        simp only [Option.map_some, Option.getD_some, Option.isSome_some] at hlk
                        have hm1 : meetS W' st' now' [a] = if andU was now' == was then (W', st') else (setS W' a (andU was now'), a :: st') := by
                          unfold meetS
                          rw [hev]
                          simp only
                          split <;> rfl
                        cases hb : (bits .and .u32 was now' == was) with
                        | true =>
                          rw [hm1, if_pos (by exact hb)] at hss
                          have HS := Lib.hid hss
                          clear hss hm1 hev
                          go_wp2_with fail
                          go_roundg (nx.length - (i + 1))
                          case measure => omega
                          case rel =>
                            obtain ⟨hmq, hoq, hfq, hgq, _⟩ := hHQ.out
                            refine ⟨i + 1, by omega, rfl, by simp, ?_, ?_, hfq, hgq⟩
                            · rw [HS.out]; exact hmq
                            · rw [HS.out]; exact hoq
                        | false =>
                          rw [hm1, if_neg (by rw [show andU was now' = bits .and .u32 was now' from rfl, hb]; simp)] at hss
                          obtain ⟨wu, hup, hmu, hfu⟩ := run_update_map (P := Try.prog) hHQ.out.1 Try.underlying161 Try.underlying3 a (.int .u32 (bits .and .u32 was now'))
                          rw [mset_U] at hmu
                          have hou := hHQ.out.2.1.fr hfu (fun q' hq' e => hHQ.out.1.ne_own hHQ.out.2.1 (e ▸ hq'))
                          obtain ⟨sg, scap, w7, hrun, ho7, hf7, hg7, hlt7⟩ := run_app (P := Try.prog) (w := wu.alloc (.cells #[.int .i64 a] 3)) (hou.fr ((Fr.refl Non wu).alloc _) (fun _ _ h => h)) 34 34 q0 _ 8 Try.underlying34 hq0 hqa hqb hqc rfl (by omega) wu.heap.size 0 1 1 [.int .i64 a] rfl (by exact (Row.new' rfl).news) (fun u hu => by simp at hu; subst hu; rfl) (by omega) (by omega) (by unfold maxLen; omega)
                          have HS := Lib.hid (And.intro hss (And.intro hmu (And.intro hfu (And.intro ho7 (And.intro hf7 hg7)))))
                          clear hss hm1 hev hou hmu hfu ho7 hf7 hg7 hlt7
                          go_wp2_with (at_builtin; refine wpList_app rfl (.tmp 113) (.tmp 115) _ rfl rfl rfl _ rfl hrun ?_)
                          go_roundg (nx.length - (i + 1))
                          case measure => omega
                          case rel =>
                            obtain ⟨hss, hmu, hfu, ho7, hf7, hg7⟩ := HS.out
                            obtain ⟨hmq, hoq, hfq, hgq, hpi, hra⟩ := hHQ.out
                            have hz1 := hfq.size
                            have hz2 := hfu.size
                            refine ⟨i + 1, by omega, rfl, by simp, ?_, ?_, ?_, ?_⟩
                            · rw [hss]
                              exact (hmu.fr ((Fr.refl Non wu).alloc _) id).fr hf7 (fun e => hmq.ne_own hoq e)
                            · rw [hss]
                              have hie : ints (a :: st').reverse = ints st'.reverse ++ [Value.int .i64 a] := by simp [ints]
                              rw [hie]
                              exact ho7
                            · exact ((hfq.trans (hfu.mono fun _ _ h => Or.inl h)).alloc _).then hf7 (fun x hx e => by
                                rcases hgq x e with h | h
                                · exact Or.inr h
                                · omega)
                            · intro q' e
                              simp [Value.ownBlock] at e
                              subst e
                              rcases hg7 with h | h
                              · exact hgq _ h
                              · right
                                simp at h
                                omega
                      | none =>
                        rw [hev] at hlk
                        simp only [Option.map_none, Option.getD_none, Option.isSome_none] at hlk
                        have hm1 : meetS W' st' now' [a] = (setS W' a now', a :: st') := by
                          unfold meetS
                          rw [hev]
                          rfl
                        rw [hm1] at hss
                        obtain ⟨wu, hup, hmu, hfu⟩ := run_update_map (P := Try.prog) hHQ.out.1 Try.underlying161 Try.underlying3 a (.int .u32 now')
                        rw [mset_U] at hmu
                        have hou := hHQ.out.2.1.fr hfu (fun q' hq' e => hHQ.out.1.ne_own hHQ.out.2.1 (e ▸ hq'))
                        obtain ⟨sg, scap, w7, hrun, ho7, hf7, hg7, hlt7⟩ := run_app (P := Try.prog) (w := wu.alloc (.cells #[.int .i64 a] 3)) (hou.fr ((Fr.refl Non wu).alloc _) (fun _ _ h => h)) 34 34 q0 _ 8 Try.underlying34 hq0 hqa hqb hqc rfl (by omega) wu.heap.size 0 1 1 [.int .i64 a] rfl (by exact (Row.new' rfl).news) (fun u hu => by simp at hu; subst hu; rfl) (by omega) (by omega) (by unfold maxLen; omega)
                        have HS := Lib.hid (And.intro hss (And.intro hmu (And.intro hfu (And.intro ho7 (And.intro hf7 hg7)))))
                        clear hss hm1 hev hou hmu hfu ho7 hf7 hg7 hlt7
                        go_wp2_with (at_builtin; refine wpList_app rfl (.tmp 113) (.tmp 115) _ rfl rfl rfl _ rfl hrun ?_)
                        go_roundg (nx.length - (i + 1))
                        case measure => omega
                        case rel =>
                          obtain ⟨hss, hmu, hfu, ho7, hf7, hg7⟩ := HS.out
                          obtain ⟨hmq, hoq, hfq, hgq, hpi, hra⟩ := hHQ.out
                          have hz1 := hfq.size
                          have hz2 := hfu.size
                          refine ⟨i + 1, by omega, rfl, by simp, ?_, ?_, ?_, ?_⟩
                          · rw [hss]
                            exact (hmu.fr ((Fr.refl Non wu).alloc _) id).fr hf7 (fun e => hmq.ne_own hoq e)
                          · rw [hss]
                            have hie : ints (a :: st').reverse = ints st'.reverse ++ [Value.int .i64 a] := by simp [ints]
                            rw [hie]
                            exact ho7
                          · exact ((hfq.trans (hfu.mono fun _ _ h => Or.inl h)).alloc _).then hf7 (fun x hx e => by
                              rcases hgq x e with h | h
                              · exact Or.inr h
                              · omega)
                          · intro q' e
                            simp [Value.ownBlock] at e
                            subst e
                            rcases hg7 with h | h
                            · exact hgq _ h
                            · right
                              simp at h
                              omega
                    · have hii : i = nx.length := by omega
                      subst hii
                      rw [List.take_length] at hmq hoq
                      have hpe := meet_pot HN2.out.2 nx W st (fun a ha => HL.out.2.2.1 a ha) HK.out.1
                      have HE := Lib.hid (And.intro hmq (And.intro hoq (And.intro hfq (And.intro hgq hpe))))
                      have hll := HL.out.2.2.2
                      have hnlt : ¬ ((nx.length : Int) < (xl.length : Int) + 1) := by omega
                      clear hmq hoq hfq hgq hpe
                      go_wp2_with fail
                      go_roundg k
                      case measure => omega
                      case rel =>
                        obtain ⟨hmq, hoq, hfq, hgq, hpe⟩ := HE.out
                        refine ⟨_, _, hmq, hoq, hpe.2, ⟨Nat.le_trans hpe.1 HK.out.2.1, HK.out.2.2.1⟩, HR4.out, ?_, ?_⟩
                        · exact (HX.out.2.2.2.2.2.1.trans HL.out.1).then hfq (fun x hx e => by
                            have := HK.out.2.2.2.2
                            rcases e with e | e <;> omega)
                        · intro q' e
                          have h1 := HK.out.2.2.2.2
                          have h2 := (HX.out.2.2.2.2.2.1.trans HL.out.1).size
                          rcases hgq q' e with h | h <;> omega
                | false =>
                  rw [hfl] at hR4
                  rw [if_neg (by simp)] at hR4
                  have HR4 := Lib.hid hR4
                  clear hR4 hok4 hfl
                  have hOX := H3.out.1
                  have hNX : ∀ (i : Nat) (n : Int), xl[i]? = some n → ∃ b o, la = some ⟨b, o, none⟩ ∧ w3.cell? ⟨b, o + i, none⟩ = some (.int .i64 n) ∧ b ≠ w.heap.size ∧ b ≠ g := by
                    intro i n hn
                    obtain ⟨b, o, e, hc⟩ := HX.out.2.2.2.2.2.2.2.1 i n hn
                    have hbw := World.block_lt_of_cell? w _ hc
                    have hgw := HX.out.2.2.2.2.2.2.1 g rfl
                    simp only at hbw
                    exact ⟨b, o, e, (HX.out.2.2.2.2.2.1.trans hOX).cell hc id, by omega, by omega⟩
                  have hnr : ∀ a ∈ xl, 0 ≤ a ∧ a < (f.length : Int) := HX.out.2.2.2.2.2.2.2.2.2.2.1
                  have hnl : xl.length = xl.length := rfl
                  obtain ⟨z0, z1, z2, z3, z4, zz⟩ := row5 H3.out.2
                  have HL := Lib.hid (And.intro hOX (And.intro hNX (And.intro hnr hnl)))
                  clear hNX hnr hOX hnl
                  go_wp2_with fail
                  clear z0 z1 z2 z3 z4 zz
                  have hmpX := HX.out.1.fr HL.out.1 id
                  have hownX : Own w3 (.slice (some ⟨g, 0, none⟩) st.length cap) 3 1 st.length (ints st.reverse) := (Own.pop1 (cs := ints st.reverse) (v := .int .i64 j) (by have := HX.out.2.1; simpa [ints] using this) (by simp [ints])).fr HL.out.1 (fun _ _ h => h)
                  have hmkX : MarksOk f.length W st := ⟨HX.out.2.2.1.val, fun a ha => HX.out.2.2.1.st a (List.mem_cons_of_mem _ ha)⟩
                  have hpotX : potS f.length W st ≤ k := by
                    have := HX.out.2.2.2.1.1
                    unfold potS at this ⊢
                    simp only [List.length_cons] at this
                    omega
                  have hkX : k ≤ waysN f.length := by have := HX.out.2.2.2.1.2; omega
                  have hsX : g < w3.heap.size ∧ w.heap.size ≤ g := ⟨by have h1 := HX.out.2.1.lt (g := g) rfl; have h2 := HL.out.1.size; omega, HX.out.2.2.2.2.2.2.1 g rfl⟩
                  have HK := Lib.hid (And.intro hmkX (And.intro hpotX (And.intro hkX hsX)))
                  clear hmkX hpotX hkX hsX
                  go_loopg [4, 86] xl.length (fun q v4 v86 wq => ∃ i : Nat, i ≤ xl.length ∧ q = xl.length - i ∧ v86 = .int .i64 i ∧ MapAt wq w.heap.size (mapU (meetS W st now' (xl.take i)).1) ∧ Own wq v4 3 1 (meetS W st now' (xl.take i)).2.length (ints (meetS W st now' (xl.take i)).2.reverse) ∧ Fr (fun x => x = w.heap.size ∨ x = g) w3 wq ∧ (∀ q', v4.ownBlock = some q' → q' = g ∨ w3.heap.size ≤ q'))
                  case atStart => exact ⟨0, Nat.zero_le _, rfl, rfl, hmpX, hownX, Fr.refl _ _, fun q' e => by simp [Value.ownBlock] at e; exact Or.inl e.symm⟩
                  case round =>
                    obtain ⟨i, hi, rfl, rfl, hmq, hoq, hfq, hgq⟩ := hrel
                    by_cases hil : i < xl.length
                    · have hget := List.getElem?_eq_getElem hil
                      have hss : meetS W st now' (xl.take (i + 1)) = meetS (meetS W st now' (xl.take i)).1 (meetS W st now' (xl.take i)).2 now' [xl[i]] := by rw [List.take_succ_eq_append_getElem hil, meetS_snoc]
                      have hpi := meet_pot HN2.out.2 (xl.take i) W st (fun a ha => HL.out.2.2.1 a (List.mem_of_mem_take ha)) HK.out.1
                      have hra := HL.out.2.2.1 _ (List.getElem_mem hil)
                      obtain ⟨ab, ao', e, hc, hne1, hne2⟩ := HL.out.2.1 i _ hget
                      generalize meetS W st now' (xl.take i) = Ws at *
                      obtain ⟨W', st'⟩ := Ws
                      simp only at hmq hoq hss hpi
                      generalize xl[i] = a at *
                      have hcq := hfq.cell hc (by simp [hne1, hne2])
                      (first | subst e | cases e)
                      try simp only [Nat.zero_add] at hcq
                      have ha0 : (0 : Int) ≤ (i : Int) := by omega
                      have hll := HL.out.2.2.2
                      have hia : (i : Int) < (xl.length : Int) := by omega
                      have hst' : st'.length + 1 ≤ 10000000 := by
                        have h1 := hpi.1
                        have h2 := HK.out.2.1
                        have h3 := HK.out.2.2.1
                        have h4 := HH.out.2.1.big
                        unfold potS at h1
                        unfold potS at h2
                        unfold waysN at h3
                        omega
                      have hwi : IntKind.i64.wrap ((i : Int) + 1) = (i : Int) + 1 := IntWalk.i64_in _ (by have := HX.out.2.2.2.2.2.2.2.2.2.2.2.2.1; have := HL.out.2.2.2; omega)
                      have hlk := run_lookup_ok (P := Try.prog) hmq Try.underlying161 Try.underlying3 (.int .u32 0) (by kernel_rfl) a
                      rw [mfind_U] at hlk
                      have hmbq := hmq.lt
                      have hHQ := Lib.hid (And.intro hmq (And.intro hoq (And.intro hfq (And.intro hgq (And.intro hpi hra)))))
                      clear hmq hoq hfq hgq hpi hra hc hne1 hne2 hget hll
                      cases hev : evOf W' a with
                      | some was =>
                        rw [hev] at hlk
                        simp only [Option.map_some, Option.getD_some, Option.isSome_some] at hlk
                        have hm1 : meetS W' st' now' [a] = if andU was now' == was then (W', st') else (setS W' a (andU was now'), a :: st') := by
                          unfold meetS
                          rw [hev]
                          simp only
                          split <;> rfl
                        cases hb : (bits .and .u32 was now' == was) with
                        | true =>
                          rw [hm1, if_pos (by exact hb)] at hss
                          have HS := Lib.hid hss
                          clear hss hm1 hev
                          go_wp2_with fail
                          go_roundg (xl.length - (i + 1))
                          case measure => omega
                          case rel =>
                            obtain ⟨hmq, hoq, hfq, hgq, _⟩ := hHQ.out
                            refine ⟨i + 1, by omega, rfl, by simp, ?_, ?_, hfq, hgq⟩
                            · rw [HS.out]; exact hmq
                            · rw [HS.out]; exact hoq
                        | false =>
                          rw [hm1, if_neg (by rw [show andU was now' = bits .and .u32 was now' from rfl, hb]; simp)] at hss
                          obtain ⟨wu, hup, hmu, hfu⟩ := run_update_map (P := Try.prog) hHQ.out.1 Try.underlying161 Try.underlying3 a (.int .u32 (bits .and .u32 was now'))
                          rw [mset_U] at hmu
                          have hou := hHQ.out.2.1.fr hfu (fun q' hq' e => hHQ.out.1.ne_own hHQ.out.2.1 (e ▸ hq'))
                          obtain ⟨sg, scap, w7, hrun, ho7, hf7, hg7, hlt7⟩ := run_app (P := Try.prog) (w := wu.alloc (.cells #[.int .i64 a] 3)) (hou.fr ((Fr.refl Non wu).alloc _) (fun _ _ h => h)) 34 34 q0 _ 8 Try.underlying34 hq0 hqa hqb hqc rfl (by omega) wu.heap.size 0 1 1 [.int .i64 a] rfl (by exact (Row.new' rfl).news) (fun u hu => by simp at hu; subst hu; rfl) (by omega) (by omega) (by unfold maxLen; omega)
                          have HS := Lib.hid (And.intro hss (And.intro hmu (And.intro hfu (And.intro ho7 (And.intro hf7 hg7)))))
                          clear hss hm1 hev hou hmu hfu ho7 hf7 hg7 hlt7
                          go_wp2_with (at_builtin; refine wpList_app rfl (.tmp 113) (.tmp 115) _ rfl rfl rfl _ rfl hrun ?_)
                          go_roundg (xl.length - (i + 1))
                          case measure => omega
                          case rel =>
                            obtain ⟨hss, hmu, hfu, ho7, hf7, hg7⟩ := HS.out
                            obtain ⟨hmq, hoq, hfq, hgq, hpi, hra⟩ := hHQ.out
                            have hz1 := hfq.size
                            have hz2 := hfu.size
                            refine ⟨i + 1, by omega, rfl, by simp, ?_, ?_, ?_, ?_⟩
                            · rw [hss]
                              exact (hmu.fr ((Fr.refl Non wu).alloc _) id).fr hf7 (fun e => hmq.ne_own hoq e)
                            · rw [hss]
                              have hie : ints (a :: st').reverse = ints st'.reverse ++ [Value.int .i64 a] := by simp [ints]
                              rw [hie]
                              exact ho7
                            · exact ((hfq.trans (hfu.mono fun _ _ h => Or.inl h)).alloc _).then hf7 (fun x hx e => by
                                rcases hgq x e with h | h
                                · exact Or.inr h
                                · omega)
                            · intro q' e
                              simp [Value.ownBlock] at e
                              subst e
                              rcases hg7 with h | h
                              · exact hgq _ h
                              · right
                                simp at h
                                omega
                      | none =>
                        rw [hev] at hlk
                        simp only [Option.map_none, Option.getD_none, Option.isSome_none] at hlk
                        have hm1 : meetS W' st' now' [a] = (setS W' a now', a :: st') := by
                          unfold meetS
                          rw [hev]
                          rfl
                        rw [hm1] at hss
                        obtain ⟨wu, hup, hmu, hfu⟩ := run_update_map (P := Try.prog) hHQ.out.1 Try.underlying161 Try.underlying3 a (.int .u32 now')
                        rw [mset_U] at hmu
                        have hou := hHQ.out.2.1.fr hfu (fun q' hq' e => hHQ.out.1.ne_own hHQ.out.2.1 (e ▸ hq'))
                        obtain ⟨sg, scap, w7, hrun, ho7, hf7, hg7, hlt7⟩ := run_app (P := Try.prog) (w := wu.alloc (.cells #[.int .i64 a] 3)) (hou.fr ((Fr.refl Non wu).alloc _) (fun _ _ h => h)) 34 34 q0 _ 8 Try.underlying34 hq0 hqa hqb hqc rfl (by omega) wu.heap.size 0 1 1 [.int .i64 a] rfl (by exact (Row.new' rfl).news) (fun u hu => by simp at hu; subst hu; rfl) (by omega) (by omega) (by unfold maxLen; omega)
                        have HS := Lib.hid (And.intro hss (And.intro hmu (And.intro hfu (And.intro ho7 (And.intro hf7 hg7)))))
                        clear hss hm1 hev hou hmu hfu ho7 hf7 hg7 hlt7
                        go_wp2_with (at_builtin; refine wpList_app rfl (.tmp 113) (.tmp 115) _ rfl rfl rfl _ rfl hrun ?_)
                        go_roundg (xl.length - (i + 1))
                        case measure => omega
                        case rel =>
                          obtain ⟨hss, hmu, hfu, ho7, hf7, hg7⟩ := HS.out
                          obtain ⟨hmq, hoq, hfq, hgq, hpi, hra⟩ := hHQ.out
                          have hz1 := hfq.size
                          have hz2 := hfu.size
                          refine ⟨i + 1, by omega, rfl, by simp, ?_, ?_, ?_, ?_⟩
                          · rw [hss]
                            exact (hmu.fr ((Fr.refl Non wu).alloc _) id).fr hf7 (fun e => hmq.ne_own hoq e)
                          · rw [hss]
                            have hie : ints (a :: st').reverse = ints st'.reverse ++ [Value.int .i64 a] := by simp [ints]
                            rw [hie]
                            exact ho7
                          · exact ((hfq.trans (hfu.mono fun _ _ h => Or.inl h)).alloc _).then hf7 (fun x hx e => by
                              rcases hgq x e with h | h
                              · exact Or.inr h
                              · omega)
                          · intro q' e
                            simp [Value.ownBlock] at e
                            subst e
                            rcases hg7 with h | h
                            · exact hgq _ h
                            · right
                              simp at h
                              omega
                    · have hii : i = xl.length := by omega
                      subst hii
                      rw [List.take_length] at hmq hoq
                      have hpe := meet_pot HN2.out.2 xl W st (fun a ha => HL.out.2.2.1 a ha) HK.out.1
                      have HE := Lib.hid (And.intro hmq (And.intro hoq (And.intro hfq (And.intro hgq hpe))))
                      have hll := HL.out.2.2.2
                      have hnlt : ¬ ((xl.length : Int) < (xl.length : Int)) := by omega
                      clear hmq hoq hfq hgq hpe
                      go_wp2_with fail
                      go_roundg k
                      case measure => omega
                      case rel =>
                        obtain ⟨hmq, hoq, hfq, hgq, hpe⟩ := HE.out
                        refine ⟨_, _, hmq, hoq, hpe.2, ⟨Nat.le_trans hpe.1 HK.out.2.1, HK.out.2.2.1⟩, HR4.out, ?_, ?_⟩
                        · exact (HX.out.2.2.2.2.2.1.trans HL.out.1).then hfq (fun x hx e => by
                            have := HK.out.2.2.2.2
                            rcases e with e | e <;> omega)
                        · intro q' e
                          have h1 := HK.out.2.2.2.2
                          have h2 := (HX.out.2.2.2.2.2.1.trans HL.out.1).size
                          rcases hgq q' e with h | h <;> omega
              | false =>
                rw [if_neg (by simp)] at hnS
                have HN2 := Lib.hid (And.intro hnS HX.out.2.2.2.2.2.2.2.2.2.2.2.2.2)
                clear hnS hw2
                generalize now = now' at *
                have hR4 := HR3.out
                rw [HN2.out.1] at hR4
                have HR4 := Lib.hid hR4
                clear hR4 HR3
                go_wp2_with fail
                refine (falls_c _ ⟨xop, xa, xb, xc, xl⟩ la lc).mono ?_
                rintro e1 w3 ⟨rfl, hf3⟩
                have hO3 := (H1.out.2.2.1.trans H2.out.1).trans hf3
                have H3 := Lib.hid (And.intro hO3 (hf3.row H2.out.2 id))
                clear hf3 hO3 z0 z1 z2 z3 z4 zz
                have hok4 := HX.out.2.2.2.2.2.2.2.2.2.2.2.1
                have hnx : nextS ⟨xop, xa, xb, xc, xl⟩ (j : Int) = if fallsS xop then xl ++ [(j : Int) + 1] else xl := rfl
                have hR4 := HR4.out
                rw [hnx] at hR4
                clear hnx HR4
                cases hfl : fallsS xop with
                | true =>
                  rw [hfl] at hok4 hR4
                  rw [if_pos rfl] at hR4
                  have hj2 := hok4 rfl
                  have HR4 := Lib.hid hR4
                  clear hR4 hok4 hfl
                  have hwj : IntKind.i64.wrap ((j : Int) + 1) = (j : Int) + 1 := IntWalk.i64_in _ (by have := HH.out.2.1.big; omega)
                  have hla3 : ArgsAt w3 la xl := (HX.out.2.2.2.2.2.2.2.1.fr HX.out.2.2.2.2.2.1 (fun _ _ _ h => h)).fr H3.out.1 (fun _ _ _ h => h)
                  have hz3 : la = none → xl = [] := fun e => by
                    cases xl with
                    | nil => rfl
                    | cons y l =>
                      obtain ⟨b, o, e2, _⟩ := hla3 0 y rfl
                      rw [e] at e2
                      cases e2
                  have hC := Lib.hid (clone_c w3 xl la lc hla3 hz3 HX.out.2.2.2.2.2.2.2.2.2.2.2.2.1)
                  obtain ⟨z0, z1, z2, z3, z4, zz⟩ := row5 H3.out.2
                  clear hla3 hz3
                  go_wp2_with fail
                  refine hC.out.mono ?_
                  rintro e1 w4 ⟨cv, rfl, ho4, hn4, hf4⟩
                  obtain ⟨cao, ccap, rfl, hodd1, hodd2, hodd3, hodd4⟩ := ho4.form
                  clear hodd1 hodd2 hodd3 hodd4
                  obtain ⟨ng, ncap, w5, hrun, ho5, hf5, hg5, hlt5⟩ := run_app (P := Try.prog) (w := w4.alloc (.cells #[.int .i64 ((j : Int) + 1)] 3)) (ho4.fr ((Fr.refl Non w4).alloc _) (fun _ _ h => h)) 34 34 q0 _ 8 Try.underlying34 hq0 hqa hqb hqc rfl (by omega) w4.heap.size 0 1 1 [.int .i64 ((j : Int) + 1)] rfl (by exact (Row.new' rfl).news) (fun u hu => by simp at hu; subst hu; rfl) (by omega) (by have := HX.out.2.2.2.2.2.2.2.2.2.2.2.2.1; omega) (by have := HX.out.2.2.2.2.2.2.2.2.2.2.2.2.1; unfold maxLen; omega)
                  have hs3 : g < w3.heap.size := by
                    have h1 := HX.out.2.1.lt (g := g) rfl
                    have h2 := H3.out.1.size
                    omega
                  have hf35 : Fr Non w3 w5 := (hf4.alloc _).then hf5 (fun x hx e => by have := hn4 x e; omega)
                  have hng : w3.heap.size ≤ ng := by
                    rcases hg5 with h | h
                    · exact hn4 _ h
                    · have := hf4.size; simp at h; omega
                  have hOX := H3.out.1.trans hf35
                  have hNX : ∀ (i : Nat) (n : Int), (xl ++ [(j : Int) + 1])[i]? = some n → ∃ b o, (some ⟨ng, 0, none⟩ : Option Addr) = some ⟨b, o, none⟩ ∧ w5.cell? ⟨b, o + i, none⟩ = some (.int .i64 n) ∧ b ≠ w.heap.size ∧ b ≠ g := by
                    intro i n hn
                    refine ⟨ng, 0, rfl, ?_, ?_, by omega⟩
                    · rw [Nat.zero_add]
                      refine ho5.cell rfl ?_
                      have : ints xl ++ [Value.int .i64 ((j : Int) + 1)] = ints (xl ++ [(j : Int) + 1]) := by simp [ints]
                      rw [this]
                      unfold ints
                      rw [List.getElem?_map, hn]
                      rfl
                    · intro e
                      exact (HX.out.1.fr hOX id).ne_own ho5 (by rw [← e]; rfl)
                  have hnr : ∀ a ∈ xl ++ [(j : Int) + 1], 0 ≤ a ∧ a < (f.length : Int) := by
                    intro a ha
                    rcases List.mem_append.1 ha with ha | ha
                    · exact HX.out.2.2.2.2.2.2.2.2.2.2.1 a ha
                    · simp at ha
                      subst ha
                      omega
                  have hnl : (xl ++ [(j : Int) + 1]).length = xl.length + 1 := by simp
                  have HL := Lib.hid (And.intro hOX (And.intro hNX (And.intro hnr hnl)))
                  clear ho4 hn4 hf4 ho5 hf5 hg5 hf35 hNX hnr hOX
                  go_wp2_with (at_builtin; refine wpList_app rfl (.tmp 79) (.tmp 82) _ rfl rfl rfl _ rfl hrun ?_)
                  clear hrun z0 z1 z2 z3 z4 zz
                  generalize (xl ++ [(j : Int) + 1]) = nx at *
                  have hmpX := HX.out.1.fr HL.out.1 id
                  have hownX : Own w5 (.slice (some ⟨g, 0, none⟩) st.length cap) 3 1 st.length (ints st.reverse) := (Own.pop1 (cs := ints st.reverse) (v := .int .i64 j) (by have := HX.out.2.1; simpa [ints] using this) (by simp [ints])).fr HL.out.1 (fun _ _ h => h)
                  have hmkX : MarksOk f.length W st := ⟨HX.out.2.2.1.val, fun a ha => HX.out.2.2.1.st a (List.mem_cons_of_mem _ ha)⟩
                  have hpotX : potS f.length W st ≤ k := by
                    have := HX.out.2.2.2.1.1
                    unfold potS at this ⊢
                    simp only [List.length_cons] at this
                    omega
                  have hkX : k ≤ waysN f.length := by have := HX.out.2.2.2.1.2; omega
                  have hsX : g < w5.heap.size ∧ w.heap.size ≤ g := ⟨by have h1 := HX.out.2.1.lt (g := g) rfl; have h2 := HL.out.1.size; omega, HX.out.2.2.2.2.2.2.1 g rfl⟩
                  have HK := Lib.hid (And.intro hmkX (And.intro hpotX (And.intro hkX hsX)))
                  clear hmkX hpotX hkX hsX
                  go_loopg [4, 86] nx.length (fun q v4 v86 wq => ∃ i : Nat, i ≤ nx.length ∧ q = nx.length - i ∧ v86 = .int .i64 i ∧ MapAt wq w.heap.size (mapU (meetS W st now' (nx.take i)).1) ∧ Own wq v4 3 1 (meetS W st now' (nx.take i)).2.length (ints (meetS W st now' (nx.take i)).2.reverse) ∧ Fr (fun x => x = w.heap.size ∨ x = g) w5 wq ∧ (∀ q', v4.ownBlock = some q' → q' = g ∨ w5.heap.size ≤ q'))
                  case atStart => exact ⟨0, Nat.zero_le _, rfl, rfl, hmpX, hownX, Fr.refl _ _, fun q' e => by simp [Value.ownBlock] at e; exact Or.inl e.symm⟩
                  case round =>
                    obtain ⟨i, hi, rfl, rfl, hmq, hoq, hfq, hgq⟩ := hrel
                    by_cases hil : i < nx.length
                    · have hget := List.getElem?_eq_getElem hil
                      have hss : meetS W st now' (nx.take (i + 1)) = meetS (meetS W st now' (nx.take i)).1 (meetS W st now' (nx.take i)).2 now' [nx[i]] := by rw [List.take_succ_eq_append_getElem hil, meetS_snoc]
                      have hpi := meet_pot HN2.out.2 (nx.take i) W st (fun a ha => HL.out.2.2.1 a (List.mem_of_mem_take ha)) HK.out.1
                      have hra := HL.out.2.2.1 _ (List.getElem_mem hil)
                      obtain ⟨ab, ao', e, hc, hne1, hne2⟩ := HL.out.2.1 i _ hget
                      generalize meetS W st now' (nx.take i) = Ws at *
                      obtain ⟨W', st'⟩ := Ws
                      simp only at hmq hoq hss hpi
                      generalize nx[i] = a at *
                      have hcq := hfq.cell hc (by simp [hne1, hne2])
                      (first | subst e | cases e)
                      try simp only [Nat.zero_add] at hcq
                      have ha0 : (0 : Int) ≤ (i : Int) := by omega
                      have hll := HL.out.2.2.2
                      have hia : (i : Int) < (xl.length : Int) + 1 := by omega
                      have hst' : st'.length + 1 ≤ 10000000 := by
                        have h1 := hpi.1
                        have h2 := HK.out.2.1
                        have h3 := HK.out.2.2.1
                        have h4 := HH.out.2.1.big
                        unfold potS at h1
                        unfold potS at h2
                        unfold waysN at h3
                        omega
                      have hwi : IntKind.i64.wrap ((i : Int) + 1) = (i : Int) + 1 := IntWalk.i64_in _ (by have := HX.out.2.2.2.2.2.2.2.2.2.2.2.2.1; have := HL.out.2.2.2; omega)
                      have hlk := run_lookup_ok (P := Try.prog) hmq Try.underlying161 Try.underlying3 (.int .u32 0) (by kernel_rfl) a
                      rw [mfind_U] at hlk
                      have hmbq := hmq.lt
                      have hHQ := Lib.hid (And.intro hmq (And.intro hoq (And.intro hfq (And.intro hgq (And.intro hpi hra)))))
                      clear hmq hoq hfq hgq hpi hra hc hne1 hne2 hget hll
                      cases hev : evOf W' a with
                      | some was =>
                        rw [hev] at hlk
                        simp only [Option.map_some, Option.getD_some, Option.isSome_some] at hlk
                        have hm1 : meetS W' st' now' [a] = if andU was now' == was then (W', st') else (setS W' a (andU was now'), a :: st') := by
                          unfold meetS
                          rw [hev]
                          simp only
                          split <;> rfl
                        cases hb : (bits .and .u32 was now' == was) with
                        | true =>
                          rw [hm1, if_pos (by exact hb)] at hss
                          have HS := Lib.hid hss
                          clear hss hm1 hev
                          go_wp2_with fail
                          go_roundg (nx.length - (i + 1))
                          case measure => omega
                          case rel =>
                            obtain ⟨hmq, hoq, hfq, hgq, _⟩ := hHQ.out
                            refine ⟨i + 1, by omega, rfl, by simp, ?_, ?_, hfq, hgq⟩
                            · rw [HS.out]; exact hmq
                            · rw [HS.out]; exact hoq
                        | false =>
                          rw [hm1, if_neg (by rw [show andU was now' = bits .and .u32 was now' from rfl, hb]; simp)] at hss
                          obtain ⟨wu, hup, hmu, hfu⟩ := run_update_map (P := Try.prog) hHQ.out.1 Try.underlying161 Try.underlying3 a (.int .u32 (bits .and .u32 was now'))
                          rw [mset_U] at hmu
                          have hou := hHQ.out.2.1.fr hfu (fun q' hq' e => hHQ.out.1.ne_own hHQ.out.2.1 (e ▸ hq'))
                          obtain ⟨sg, scap, w7, hrun, ho7, hf7, hg7, hlt7⟩ := run_app (P := Try.prog) (w := wu.alloc (.cells #[.int .i64 a] 3)) (hou.fr ((Fr.refl Non wu).alloc _) (fun _ _ h => h)) 34 34 q0 _ 8 Try.underlying34 hq0 hqa hqb hqc rfl (by omega) wu.heap.size 0 1 1 [.int .i64 a] rfl (by exact (Row.new' rfl).news) (fun u hu => by simp at hu; subst hu; rfl) (by omega) (by omega) (by unfold maxLen; omega)
                          have HS := Lib.hid (And.intro hss (And.intro hmu (And.intro hfu (And.intro ho7 (And.intro hf7 hg7)))))
                          clear hss hm1 hev hou hmu hfu ho7 hf7 hg7 hlt7
                          go_wp2_with (at_builtin; refine wpList_app rfl (.tmp 113) (.tmp 115) _ rfl rfl rfl _ rfl hrun ?_)
                          go_roundg (nx.length - (i + 1))
                          case measure => omega
                          case rel =>
                            obtain ⟨hss, hmu, hfu, ho7, hf7, hg7⟩ := HS.out
                            obtain ⟨hmq, hoq, hfq, hgq, hpi, hra⟩ := hHQ.out
                            have hz1 := hfq.size
                            have hz2 := hfu.size
                            refine ⟨i + 1, by omega, rfl, by simp, ?_, ?_, ?_, ?_⟩
                            · rw [hss]
                              exact (hmu.fr ((Fr.refl Non wu).alloc _) id).fr hf7 (fun e => hmq.ne_own hoq e)
                            · rw [hss]
                              have hie : ints (a :: st').reverse = ints st'.reverse ++ [Value.int .i64 a] := by simp [ints]
                              rw [hie]
                              exact ho7
                            · exact ((hfq.trans (hfu.mono fun _ _ h => Or.inl h)).alloc _).then hf7 (fun x hx e => by
                                rcases hgq x e with h | h
                                · exact Or.inr h
                                · omega)
                            · intro q' e
                              simp [Value.ownBlock] at e
                              subst e
                              rcases hg7 with h | h
                              · exact hgq _ h
                              · right
                                simp at h
                                omega
                      | none =>
                        rw [hev] at hlk
                        simp only [Option.map_none, Option.getD_none, Option.isSome_none] at hlk
                        have hm1 : meetS W' st' now' [a] = (setS W' a now', a :: st') := by
                          unfold meetS
                          rw [hev]
                          rfl
                        rw [hm1] at hss
                        obtain ⟨wu, hup, hmu, hfu⟩ := run_update_map (P := Try.prog) hHQ.out.1 Try.underlying161 Try.underlying3 a (.int .u32 now')
                        rw [mset_U] at hmu
                        have hou := hHQ.out.2.1.fr hfu (fun q' hq' e => hHQ.out.1.ne_own hHQ.out.2.1 (e ▸ hq'))
                        obtain ⟨sg, scap, w7, hrun, ho7, hf7, hg7, hlt7⟩ := run_app (P := Try.prog) (w := wu.alloc (.cells #[.int .i64 a] 3)) (hou.fr ((Fr.refl Non wu).alloc _) (fun _ _ h => h)) 34 34 q0 _ 8 Try.underlying34 hq0 hqa hqb hqc rfl (by omega) wu.heap.size 0 1 1 [.int .i64 a] rfl (by exact (Row.new' rfl).news) (fun u hu => by simp at hu; subst hu; rfl) (by omega) (by omega) (by unfold maxLen; omega)
                        have HS := Lib.hid (And.intro hss (And.intro hmu (And.intro hfu (And.intro ho7 (And.intro hf7 hg7)))))
                        clear hss hm1 hev hou hmu hfu ho7 hf7 hg7 hlt7
                        go_wp2_with (at_builtin; refine wpList_app rfl (.tmp 113) (.tmp 115) _ rfl rfl rfl _ rfl hrun ?_)
                        go_roundg (nx.length - (i + 1))
                        case measure => omega
                        case rel =>
                          obtain ⟨hss, hmu, hfu, ho7, hf7, hg7⟩ := HS.out
                          obtain ⟨hmq, hoq, hfq, hgq, hpi, hra⟩ := hHQ.out
                          have hz1 := hfq.size
                          have hz2 := hfu.size
                          refine ⟨i + 1, by omega, rfl, by simp, ?_, ?_, ?_, ?_⟩
                          · rw [hss]
                            exact (hmu.fr ((Fr.refl Non wu).alloc _) id).fr hf7 (fun e => hmq.ne_own hoq e)
                          · rw [hss]
                            have hie : ints (a :: st').reverse = ints st'.reverse ++ [Value.int .i64 a] := by simp [ints]
                            rw [hie]
                            exact ho7
                          · exact ((hfq.trans (hfu.mono fun _ _ h => Or.inl h)).alloc _).then hf7 (fun x hx e => by
                              rcases hgq x e with h | h
                              · exact Or.inr h
                              · omega)
                          · intro q' e
                            simp [Value.ownBlock] at e
                            subst e
                            rcases hg7 with h | h
                            · exact hgq _ h
                            · right
                              simp at h
                              omega
                    · have hii : i = nx.length := by omega
                      subst hii
                      rw [List.take_length] at hmq hoq
                      have hpe := meet_pot HN2.out.2 nx W st (fun a ha => HL.out.2.2.1 a ha) HK.out.1
                      have HE := Lib.hid (And.intro hmq (And.intro hoq (And.intro hfq (And.intro hgq hpe))))
                      have hll := HL.out.2.2.2
                      have hnlt : ¬ ((nx.length : Int) < (xl.length : Int) + 1) := by omega
                      clear hmq hoq hfq hgq hpe
                      go_wp2_with fail
                      go_roundg k
                      case measure => omega
                      case rel =>
                        obtain ⟨hmq, hoq, hfq, hgq, hpe⟩ := HE.out
                        refine ⟨_, _, hmq, hoq, hpe.2, ⟨Nat.le_trans hpe.1 HK.out.2.1, HK.out.2.2.1⟩, HR4.out, ?_, ?_⟩
                        · exact (HX.out.2.2.2.2.2.1.trans HL.out.1).then hfq (fun x hx e => by
                            have := HK.out.2.2.2.2
                            rcases e with e | e <;> omega)
                        · intro q' e
                          have h1 := HK.out.2.2.2.2
                          have h2 := (HX.out.2.2.2.2.2.1.trans HL.out.1).size
                          rcases hgq q' e with h | h <;> omega
                | false =>
                  rw [hfl] at hR4
                  rw [if_neg (by simp)] at hR4
                  have HR4 := Lib.hid hR4
                  clear hR4 hok4 hfl
                  have hOX := H3.out.1
                  have hNX : ∀ (i : Nat) (n : Int), xl[i]? = some n → ∃ b o, la = some ⟨b, o, none⟩ ∧ w3.cell? ⟨b, o + i, none⟩ = some (.int .i64 n) ∧ b ≠ w.heap.size ∧ b ≠ g := by
                    intro i n hn
                    obtain ⟨b, o, e, hc⟩ := HX.out.2.2.2.2.2.2.2.1 i n hn
                    have hbw := World.block_lt_of_cell? w _ hc
                    have hgw := HX.out.2.2.2.2.2.2.1 g rfl
                    simp only at hbw
                    exact ⟨b, o, e, (HX.out.2.2.2.2.2.1.trans hOX).cell hc id, by omega, by omega⟩
                  have hnr : ∀ a ∈ xl, 0 ≤ a ∧ a < (f.length : Int) := HX.out.2.2.2.2.2.2.2.2.2.2.1
                  have hnl : xl.length = xl.length := rfl
                  obtain ⟨z0, z1, z2, z3, z4, zz⟩ := row5 H3.out.2
                  have HL := Lib.hid (And.intro hOX (And.intro hNX (And.intro hnr hnl)))
                  clear hNX hnr hOX hnl
                  go_wp2_with fail
                  clear z0 z1 z2 z3 z4 zz
                  have hmpX := HX.out.1.fr HL.out.1 id
                  have hownX : Own w3 (.slice (some ⟨g, 0, none⟩) st.length cap) 3 1 st.length (ints st.reverse) := (Own.pop1 (cs := ints st.reverse) (v := .int .i64 j) (by have := HX.out.2.1; simpa [ints] using this) (by simp [ints])).fr HL.out.1 (fun _ _ h => h)
                  have hmkX : MarksOk f.length W st := ⟨HX.out.2.2.1.val, fun a ha => HX.out.2.2.1.st a (List.mem_cons_of_mem _ ha)⟩
                  have hpotX : potS f.length W st ≤ k := by
                    have := HX.out.2.2.2.1.1
                    unfold potS at this ⊢
                    simp only [List.length_cons] at this
                    omega
                  have hkX : k ≤ waysN f.length := by have := HX.out.2.2.2.1.2; omega
                  have hsX : g < w3.heap.size ∧ w.heap.size ≤ g := ⟨by have h1 := HX.out.2.1.lt (g := g) rfl; have h2 := HL.out.1.size; omega, HX.out.2.2.2.2.2.2.1 g rfl⟩
                  have HK := Lib.hid (And.intro hmkX (And.intro hpotX (And.intro hkX hsX)))
                  clear hmkX hpotX hkX hsX
                  go_loopg [4, 86] xl.length (fun q v4 v86 wq => ∃ i : Nat, i ≤ xl.length ∧ q = xl.length - i ∧ v86 = .int .i64 i ∧ MapAt wq w.heap.size (mapU (meetS W st now' (xl.take i)).1) ∧ Own wq v4 3 1 (meetS W st now' (xl.take i)).2.length (ints (meetS W st now' (xl.take i)).2.reverse) ∧ Fr (fun x => x = w.heap.size ∨ x = g) w3 wq ∧ (∀ q', v4.ownBlock = some q' → q' = g ∨ w3.heap.size ≤ q'))
                  case atStart => exact ⟨0, Nat.zero_le _, rfl, rfl, hmpX, hownX, Fr.refl _ _, fun q' e => by simp [Value.ownBlock] at e; exact Or.inl e.symm⟩
                  case round =>
                    obtain ⟨i, hi, rfl, rfl, hmq, hoq, hfq, hgq⟩ := hrel
                    by_cases hil : i < xl.length
                    · have hget := List.getElem?_eq_getElem hil
                      have hss : meetS W st now' (xl.take (i + 1)) = meetS (meetS W st now' (xl.take i)).1 (meetS W st now' (xl.take i)).2 now' [xl[i]] := by rw [List.take_succ_eq_append_getElem hil, meetS_snoc]
                      have hpi := meet_pot HN2.out.2 (xl.take i) W st (fun a ha => HL.out.2.2.1 a (List.mem_of_mem_take ha)) HK.out.1
                      have hra := HL.out.2.2.1 _ (List.getElem_mem hil)
                      obtain ⟨ab, ao', e, hc, hne1, hne2⟩ := HL.out.2.1 i _ hget
                      generalize meetS W st now' (xl.take i) = Ws at *
                      obtain ⟨W', st'⟩ := Ws
                      simp only at hmq hoq hss hpi
                      generalize xl[i] = a at *
                      have hcq := hfq.cell hc (by simp [hne1, hne2])
                      (first | subst e | cases e)
                      try simp only [Nat.zero_add] at hcq
                      have ha0 : (0 : Int) ≤ (i : Int) := by omega
                      have hll := HL.out.2.2.2
                      have hia : (i : Int) < (xl.length : Int) := by omega
                      have hst' : st'.length + 1 ≤ 10000000 := by
                        have h1 := hpi.1
                        have h2 := HK.out.2.1
                        have h3 := HK.out.2.2.1
                        have h4 := HH.out.2.1.big
                        unfold potS at h1
                        unfold potS at h2
                        unfold waysN at h3
                        omega
                      have hwi : IntKind.i64.wrap ((i : Int) + 1) = (i : Int) + 1 := IntWalk.i64_in _ (by have := HX.out.2.2.2.2.2.2.2.2.2.2.2.2.1; have := HL.out.2.2.2; omega)
                      have hlk := run_lookup_ok (P := Try.prog) hmq Try.underlying161 Try.underlying3 (.int .u32 0) (by kernel_rfl) a
                      rw [mfind_U] at hlk
                      have hmbq := hmq.lt
                      have hHQ := Lib.hid (And.intro hmq (And.intro hoq (And.intro hfq (And.intro hgq (And.intro hpi hra)))))
                      clear hmq hoq hfq hgq hpi hra hc hne1 hne2 hget hll
                      cases hev : evOf W' a with
                      | some was =>
                        rw [hev] at hlk
                        simp only [Option.map_some, Option.getD_some, Option.isSome_some] at hlk
                        have hm1 : meetS W' st' now' [a] = if andU was now' == was then (W', st') else (setS W' a (andU was now'), a :: st') := by
                          unfold meetS
                          rw [hev]
                          simp only
                          split <;> rfl
                        cases hb : (bits .and .u32 was now' == was) with
                        | true =>
                          rw [hm1, if_pos (by exact hb)] at hss
                          have HS := Lib.hid hss
                          clear hss hm1 hev
                          go_wp2_with fail
                          go_roundg (xl.length - (i + 1))
                          case measure => omega
                          case rel =>
                            obtain ⟨hmq, hoq, hfq, hgq, _⟩ := hHQ.out
                            refine ⟨i + 1, by omega, rfl, by simp, ?_, ?_, hfq, hgq⟩
                            · rw [HS.out]; exact hmq
                            · rw [HS.out]; exact hoq
                        | false =>
                          rw [hm1, if_neg (by rw [show andU was now' = bits .and .u32 was now' from rfl, hb]; simp)] at hss
                          obtain ⟨wu, hup, hmu, hfu⟩ := run_update_map (P := Try.prog) hHQ.out.1 Try.underlying161 Try.underlying3 a (.int .u32 (bits .and .u32 was now'))
                          rw [mset_U] at hmu
                          have hou := hHQ.out.2.1.fr hfu (fun q' hq' e => hHQ.out.1.ne_own hHQ.out.2.1 (e ▸ hq'))
                          obtain ⟨sg, scap, w7, hrun, ho7, hf7, hg7, hlt7⟩ := run_app (P := Try.prog) (w := wu.alloc (.cells #[.int .i64 a] 3)) (hou.fr ((Fr.refl Non wu).alloc _) (fun _ _ h => h)) 34 34 q0 _ 8 Try.underlying34 hq0 hqa hqb hqc rfl (by omega) wu.heap.size 0 1 1 [.int .i64 a] rfl (by exact (Row.new' rfl).news) (fun u hu => by simp at hu; subst hu; rfl) (by omega) (by omega) (by unfold maxLen; omega)
                          have HS := Lib.hid (And.intro hss (And.intro hmu (And.intro hfu (And.intro ho7 (And.intro hf7 hg7)))))
                          clear hss hm1 hev hou hmu hfu ho7 hf7 hg7 hlt7
                          go_wp2_with (at_builtin; refine wpList_app rfl (.tmp 113) (.tmp 115) _ rfl rfl rfl _ rfl hrun ?_)
                          go_roundg (xl.length - (i + 1))
                          case measure => omega
                          case rel =>
                            obtain ⟨hss, hmu, hfu, ho7, hf7, hg7⟩ := HS.out
                            obtain ⟨hmq, hoq, hfq, hgq, hpi, hra⟩ := hHQ.out
                            have hz1 := hfq.size
                            have hz2 := hfu.size
                            refine ⟨i + 1, by omega, rfl, by simp, ?_, ?_, ?_, ?_⟩
                            · rw [hss]
                              exact (hmu.fr ((Fr.refl Non wu).alloc _) id).fr hf7 (fun e => hmq.ne_own hoq e)
                            · rw [hss]
                              have hie : ints (a :: st').reverse = ints st'.reverse ++ [Value.int .i64 a] := by simp [ints]
                              rw [hie]
                              exact ho7
                            · exact ((hfq.trans (hfu.mono fun _ _ h => Or.inl h)).alloc _).then hf7 (fun x hx e => by
                                rcases hgq x e with h | h
                                · exact Or.inr h
                                · omega)
                            · intro q' e
                              simp [Value.ownBlock] at e
                              subst e
                              rcases hg7 with h | h
                              · exact hgq _ h
                              · right
                                simp at h
                                omega
                      | none =>
                        rw [hev] at hlk
                        simp only [Option.map_none, Option.getD_none, Option.isSome_none] at hlk
                        have hm1 : meetS W' st' now' [a] = (setS W' a now', a :: st') := by
                          unfold meetS
                          rw [hev]
                          rfl
                        rw [hm1] at hss
                        obtain ⟨wu, hup, hmu, hfu⟩ := run_update_map (P := Try.prog) hHQ.out.1 Try.underlying161 Try.underlying3 a (.int .u32 now')
                        rw [mset_U] at hmu
                        have hou := hHQ.out.2.1.fr hfu (fun q' hq' e => hHQ.out.1.ne_own hHQ.out.2.1 (e ▸ hq'))
                        obtain ⟨sg, scap, w7, hrun, ho7, hf7, hg7, hlt7⟩ := run_app (P := Try.prog) (w := wu.alloc (.cells #[.int .i64 a] 3)) (hou.fr ((Fr.refl Non wu).alloc _) (fun _ _ h => h)) 34 34 q0 _ 8 Try.underlying34 hq0 hqa hqb hqc rfl (by omega) wu.heap.size 0 1 1 [.int .i64 a] rfl (by exact (Row.new' rfl).news) (fun u hu => by simp at hu; subst hu; rfl) (by omega) (by omega) (by unfold maxLen; omega)
                        have HS := Lib.hid (And.intro hss (And.intro hmu (And.intro hfu (And.intro ho7 (And.intro hf7 hg7)))))
                        clear hss hm1 hev hou hmu hfu ho7 hf7 hg7 hlt7
                        go_wp2_with (at_builtin; refine wpList_app rfl (.tmp 113) (.tmp 115) _ rfl rfl rfl _ rfl hrun ?_)
                        go_roundg (xl.length - (i + 1))
                        case measure => omega
                        case rel =>
                          obtain ⟨hss, hmu, hfu, ho7, hf7, hg7⟩ := HS.out
                          obtain ⟨hmq, hoq, hfq, hgq, hpi, hra⟩ := hHQ.out
                          have hz1 := hfq.size
                          have hz2 := hfu.size
                          refine ⟨i + 1, by omega, rfl, by simp, ?_, ?_, ?_, ?_⟩
                          · rw [hss]
                            exact (hmu.fr ((Fr.refl Non wu).alloc _) id).fr hf7 (fun e => hmq.ne_own hoq e)
                          · rw [hss]
                            have hie : ints (a :: st').reverse = ints st'.reverse ++ [Value.int .i64 a] := by simp [ints]
                            rw [hie]
                            exact ho7
                          · exact ((hfq.trans (hfu.mono fun _ _ h => Or.inl h)).alloc _).then hf7 (fun x hx e => by
                              rcases hgq x e with h | h
                              · exact Or.inr h
                              · omega)
                          · intro q' e
                            simp [Value.ownBlock] at e
                            subst e
                            rcases hg7 with h | h
                            · exact hgq _ h
                            · right
                              simp at h
                              omega
                    · have hii : i = xl.length := by omega
                      subst hii
                      rw [List.take_length] at hmq hoq
                      have hpe := meet_pot HN2.out.2 xl W st (fun a ha => HL.out.2.2.1 a ha) HK.out.1
                      have HE := Lib.hid (And.intro hmq (And.intro hoq (And.intro hfq (And.intro hgq hpe))))
                      have hll := HL.out.2.2.2
                      have hnlt : ¬ ((xl.length : Int) < (xl.length : Int)) := by omega
                      clear hmq hoq hfq hgq hpe
                      go_wp2_with fail
                      go_roundg k
                      case measure => omega
                      case rel =>
                        obtain ⟨hmq, hoq, hfq, hgq, hpe⟩ := HE.out
                        refine ⟨_, _, hmq, hoq, hpe.2, ⟨Nat.le_trans hpe.1 HK.out.2.1, HK.out.2.2.1⟩, HR4.out, ?_, ?_⟩
                        · exact (HX.out.2.2.2.2.2.1.trans HL.out.1).then hfq (fun x hx e => by
                            have := HK.out.2.2.2.2
                            rcases e with e | e <;> omega)
                        · intro q' e
                          have h1 := HK.out.2.2.2.2
                          have h2 := (HX.out.2.2.2.2.2.1.trans HL.out.1).size
                          rcases hgq q' e with h | h <;> omega
  · clear hu2
    go_enter Try.func69, Try.ntmps69
    go_wp2_with fail
    have rst : Row (u1.alloc (.cells #[.int .i64 0] 3)) u1.heap.size 3 [.int .i64 0] := Row.new' rfl
    have hfS : Fr Non u1 (u1.alloc (.cells #[.int .i64 0] 3)) := (Fr.refl _ _).alloc _
    have hmS := (HM.out.1).fr hfS id
    have hfwS := (HM.out.2.1).trans hfS
    have hoS : Own (u1.alloc (.cells #[.int .i64 0] 3)) (.slice (some ⟨u1.heap.size, 0, none⟩) 1 1) 3 1 1 [.int .i64 0] := Own.mk rst rfl (Nat.le_refl _) (by unfold maxLen; omega)
    have hsS : w.heap.size ≤ u1.heap.size := (HM.out.2.1).size
    generalize hgs : u1.heap.size = gs at *
    generalize u1.alloc (.cells #[.int .i64 0] 3) = V at *
    clear rst hfS hu1 d4
    go_loopg [4] (waysN f.length) (fun k v4 wr => ∃ W st, MapAt wr w.heap.size (mapU W) ∧ Own wr v4 3 1 st.length (ints st.reverse) ∧ MarksOk f.length W st ∧ (potS f.length W st ≤ k ∧ k ≤ waysN f.length) ∧ R = waysF f k W st ∧ Fr Non w wr ∧ (∀ g, v4.ownBlock = some g → w.heap.size ≤ g))
    case atStart =>
      refine ⟨[(0, 0)], [0], hmS, hoS, ⟨?_, ?_⟩, ⟨?_, Nat.le_refl _⟩, ?_, hfwS, fun g e => by simp [Value.ownBlock] at e; omega⟩
      · intro k v e
        rw [evOf_cons] at e
        split at e
        · cases e; exact ⟨by omega, by omega⟩
        · cases e
      · intro a ha
        simp at ha
        subst ha
        have := HH.out.2.1.pos
        omega
      · unfold potS waysN
        have := sumS_bound [(0, 0)] f.length
        simp only [List.length_cons, List.length_nil]
        omega
      · have := HH.out.2.2
        first | simpa using this | simpa [hk0] using this
    case round =>
      obtain ⟨W, st, hmp, hown, hmk, hpot, hRk, hfr, hgo⟩ := hrel
      cases st with
      | nil =>
        obtain ⟨ao, cap, rfl, _⟩ := hown.form
        have HX := Lib.hid (And.intro hRk hfr)
        clear hmp hown hmk hpot hRk hfr hgo hmS hoS hfwS
        go_wp2_with fail
        go_ret
        refine ⟨?_, HX.out.2⟩
        rw [HX.out.1]
        cases gk <;> rfl
      | cons at_ st =>
        obtain ⟨hat0, hat1⟩ := hmk.st at_ List.mem_cons_self
        obtain ⟨j, rfl⟩ := Int.eq_ofNat_of_zero_le hat0
        have hj : j < f.length := by omega
        obtain ⟨x, hx⟩ : ∃ x, f[j]? = some x := ⟨f[j], List.getElem?_eq_getElem hj⟩
        have hfx : f.getD ((j : Int)).toNat In.zero = x := by rw [Int.toNat_natCast, List.getD_eq_getElem?_getD, hx]; rfl
        obtain ⟨ib, iof, la, lc, e0, i0, i1, i2, i3, i4, i5⟩ := HI.out j x hx
        subst e0
        obtain ⟨hok1, hok2, hok3, hok4, hok5⟩ := HH.out.2.1.ok j x hx
        have hbig := HH.out.2.1.big
        have hstl : st.length + 1 ≤ 10000000 := by
          have h1 := hpot.1
          have h2 := hpot.2
          unfold potS at h1
          unfold waysN at h2
          simp only [List.length_cons] at h1
          omega
        obtain ⟨ao, cap, rfl, hcap, hmax, hpos, hodd⟩ := hown.form
        obtain ⟨g, rfl⟩ := hpos (by simp)
        have hcg : wr.cell? ⟨g, st.length, none⟩ = some (.int .i64 j) := hown.cell rfl (by simp [ints])
        simp only [List.length_cons] at hcap hown
        have hsl0 : (0 : Int) < (st.length : Int) + 1 := by omega
        have hsl1 : (0 : Int) ≤ (st.length : Int) := by omega
        have hsl2 : (st.length : Int) < (st.length : Int) + 1 := by omega
        have hsl3 : (st.length : Int) ≤ (cap : Int) := by omega
        have hsl4 : st.length ≤ cap := by omega
        have hsl5 : ¬ cap = 0 := by omega
        have hsl6 : ¬ 0 = cap := by omega
        have hw1 : IntKind.i64.wrap (st.length : Int) = (st.length : Int) := IntWalk.i64_in _ (by omega)
        have hj0 : (0 : Int) ≤ (j : Int) := by omega
        have hj1 : (j : Int) < (f.length : Int) := by omega
        have y0 := hfr.cell i0.2 id
        have y1 := hfr.cell i1.2 id
        have y2 := hfr.cell i2.2 id
        have y3 := hfr.cell i3.2 id
        have y4 := hfr.cell i4.2 id
        have d3 := hfr.cell c3 id
        have hla : ArgsAt w la x.l := fun i n hn => by
          obtain ⟨b, o, e, hc⟩ := i5 i n hn
          exact ⟨b, o, e, hc.2⟩
        have hibl := World.block_lt_of_cell? wr _ y0
        have hcr : c < wr.heap.size := World.block_lt_of_cell? wr _ d3
        have hmbl : w.heap.size < wr.heap.size := hmp.lt
        have hlk : ∀ g' : World, (Instr.lookup 161 (.map (some w.heap.size)) (.int .i64 j) false).run Try.prog (Mix2.upon wr [c, ib, w.heap.size] g') = .ok (.int .u32 ((evOf W (j : Int)).getD 0)) (Mix2.upon wr [c, ib, w.heap.size] g') := by
          intro g'
          have hmp' : MapAt (Mix2.upon wr [c, ib, w.heap.size] g') w.heap.size (mapU W) := by
            obtain ⟨es, clock, q1, q2, q3⟩ := hmp
            exact ⟨es, clock, (Mix2.upon_agree wr [c, ib, w.heap.size] g' _ (by simp)).trans q1, q2, q3⟩
          have := run_lookup_one (P := Try.prog) hmp' Try.underlying161 Try.underlying3 (.int .u32 0) (by kernel_rfl) (j : Int)
          rw [mfind_U] at this
          rw [this]
          cases evOf W (j : Int) <;> rfl
        obtain ⟨now, hnow⟩ : ∃ now, now = (evOf W (j : Int)).getD 0 := ⟨_, rfl⟩
        rw [← hnow] at hlk
        have hnow32 : In32 now := by
          rw [hnow]
          cases he : evOf W (j : Int) with
          | none => exact ⟨by simp, by simp⟩
          | some v => exact hmk.val _ _ he
        cases gk with
        | zero =>
          have h1 := hpot.1
          unfold potS at h1
          simp only [List.length_cons] at h1
          omega
        | succ k =>
          have hRk2 : R = if (readsS x).any (fun r => andU now (shlU r) == 0) then false else waysF f k (meetS W st (nowS x now) (nextS x (j : Int))).1 (meetS W st (nowS x now) (nextS x (j : Int))).2 := by
            rw [hRk, waysF_cons, hfx, ← hnow]
          have HX := Lib.hid (And.intro hmp (And.intro hown (And.intro hmk (And.intro hpot (And.intro hRk2 (And.intro hfr (And.intro hgo (And.intro hla (And.intro hok1 (And.intro hok2 (And.intro hok3 (And.intro hok4 (And.intro hok5 hnow32)))))))))))))
          clear hmp hown hmk hpot hRk hRk2 hfr hgo hla hok1 hok2 hok3 hok4 hok5 hmS hoS hfwS hx hfx i0 i1 i2 i3 i4 i5 hnow hnow32
          obtain ⟨xop, xa, xb, xc, xl⟩ := x
          simp only at y0 y1 y2 y3 y4
          have HLK := Lib.hid hlk
          clear hlk hpos hodd hmm HM c4 hkb hat0 hat1 hj hbig c3
          try clear hu2
          go_wp2_with fail
          have hlk := HLK.out
          have cW := @Mix2.cls_drew wr [c, ib, w.heap.size]
          refine Mix2.wp_region_mix [3, 6, 9] [(0, 0), (0, 1), (0, 2), (1, 3), (0, 4), (0, 5), (1, 6), (0, 7), (0, 8), (1, 9), (2, 10), (2, 11), (0, 12)] (fun U => ∃ g', U = Mix2.upon wr [c, ib, w.heap.size] g') (by kernel_rfl) (by kernel_rfl) cW ?_
          clear cW
          repeat (first | ((first | refine Mix2.S_pure rfl rfl ?_ | refine Mix2.S_load rfl rfl ?_); intro K hK; simp only [nA, nB, nC]; go_big_quiet_op; go_big_quiet_on) | refine Mix2.S_skip0 rfl rfl ?_ | refine Mix2.S_skip1 rfl rfl ?_)
          clear hlk
          refine Mix2.S_eff (o := _) rfl rfl ?_
          intro K hK
          simp only [nA, nB, nC]
          go_simp
          refine hK _ _ ⟨Mix2.cls_fr (D := Non) (by exact ((Fr.refl Non wr).alloc _).drew.drewl) (by simp [Non]; omega), ?_⟩
          clear hK K
          refine Mix2.S_eff (o := _) rfl rfl ?_
          intro K hK
          simp only [nA, nB, nC]
          go_simp
          refine hK _ _ ⟨Mix2.cls_fr (D := fun x => x = wr.heap.size) (by exact ((Fr.realloc _ _ _).drew).drewl) (by simp; omega), ?_⟩
          clear hK K
          repeat (first | ((first | refine Mix2.S_pure rfl rfl ?_ | refine Mix2.S_load rfl rfl ?_); intro K hK; simp only [nA, nB, nC]; go_big_quiet_op; go_big_quiet_on) | refine Mix2.S_skip0 rfl rfl ?_ | refine Mix2.S_skip1 rfl rfl ?_)
          refine Mix2.S_done ?_
          have rxZ : Row ((wr.alloc (.cells #[.int .i64 xop, .int .i64 xa, .int .i64 xb, .int .i64 xc, .slice la xl.length lc] 112)).drew) wr.heap.size 112 [.int .i64 xop, .int .i64 xa, .int .i64 xb, .int .i64 xc, .slice la xl.length lc] := Row.drew (Row.new' rfl)
          have hfZ : Fr Non wr ((wr.alloc (.cells #[.int .i64 xop, .int .i64 xa, .int .i64 xb, .int .i64 xc, .slice la xl.length lc] 112)).drew) := ((Fr.refl _ _).alloc _).drew
          generalize (wr.alloc (.cells #[.int .i64 xop, .int .i64 xa, .int .i64 xb, .int .i64 xc, .slice la xl.length lc] 112)).drew = Z at *
          obtain ⟨z0, z1, z2, z3, z4, zz⟩ := row5 rxZ
          have HZ := Lib.hid (And.intro hfZ rxZ)
          clear hfZ rxZ y0 y1 y2 y3 y4 d3 hcg
          go_wp2_with fail
          refine (reads_c Z ⟨xop, xa, xb, xc, xl⟩ la lc).mono ?_
          rintro e1 w1 ⟨v, rfl, ho1, hv1, hf1⟩
          obtain ⟨rao, rcap, rfl, _, _, hrp, hodd⟩ := ho1.form
          clear hodd
          have H1 := Lib.hid (And.intro ho1 (And.intro hv1 (And.intro (HZ.out.1.trans hf1) (And.intro (hf1.row HZ.out.2 id) hrp))))
          clear ho1 hv1 hf1 z0 z1 z2 z3 z4 zz hrp
          go_wp2_with fail
          go_loopg [53] (readsS ⟨xop, xa, xb, xc, xl⟩).length (fun q v53 wq => wq = w1 ∧ ∃ i : Nat, i ≤ (readsS ⟨xop, xa, xb, xc, xl⟩).length ∧ q = (readsS ⟨xop, xa, xb, xc, xl⟩).length - i ∧ v53 = .int .i64 i ∧ ∀ t, t < i → ∀ n, (readsS ⟨xop, xa, xb, xc, xl⟩)[t]? = some n → andU now (shlU n) ≠ 0)
          case atStart => exact ⟨rfl, 0, Nat.zero_le _, rfl, rfl, fun t ht => by omega⟩
          case round =>
            obtain ⟨rfl, i, hi, rfl, rfl, hall⟩ := hrel
            by_cases hil : i < (readsS ⟨xop, xa, xb, xc, xl⟩).length
            · have hget := List.getElem?_eq_getElem hil
              have hi0 : (0 : Int) ≤ (i : Int) := by omega
              have hi1 : (i : Int) < ((readsS ⟨xop, xa, xb, xc, xl⟩).length : Int) := by omega
              obtain ⟨rg, rfl⟩ := H1.out.2.2.2.2 (by omega)
              have hcell := H1.out.1.cell rfl (show (ints (readsS ⟨xop, xa, xb, xc, xl⟩))[i]? = some (.int .i64 (readsS ⟨xop, xa, xb, xc, xl⟩)[i]) by simp [ints, hget])
              have hrr := HX.out.2.2.2.2.2.2.2.2.1 _ (List.getElem_mem hil)
              generalize hrn : (readsS ⟨xop, xa, xb, xc, xl⟩)[i] = rn at *
              obtain ⟨rm, rfl⟩ := Int.eq_ofNat_of_zero_le hrr.1
              have hrm0 : (0 : Int) ≤ (rm : Int) := by omega
              have hsh : shlU (rm : Int) = 2 ^ rm % 4294967296 := by unfold shlU; rw [Int.toNat_natCast]
              have hbb : andU now (shlU (rm : Int)) = bits .and .u32 now (2 ^ rm % 4294967296) := by rw [hsh]; rfl
              cases hb : (bits .and .u32 now (2 ^ rm % 4294967296) == 0) with
              | true =>
                have HB := Lib.hid (And.intro hbb (And.intro hget hb))
                clear hbb hget hrn hsh hall
                go_wp2_with fail
                go_ret
                refine ⟨?_, HX.out.2.2.2.2.2.1.trans H1.out.2.2.1⟩
                have hR3 := HX.out.2.2.2.2.1
                rw [if_pos (List.any_eq_true.2 ⟨(rm : Int), List.mem_of_getElem? HB.out.2.1, by rw [HB.out.1]; exact HB.out.2.2⟩)] at hR3
                rw [hR3]
                rfl
              | false =>
                have HB := Lib.hid (And.intro hbb (And.intro hget (And.intro hb hall)))
                clear hbb hget hrn hsh hall
                have hwi : IntKind.i64.wrap ((i : Int) + 1) = (i : Int) + 1 := IntWalk.i64_in _ (by have := reads_len ⟨xop, xa, xb, xc, xl⟩; omega)
                go_wp2_with fail
                go_roundg ((readsS ⟨xop, xa, xb, xc, xl⟩).length - (i + 1))
                case measure => omega
                case rel =>
                  refine ⟨rfl, i + 1, by omega, rfl, by simp, ?_⟩
                  intro t ht n hn
                  rcases Nat.lt_succ_iff_lt_or_eq.1 ht with h | rfl
                  · exact HB.out.2.2.2 t h n hn
                  · rw [HB.out.2.1] at hn
                    cases hn
                    rw [HB.out.1]
                    intro e
                    have := HB.out.2.2.1
                    rw [e] at this
                    simp at this
            · have hii : i = (readsS ⟨xop, xa, xb, xc, xl⟩).length := by omega
              subst hii
              have hany : ((readsS ⟨xop, xa, xb, xc, xl⟩).any fun r => andU now (shlU r) == 0) = false := by
                rw [List.any_eq_false]
                intro n hn
                obtain ⟨t, ht, rfl⟩ := List.getElem_of_mem hn
                have := hall t ht _ (List.getElem?_eq_getElem ht)
                simpa using this
              have hR3 := HX.out.2.2.2.2.1
              rw [hany, if_neg (by simp)] at hR3
              have HR3 := Lib.hid hR3
              clear hR3 hany hall
              obtain ⟨z0, z1, z2, z3, z4, zz⟩ := row5 H1.out.2.2.2.1
              go_wp2_with fail
              refine (writes_c _ ⟨xop, xa, xb, xc, xl⟩ la lc).mono ?_
              rintro e1 w2 ⟨rfl, hf2⟩
              have hw2 := HX.out.2.2.2.2.2.2.2.2.2.1
              have H2 := Lib.hid (And.intro hf2 (hf2.row H1.out.2.2.2.1 id))
              clear z0 z1 z2 z3 z4 zz hf2
              obtain ⟨z0, z1, z2, z3, z4, zz⟩ := row5 H2.out.2
              have hnS : nowS ⟨xop, xa, xb, xc, xl⟩ now = if (writesS ⟨xop, xa, xb, xc, xl⟩).2 then orU now (shlU (writesS ⟨xop, xa, xb, xc, xl⟩).1) else now := rfl
              generalize writesS ⟨xop, xa, xb, xc, xl⟩ = ws at *
              obtain ⟨wi, wb⟩ := ws
              simp only at hw2 hnS
              cases wb with
              | true =>
                obtain ⟨wm, rfl⟩ := Int.eq_ofNat_of_zero_le (hw2 rfl).1
                have hwm := (hw2 rfl).2
                have hwm0 : (0 : Int) ≤ (wm : Int) := by omega
                have hsh : shlU (wm : Int) = 2 ^ wm % 4294967296 := by unfold shlU; rw [Int.toNat_natCast]
                rw [if_pos rfl, hsh] at hnS
                have hn32 : In32 (nowS ⟨xop, xa, xb, xc, xl⟩ now) := by rw [hnS]; exact orU_in _ _
                have hnS2 : nowS ⟨xop, xa, xb, xc, xl⟩ now = bits .or .u32 now (2 ^ wm % 4294967296) := hnS
                have HN := Lib.hid (And.intro hnS2 hn32)
                clear hnS hnS2 hn32 hsh hw2
                go_wp2_with fail
                rw [← HN.out.1]
                generalize hnn : nowS ⟨xop, xa, xb, xc, xl⟩ now = now' at *
                have HN2 := Lib.hid (And.intro hnn HN.out.2)
                have HR4 := Lib.hid HR3.out
                clear HN hnn hwm hwm0 HR3
                refine (falls_c _ ⟨xop, xa, xb, xc, xl⟩ la lc).mono ?_
                rintro e1 w3 ⟨rfl, hf3⟩
                have hO3 := (H1.out.2.2.1.trans H2.out.1).trans hf3
                have H3 := Lib.hid (And.intro hO3 (hf3.row H2.out.2 id))
                clear hf3 hO3 z0 z1 z2 z3 z4 zz
                have hok4 := HX.out.2.2.2.2.2.2.2.2.2.2.2.1
                have hnx : nextS ⟨xop, xa, xb, xc, xl⟩ (j : Int) = if fallsS xop then xl ++ [(j : Int) + 1] else xl := rfl
                have hR4 := HR4.out
                rw [hnx] at hR4
                clear hnx HR4
                cases hfl : fallsS xop with
                | true =>
                  rw [hfl] at hok4 hR4
                  rw [if_pos rfl] at hR4
                  have hj2 := hok4 rfl
                  have HR4 := Lib.hid hR4
                  clear hR4 hok4 hfl
                  have hwj : IntKind.i64.wrap ((j : Int) + 1) = (j : Int) + 1 := IntWalk.i64_in _ (by have := HH.out.2.1.big; omega)
                  have hla3 : ArgsAt w3 la xl := (HX.out.2.2.2.2.2.2.2.1.fr HX.out.2.2.2.2.2.1 (fun _ _ _ h => h)).fr H3.out.1 (fun _ _ _ h => h)
                  have hz3 : la = none → xl = [] := fun e => by
                    cases xl with
                    | nil => rfl
                    | cons y l =>
                      obtain ⟨b, o, e2, _⟩ := hla3 0 y rfl
                      rw [e] at e2
                      cases e2
                  have hC := Lib.hid (clone_c w3 xl la lc hla3 hz3 HX.out.2.2.2.2.2.2.2.2.2.2.2.2.1)
                  obtain ⟨z0, z1, z2, z3, z4, zz⟩ := row5 H3.out.2
                  clear hla3 hz3
                  go_wp2_with fail
                  refine hC.out.mono ?_
                  rintro e1 w4 ⟨cv, rfl, ho4, hn4, hf4⟩
                  obtain ⟨cao, ccap, rfl, hodd1, hodd2, hodd3, hodd4⟩ := ho4.form
                  clear hodd1 hodd2 hodd3 hodd4
                  obtain ⟨ng, ncap, w5, hrun, ho5, hf5, hg5, hlt5⟩ := run_app (P := Try.prog) (w := w4.alloc (.cells #[.int .i64 ((j : Int) + 1)] 3)) (ho4.fr ((Fr.refl Non w4).alloc _) (fun _ _ h => h)) 34 34 q0 _ 8 Try.underlying34 hq0 hqa hqb hqc rfl (by omega) w4.heap.size 0 1 1 [.int .i64 ((j : Int) + 1)] rfl (by exact (Row.new' rfl).news) (fun u hu => by simp at hu; subst hu; rfl) (by omega) (by have := HX.out.2.2.2.2.2.2.2.2.2.2.2.2.1; omega) (by have := HX.out.2.2.2.2.2.2.2.2.2.2.2.2.1; unfold maxLen; omega)
                  have hs3 : g < w3.heap.size := by
                    have h1 := HX.out.2.1.lt (g := g) rfl
                    have h2 := H3.out.1.size
                    omega
                  have hf35 : Fr Non w3 w5 := (hf4.alloc _).then hf5 (fun x hx e => by have := hn4 x e; omega)
                  have hng : w3.heap.size ≤ ng := by
                    rcases hg5 with h | h
                    · exact hn4 _ h
                    · have := hf4.size; simp at h; omega
                  have hOX := H3.out.1.trans hf35
                  have hNX : ∀ (i : Nat) (n : Int), (xl ++ [(j : Int) + 1])[i]? = some n → ∃ b o, (some ⟨ng, 0, none⟩ : Option Addr) = some ⟨b, o, none⟩ ∧ w5.cell? ⟨b, o + i, none⟩ = some (.int .i64 n) ∧ b ≠ w.heap.size ∧ b ≠ g := by
                    intro i n hn
                    refine ⟨ng, 0, rfl, ?_, ?_, by omega⟩
                    · rw [Nat.zero_add]
                      refine ho5.cell rfl ?_
                      have : ints xl ++ [Value.int .i64 ((j : Int) + 1)] = ints (xl ++ [(j : Int) + 1]) := by simp [ints]
                      rw [this]
                      unfold ints
                      rw [List.getElem?_map, hn]
                      rfl
                    · intro e
                      exact (HX.out.1.fr hOX id).ne_own ho5 (by rw [← e]; rfl)
                  have hnr : ∀ a ∈ xl ++ [(j : Int) + 1], 0 ≤ a ∧ a < (f.length : Int) := by
                    intro a ha
                    rcases List.mem_append.1 ha with ha | ha
                    · exact HX.out.2.2.2.2.2.2.2.2.2.2.1 a ha
                    · simp at ha
                      subst ha
                      omega
                  have hnl : (xl ++ [(j : Int) + 1]).length = xl.length + 1 := by simp
                  have HL := Lib.hid (And.intro hOX (And.intro hNX (And.intro hnr hnl)))
                  clear ho4 hn4 hf4 ho5 hf5 hg5 hf35 hNX hnr hOX
                  go_wp2_with (at_builtin; refine wpList_app rfl (.tmp 79) (.tmp 82) _ rfl rfl rfl _ rfl hrun ?_)
                  clear hrun z0 z1 z2 z3 z4 zz
                  generalize (xl ++ [(j : Int) + 1]) = nx at *
                  have hmpX := HX.out.1.fr HL.out.1 id
                  have hownX : Own w5 (.slice (some ⟨g, 0, none⟩) st.length cap) 3 1 st.length (ints st.reverse) := (Own.pop1 (cs := ints st.reverse) (v := .int .i64 j) (by have := HX.out.2.1; simpa [ints] using this) (by simp [ints])).fr HL.out.1 (fun _ _ h => h)
                  have hmkX : MarksOk f.length W st := ⟨HX.out.2.2.1.val, fun a ha => HX.out.2.2.1.st a (List.mem_cons_of_mem _ ha)⟩
                  have hpotX : potS f.length W st ≤ k := by
                    have := HX.out.2.2.2.1.1
                    unfold potS at this ⊢
                    simp only [List.length_cons] at this
                    omega
                  have hkX : k ≤ waysN f.length := by have := HX.out.2.2.2.1.2; omega
                  have hsX : g < w5.heap.size ∧ w.heap.size ≤ g := ⟨by have h1 := HX.out.2.1.lt (g := g) rfl; have h2 := HL.out.1.size; omega, HX.out.2.2.2.2.2.2.1 g rfl⟩
                  have HK := Lib.hid (And.intro hmkX (And.intro hpotX (And.intro hkX hsX)))
                  clear hmkX hpotX hkX hsX
                  go_loopg [4, 86] nx.length (fun q v4 v86 wq => ∃ i : Nat, i ≤ nx.length ∧ q = nx.length - i ∧ v86 = .int .i64 i ∧ MapAt wq w.heap.size (mapU (meetS W st now' (nx.take i)).1) ∧ Own wq v4 3 1 (meetS W st now' (nx.take i)).2.length (ints (meetS W st now' (nx.take i)).2.reverse) ∧ Fr (fun x => x = w.heap.size ∨ x = g) w5 wq ∧ (∀ q', v4.ownBlock = some q' → q' = g ∨ w5.heap.size ≤ q'))
                  case atStart => exact ⟨0, Nat.zero_le _, rfl, rfl, hmpX, hownX, Fr.refl _ _, fun q' e => by simp [Value.ownBlock] at e; exact Or.inl e.symm⟩
                  case round =>
                    obtain ⟨i, hi, rfl, rfl, hmq, hoq, hfq, hgq⟩ := hrel
                    by_cases hil : i < nx.length
                    · have hget := List.getElem?_eq_getElem hil
                      have hss : meetS W st now' (nx.take (i + 1)) = meetS (meetS W st now' (nx.take i)).1 (meetS W st now' (nx.take i)).2 now' [nx[i]] := by rw [List.take_succ_eq_append_getElem hil, meetS_snoc]
                      have hpi := meet_pot HN2.out.2 (nx.take i) W st (fun a ha => HL.out.2.2.1 a (List.mem_of_mem_take ha)) HK.out.1
                      have hra := HL.out.2.2.1 _ (List.getElem_mem hil)
                      obtain ⟨ab, ao', e, hc, hne1, hne2⟩ := HL.out.2.1 i _ hget
                      generalize meetS W st now' (nx.take i) = Ws at *
                      obtain ⟨W', st'⟩ := Ws
                      simp only at hmq hoq hss hpi
                      generalize nx[i] = a at *
                      have hcq := hfq.cell hc (by simp [hne1, hne2])
                      (first | subst e | cases e)
                      try simp only [Nat.zero_add] at hcq
                      have ha0 : (0 : Int) ≤ (i : Int) := by omega
                      have hll := HL.out.2.2.2
                      have hia : (i : Int) < (xl.length : Int) + 1 := by omega
                      have hst' : st'.length + 1 ≤ 10000000 := by
                        have h1 := hpi.1
                        have h2 := HK.out.2.1
                        have h3 := HK.out.2.2.1
                        have h4 := HH.out.2.1.big
                        unfold potS at h1
                        unfold potS at h2
                        unfold waysN at h3
                        omega
                      have hwi : IntKind.i64.wrap ((i : Int) + 1) = (i : Int) + 1 := IntWalk.i64_in _ (by have := HX.out.2.2.2.2.2.2.2.2.2.2.2.2.1; have := HL.out.2.2.2; omega)
                      have hlk := run_lookup_ok (P := Try.prog) hmq Try.underlying161 Try.underlying3 (.int .u32 0) (by kernel_rfl) a
                      rw [mfind_U] at hlk
                      have hmbq := hmq.lt
                      have hHQ := Lib.hid (And.intro hmq (And.intro hoq (And.intro hfq (And.intro hgq (And.intro hpi hra)))))
                      clear hmq hoq hfq hgq hpi hra hc hne1 hne2 hget hll
                      cases hev : evOf W' a with
                      | some was =>
                        rw [hev] at hlk
                        simp only [Option.map_some, Option.getD_some, Option.isSome_some] at hlk
                        have hm1 : meetS W' st' now' [a] = if andU was now' == was then (W', st') else (setS W' a (andU was now'), a :: st') := by
                          unfold meetS
                          rw [hev]
                          simp only
                          split <;> rfl
                        cases hb : (bits .and .u32 was now' == was) with
                        | true =>
                          rw [hm1, if_pos (by exact hb)] at hss
                          have HS := Lib.hid hss
                          clear hss hm1 hev
                          go_wp2_with fail
                          go_roundg (nx.length - (i + 1))
                          case measure => omega
                          case rel =>
                            obtain ⟨hmq, hoq, hfq, hgq, _⟩ := hHQ.out
                            refine ⟨i + 1, by omega, rfl, by simp, ?_, ?_, hfq, hgq⟩
                            · rw [HS.out]; exact hmq
                            · rw [HS.out]; exact hoq
                        | false =>
                          rw [hm1, if_neg (by rw [show andU was now' = bits .and .u32 was now' from rfl, hb]; simp)] at hss
                          obtain ⟨wu, hup, hmu, hfu⟩ := run_update_map (P := Try.prog) hHQ.out.1 Try.underlying161 Try.underlying3 a (.int .u32 (bits .and .u32 was now'))
                          rw [mset_U] at hmu
                          have hou := hHQ.out.2.1.fr hfu (fun q' hq' e => hHQ.out.1.ne_own hHQ.out.2.1 (e ▸ hq'))
                          obtain ⟨sg, scap, w7, hrun, ho7, hf7, hg7, hlt7⟩ := run_app (P := Try.prog) (w := wu.alloc (.cells #[.int .i64 a] 3)) (hou.fr ((Fr.refl Non wu).alloc _) (fun _ _ h => h)) 34 34 q0 _ 8 Try.underlying34 hq0 hqa hqb hqc rfl (by omega) wu.heap.size 0 1 1 [.int .i64 a] rfl (by exact (Row.new' rfl).news) (fun u hu => by simp at hu; subst hu; rfl) (by omega) (by omega) (by unfold maxLen; omega)
                          have HS := Lib.hid (And.intro hss (And.intro hmu (And.intro hfu (And.intro ho7 (And.intro hf7 hg7)))))
                          clear hss hm1 hev hou hmu hfu ho7 hf7 hg7 hlt7
                          go_wp2_with (at_builtin; refine wpList_app rfl (.tmp 113) (.tmp 115) _ rfl rfl rfl _ rfl hrun ?_)
                          go_roundg (nx.length - (i + 1))
                          case measure => omega
                          case rel =>
                            obtain ⟨hss, hmu, hfu, ho7, hf7, hg7⟩ := HS.out
                            obtain ⟨hmq, hoq, hfq, hgq, hpi, hra⟩ := hHQ.out
                            have hz1 := hfq.size
                            have hz2 := hfu.size
                            refine ⟨i + 1, by omega, rfl, by simp, ?_, ?_, ?_, ?_⟩
                            · rw [hss]
                              exact (hmu.fr ((Fr.refl Non wu).alloc _) id).fr hf7 (fun e => hmq.ne_own hoq e)
                            · rw [hss]
                              have hie : ints (a :: st').reverse = ints st'.reverse ++ [Value.int .i64 a] := by simp [ints]
                              rw [hie]
                              exact ho7
                            · exact ((hfq.trans (hfu.mono fun _ _ h => Or.inl h)).alloc _).then hf7 (fun x hx e => by
                                rcases hgq x e with h | h
                                · exact Or.inr h
                                · omega)
                            · intro q' e
                              simp [Value.ownBlock] at e
                              subst e
                              rcases hg7 with h | h
                              · exact hgq _ h
                              · right
                                simp at h
                                omega
                      | none =>
                        rw [hev] at hlk
                        simp only [Option.map_none, Option.getD_none, Option.isSome_none] at hlk
                        have hm1 : meetS W' st' now' [a] = (setS W' a now', a :: st') := by
                          unfold meetS
                          rw [hev]
                          rfl
                        rw [hm1] at hss
                        obtain ⟨wu, hup, hmu, hfu⟩ := run_update_map (P := Try.prog) hHQ.out.1 Try.underlying161 Try.underlying3 a (.int .u32 now')
                        rw [mset_U] at hmu
                        have hou := hHQ.out.2.1.fr hfu (fun q' hq' e => hHQ.out.1.ne_own hHQ.out.2.1 (e ▸ hq'))
                        obtain ⟨sg, scap, w7, hrun, ho7, hf7, hg7, hlt7⟩ := run_app (P := Try.prog) (w := wu.alloc (.cells #[.int .i64 a] 3)) (hou.fr ((Fr.refl Non wu).alloc _) (fun _ _ h => h)) 34 34 q0 _ 8 Try.underlying34 hq0 hqa hqb hqc rfl (by omega) wu.heap.size 0 1 1 [.int .i64 a] rfl (by exact (Row.new' rfl).news) (fun u hu => by simp at hu; subst hu; rfl) (by omega) (by omega) (by unfold maxLen; omega)
                        have HS := Lib.hid (And.intro hss (And.intro hmu (And.intro hfu (And.intro ho7 (And.intro hf7 hg7)))))
                        clear hss hm1 hev hou hmu hfu ho7 hf7 hg7 hlt7
                        go_wp2_with (at_builtin; refine wpList_app rfl (.tmp 113) (.tmp 115) _ rfl rfl rfl _ rfl hrun ?_)
                        go_roundg (nx.length - (i + 1))
                        case measure => omega
                        case rel =>
                          obtain ⟨hss, hmu, hfu, ho7, hf7, hg7⟩ := HS.out
                          obtain ⟨hmq, hoq, hfq, hgq, hpi, hra⟩ := hHQ.out
                          have hz1 := hfq.size
                          have hz2 := hfu.size
                          refine ⟨i + 1, by omega, rfl, by simp, ?_, ?_, ?_, ?_⟩
                          · rw [hss]
                            exact (hmu.fr ((Fr.refl Non wu).alloc _) id).fr hf7 (fun e => hmq.ne_own hoq e)
                          · rw [hss]
                            have hie : ints (a :: st').reverse = ints st'.reverse ++ [Value.int .i64 a] := by simp [ints]
                            rw [hie]
                            exact ho7
                          · exact ((hfq.trans (hfu.mono fun _ _ h => Or.inl h)).alloc _).then hf7 (fun x hx e => by
                              rcases hgq x e with h | h
                              · exact Or.inr h
                              · omega)
                          · intro q' e
                            simp [Value.ownBlock] at e
                            subst e
                            rcases hg7 with h | h
                            · exact hgq _ h
                            · right
                              simp at h
                              omega
                    · have hii : i = nx.length := by omega
                      subst hii
                      rw [List.take_length] at hmq hoq
                      have hpe := meet_pot HN2.out.2 nx W st (fun a ha => HL.out.2.2.1 a ha) HK.out.1
                      have HE := Lib.hid (And.intro hmq (And.intro hoq (And.intro hfq (And.intro hgq hpe))))
                      have hll := HL.out.2.2.2
                      have hnlt : ¬ ((nx.length : Int) < (xl.length : Int) + 1) := by omega
                      clear hmq hoq hfq hgq hpe
                      go_wp2_with fail
                      go_roundg k
                      case measure => omega
                      case rel =>
                        obtain ⟨hmq, hoq, hfq, hgq, hpe⟩ := HE.out
                        refine ⟨_, _, hmq, hoq, hpe.2, ⟨Nat.le_trans hpe.1 HK.out.2.1, HK.out.2.2.1⟩, HR4.out, ?_, ?_⟩
                        · exact (HX.out.2.2.2.2.2.1.trans HL.out.1).then hfq (fun x hx e => by
                            have := HK.out.2.2.2.2
                            rcases e with e | e <;> omega)
                        · intro q' e
                          have h1 := HK.out.2.2.2.2
                          have h2 := (HX.out.2.2.2.2.2.1.trans HL.out.1).size
                          rcases hgq q' e with h | h <;> omega
                | false =>
                  rw [hfl] at hR4
                  rw [if_neg (by simp)] at hR4
                  have HR4 := Lib.hid hR4
                  clear hR4 hok4 hfl
                  have hOX := H3.out.1
                  have hNX : ∀ (i : Nat) (n : Int), xl[i]? = some n → ∃ b o, la = some ⟨b, o, none⟩ ∧ w3.cell? ⟨b, o + i, none⟩ = some (.int .i64 n) ∧ b ≠ w.heap.size ∧ b ≠ g := by
                    intro i n hn
                    obtain ⟨b, o, e, hc⟩ := HX.out.2.2.2.2.2.2.2.1 i n hn
                    have hbw := World.block_lt_of_cell? w _ hc
                    have hgw := HX.out.2.2.2.2.2.2.1 g rfl
                    simp only at hbw
                    exact ⟨b, o, e, (HX.out.2.2.2.2.2.1.trans hOX).cell hc id, by omega, by omega⟩
                  have hnr : ∀ a ∈ xl, 0 ≤ a ∧ a < (f.length : Int) := HX.out.2.2.2.2.2.2.2.2.2.2.1
                  have hnl : xl.length = xl.length := rfl
                  obtain ⟨z0, z1, z2, z3, z4, zz⟩ := row5 H3.out.2
                  have HL := Lib.hid (And.intro hOX (And.intro hNX (And.intro hnr hnl)))
                  clear hNX hnr hOX hnl
                  go_wp2_with fail
                  clear z0 z1 z2 z3 z4 zz
                  have hmpX := HX.out.1.fr HL.out.1 id
                  have hownX : Own w3 (.slice (some ⟨g, 0, none⟩) st.length cap) 3 1 st.length (ints st.reverse) := (Own.pop1 (cs := ints st.reverse) (v := .int .i64 j) (by have := HX.out.2.1; simpa [ints] using this) (by simp [ints])).fr HL.out.1 (fun _ _ h => h)
                  have hmkX : MarksOk f.length W st := ⟨HX.out.2.2.1.val, fun a ha => HX.out.2.2.1.st a (List.mem_cons_of_mem _ ha)⟩
                  have hpotX : potS f.length W st ≤ k := by
                    have := HX.out.2.2.2.1.1
                    unfold potS at this ⊢
                    simp only [List.length_cons] at this
                    omega
                  have hkX : k ≤ waysN f.length := by have := HX.out.2.2.2.1.2; omega
                  have hsX : g < w3.heap.size ∧ w.heap.size ≤ g := ⟨by have h1 := HX.out.2.1.lt (g := g) rfl; have h2 := HL.out.1.size; omega, HX.out.2.2.2.2.2.2.1 g rfl⟩
                  have HK := Lib.hid (And.intro hmkX (And.intro hpotX (And.intro hkX hsX)))
                  clear hmkX hpotX hkX hsX
                  go_loopg [4, 86] xl.length (fun q v4 v86 wq => ∃ i : Nat, i ≤ xl.length ∧ q = xl.length - i ∧ v86 = .int .i64 i ∧ MapAt wq w.heap.size (mapU (meetS W st now' (xl.take i)).1) ∧ Own wq v4 3 1 (meetS W st now' (xl.take i)).2.length (ints (meetS W st now' (xl.take i)).2.reverse) ∧ Fr (fun x => x = w.heap.size ∨ x = g) w3 wq ∧ (∀ q', v4.ownBlock = some q' → q' = g ∨ w3.heap.size ≤ q'))
                  case atStart => exact ⟨0, Nat.zero_le _, rfl, rfl, hmpX, hownX, Fr.refl _ _, fun q' e => by simp [Value.ownBlock] at e; exact Or.inl e.symm⟩
                  case round =>
                    obtain ⟨i, hi, rfl, rfl, hmq, hoq, hfq, hgq⟩ := hrel
                    by_cases hil : i < xl.length
                    · have hget := List.getElem?_eq_getElem hil
                      have hss : meetS W st now' (xl.take (i + 1)) = meetS (meetS W st now' (xl.take i)).1 (meetS W st now' (xl.take i)).2 now' [xl[i]] := by rw [List.take_succ_eq_append_getElem hil, meetS_snoc]
                      have hpi := meet_pot HN2.out.2 (xl.take i) W st (fun a ha => HL.out.2.2.1 a (List.mem_of_mem_take ha)) HK.out.1
                      have hra := HL.out.2.2.1 _ (List.getElem_mem hil)
                      obtain ⟨ab, ao', e, hc, hne1, hne2⟩ := HL.out.2.1 i _ hget
                      generalize meetS W st now' (xl.take i) = Ws at *
                      obtain ⟨W', st'⟩ := Ws
                      simp only at hmq hoq hss hpi
                      generalize xl[i] = a at *
                      have hcq := hfq.cell hc (by simp [hne1, hne2])
                      (first | subst e | cases e)
                      try simp only [Nat.zero_add] at hcq
                      have ha0 : (0 : Int) ≤ (i : Int) := by omega
                      have hll := HL.out.2.2.2
                      have hia : (i : Int) < (xl.length : Int) := by omega
                      have hst' : st'.length + 1 ≤ 10000000 := by
                        have h1 := hpi.1
                        have h2 := HK.out.2.1
                        have h3 := HK.out.2.2.1
                        have h4 := HH.out.2.1.big
                        unfold potS at h1
                        unfold potS at h2
                        unfold waysN at h3
                        omega
                      have hwi : IntKind.i64.wrap ((i : Int) + 1) = (i : Int) + 1 := IntWalk.i64_in _ (by have := HX.out.2.2.2.2.2.2.2.2.2.2.2.2.1; have := HL.out.2.2.2; omega)
                      have hlk := run_lookup_ok (P := Try.prog) hmq Try.underlying161 Try.underlying3 (.int .u32 0) (by kernel_rfl) a
                      rw [mfind_U] at hlk
                      have hmbq := hmq.lt
                      have hHQ := Lib.hid (And.intro hmq (And.intro hoq (And.intro hfq (And.intro hgq (And.intro hpi hra)))))
                      clear hmq hoq hfq hgq hpi hra hc hne1 hne2 hget hll
                      cases hev : evOf W' a with
                      | some was =>
                        rw [hev] at hlk
                        simp only [Option.map_some, Option.getD_some, Option.isSome_some] at hlk
                        have hm1 : meetS W' st' now' [a] = if andU was now' == was then (W', st') else (setS W' a (andU was now'), a :: st') := by
                          unfold meetS
                          rw [hev]
                          simp only
                          split <;> rfl
                        cases hb : (bits .and .u32 was now' == was) with
                        | true =>
                          rw [hm1, if_pos (by exact hb)] at hss
                          have HS := Lib.hid hss
                          clear hss hm1 hev
                          go_wp2_with fail
                          go_roundg (xl.length - (i + 1))
                          case measure => omega
                          case rel =>
                            obtain ⟨hmq, hoq, hfq, hgq, _⟩ := hHQ.out
                            refine ⟨i + 1, by omega, rfl, by simp, ?_, ?_, hfq, hgq⟩
                            · rw [HS.out]; exact hmq
                            · rw [HS.out]; exact hoq
                        | false =>
                          rw [hm1, if_neg (by rw [show andU was now' = bits .and .u32 was now' from rfl, hb]; simp)] at hss
                          obtain ⟨wu, hup, hmu, hfu⟩ := run_update_map (P := Try.prog) hHQ.out.1 Try.underlying161 Try.underlying3 a (.int .u32 (bits .and .u32 was now'))
                          rw [mset_U] at hmu
                          have hou := hHQ.out.2.1.fr hfu (fun q' hq' e => hHQ.out.1.ne_own hHQ.out.2.1 (e ▸ hq'))
                          obtain ⟨sg, scap, w7, hrun, ho7, hf7, hg7, hlt7⟩ := run_app (P := Try.prog) (w := wu.alloc (.cells #[.int .i64 a] 3)) (hou.fr ((Fr.refl Non wu).alloc _) (fun _ _ h => h)) 34 34 q0 _ 8 Try.underlying34 hq0 hqa hqb hqc rfl (by omega) wu.heap.size 0 1 1 [.int .i64 a] rfl (by exact (Row.new' rfl).news) (fun u hu => by simp at hu; subst hu; rfl) (by omega) (by omega) (by unfold maxLen; omega)
                          have HS := Lib.hid (And.intro hss (And.intro hmu (And.intro hfu (And.intro ho7 (And.intro hf7 hg7)))))
                          clear hss hm1 hev hou hmu hfu ho7 hf7 hg7 hlt7
                          go_wp2_with (at_builtin; refine wpList_app rfl (.tmp 113) (.tmp 115) _ rfl rfl rfl _ rfl hrun ?_)
                          go_roundg (xl.length - (i + 1))
                          case measure => omega
                          case rel =>
                            obtain ⟨hss, hmu, hfu, ho7, hf7, hg7⟩ := HS.out
                            obtain ⟨hmq, hoq, hfq, hgq, hpi, hra⟩ := hHQ.out
                            have hz1 := hfq.size
                            have hz2 := hfu.size
                            refine ⟨i + 1, by omega, rfl, by simp, ?_, ?_, ?_, ?_⟩
                            · rw [hss]
                              exact (hmu.fr ((Fr.refl Non wu).alloc _) id).fr hf7 (fun e => hmq.ne_own hoq e)
                            · rw [hss]
                              have hie : ints (a :: st').reverse = ints st'.reverse ++ [Value.int .i64 a] := by simp [ints]
                              rw [hie]
                              exact ho7
                            · exact ((hfq.trans (hfu.mono fun _ _ h => Or.inl h)).alloc _).then hf7 (fun x hx e => by
                                rcases hgq x e with h | h
                                · exact Or.inr h
                                · omega)
                            · intro q' e
                              simp [Value.ownBlock] at e
                              subst e
                              rcases hg7 with h | h
                              · exact hgq _ h
                              · right
                                simp at h
                                omega
                      | none =>
                        rw [hev] at hlk
                        simp only [Option.map_none, Option.getD_none, Option.isSome_none] at hlk
                        have hm1 : meetS W' st' now' [a] = (setS W' a now', a :: st') := by
                          unfold meetS
                          rw [hev]
                          rfl
                        rw [hm1] at hss
                        obtain ⟨wu, hup, hmu, hfu⟩ := run_update_map (P := Try.prog) hHQ.out.1 Try.underlying161 Try.underlying3 a (.int .u32 now')
                        rw [mset_U] at hmu
                        have hou := hHQ.out.2.1.fr hfu (fun q' hq' e => hHQ.out.1.ne_own hHQ.out.2.1 (e ▸ hq'))
                        obtain ⟨sg, scap, w7, hrun, ho7, hf7, hg7, hlt7⟩ := run_app (P := Try.prog) (w := wu.alloc (.cells #[.int .i64 a] 3)) (hou.fr ((Fr.refl Non wu).alloc _) (fun _ _ h => h)) 34 34 q0 _ 8 Try.underlying34 hq0 hqa hqb hqc rfl (by omega) wu.heap.size 0 1 1 [.int .i64 a] rfl (by exact (Row.new' rfl).news) (fun u hu => by simp at hu; subst hu; rfl) (by omega) (by omega) (by unfold maxLen; omega)
                        have HS := Lib.hid (And.intro hss (And.intro hmu (And.intro hfu (And.intro ho7 (And.intro hf7 hg7)))))
                        clear hss hm1 hev hou hmu hfu ho7 hf7 hg7 hlt7
                        go_wp2_with (at_builtin; refine wpList_app rfl (.tmp 113) (.tmp 115) _ rfl rfl rfl _ rfl hrun ?_)
                        go_roundg (xl.length - (i + 1))
                        case measure => omega
                        case rel =>
                          obtain ⟨hss, hmu, hfu, ho7, hf7, hg7⟩ := HS.out
                          obtain ⟨hmq, hoq, hfq, hgq, hpi, hra⟩ := hHQ.out
                          have hz1 := hfq.size
                          have hz2 := hfu.size
                          refine ⟨i + 1, by omega, rfl, by simp, ?_, ?_, ?_, ?_⟩
                          · rw [hss]
                            exact (hmu.fr ((Fr.refl Non wu).alloc _) id).fr hf7 (fun e => hmq.ne_own hoq e)
                          · rw [hss]
                            have hie : ints (a :: st').reverse = ints st'.reverse ++ [Value.int .i64 a] := by simp [ints]
                            rw [hie]
                            exact ho7
                          · exact ((hfq.trans (hfu.mono fun _ _ h => Or.inl h)).alloc _).then hf7 (fun x hx e => by
                              rcases hgq x e with h | h
                              · exact Or.inr h
                              · omega)
                          · intro q' e
                            simp [Value.ownBlock] at e
                            subst e
                            rcases hg7 with h | h
                            · exact hgq _ h
                            · right
                              simp at h
                              omega
                    · have hii : i = xl.length := by omega
                      subst hii
                      rw [List.take_length] at hmq hoq
                      have hpe := meet_pot HN2.out.2 xl W st (fun a ha => HL.out.2.2.1 a ha) HK.out.1
                      have HE := Lib.hid (And.intro hmq (And.intro hoq (And.intro hfq (And.intro hgq hpe))))
                      have hll := HL.out.2.2.2
                      have hnlt : ¬ ((xl.length : Int) < (xl.length : Int)) := by omega
                      clear hmq hoq hfq hgq hpe
                      go_wp2_with fail
                      go_roundg k
                      case measure => omega
                      case rel =>
                        obtain ⟨hmq, hoq, hfq, hgq, hpe⟩ := HE.out
                        refine ⟨_, _, hmq, hoq, hpe.2, ⟨Nat.le_trans hpe.1 HK.out.2.1, HK.out.2.2.1⟩, HR4.out, ?_, ?_⟩
                        · exact (HX.out.2.2.2.2.2.1.trans HL.out.1).then hfq (fun x hx e => by
                            have := HK.out.2.2.2.2
                            rcases e with e | e <;> omega)
                        · intro q' e
                          have h1 := HK.out.2.2.2.2
                          have h2 := (HX.out.2.2.2.2.2.1.trans HL.out.1).size
                          rcases hgq q' e with h | h <;> omega
              | false =>
                rw [if_neg (by simp)] at hnS
                have HN2 := Lib.hid (And.intro hnS HX.out.2.2.2.2.2.2.2.2.2.2.2.2.2)
                clear hnS hw2
                generalize now = now' at *
                have hR4 := HR3.out
                rw [HN2.out.1] at hR4
                have HR4 := Lib.hid hR4
                clear hR4 HR3
                go_wp2_with fail
                refine (falls_c _ ⟨xop, xa, xb, xc, xl⟩ la lc).mono ?_
                rintro e1 w3 ⟨rfl, hf3⟩
                have hO3 := (H1.out.2.2.1.trans H2.out.1).trans hf3
                have H3 := Lib.hid (And.intro hO3 (hf3.row H2.out.2 id))
                clear hf3 hO3 z0 z1 z2 z3 z4 zz
                have hok4 := HX.out.2.2.2.2.2.2.2.2.2.2.2.1
                have hnx : nextS ⟨xop, xa, xb, xc, xl⟩ (j : Int) = if fallsS xop then xl ++ [(j : Int) + 1] else xl := rfl
                have hR4 := HR4.out
                rw [hnx] at hR4
                clear hnx HR4
                cases hfl : fallsS xop with
                | true =>
                  rw [hfl] at hok4 hR4
                  rw [if_pos rfl] at hR4
                  have hj2 := hok4 rfl
                  have HR4 := Lib.hid hR4
                  clear hR4 hok4 hfl
                  have hwj : IntKind.i64.wrap ((j : Int) + 1) = (j : Int) + 1 := IntWalk.i64_in _ (by have := HH.out.2.1.big; omega)
                  have hla3 : ArgsAt w3 la xl := (HX.out.2.2.2.2.2.2.2.1.fr HX.out.2.2.2.2.2.1 (fun _ _ _ h => h)).fr H3.out.1 (fun _ _ _ h => h)
                  have hz3 : la = none → xl = [] := fun e => by
                    cases xl with
                    | nil => rfl
                    | cons y l =>
                      obtain ⟨b, o, e2, _⟩ := hla3 0 y rfl
                      rw [e] at e2
                      cases e2
                  have hC := Lib.hid (clone_c w3 xl la lc hla3 hz3 HX.out.2.2.2.2.2.2.2.2.2.2.2.2.1)
                  obtain ⟨z0, z1, z2, z3, z4, zz⟩ := row5 H3.out.2
                  clear hla3 hz3
                  go_wp2_with fail
                  refine hC.out.mono ?_
                  rintro e1 w4 ⟨cv, rfl, ho4, hn4, hf4⟩
                  obtain ⟨cao, ccap, rfl, hodd1, hodd2, hodd3, hodd4⟩ := ho4.form
                  clear hodd1 hodd2 hodd3 hodd4
                  obtain ⟨ng, ncap, w5, hrun, ho5, hf5, hg5, hlt5⟩ := run_app (P := Try.prog) (w := w4.alloc (.cells #[.int .i64 ((j : Int) + 1)] 3)) (ho4.fr ((Fr.refl Non w4).alloc _) (fun _ _ h => h)) 34 34 q0 _ 8 Try.underlying34 hq0 hqa hqb hqc rfl (by omega) w4.heap.size 0 1 1 [.int .i64 ((j : Int) + 1)] rfl (by exact (Row.new' rfl).news) (fun u hu => by simp at hu; subst hu; rfl) (by omega) (by have := HX.out.2.2.2.2.2.2.2.2.2.2.2.2.1; omega) (by have := HX.out.2.2.2.2.2.2.2.2.2.2.2.2.1; unfold maxLen; omega)
                  have hs3 : g < w3.heap.size := by
                    have h1 := HX.out.2.1.lt (g := g) rfl
                    have h2 := H3.out.1.size
                    omega
                  have hf35 : Fr Non w3 w5 := (hf4.alloc _).then hf5 (fun x hx e => by have := hn4 x e; omega)
                  have hng : w3.heap.size ≤ ng := by
                    rcases hg5 with h | h
                    · exact hn4 _ h
                    · have := hf4.size; simp at h; omega
                  have hOX := H3.out.1.trans hf35
                  have hNX : ∀ (i : Nat) (n : Int), (xl ++ [(j : Int) + 1])[i]? = some n → ∃ b o, (some ⟨ng, 0, none⟩ : Option Addr) = some ⟨b, o, none⟩ ∧ w5.cell? ⟨b, o + i, none⟩ = some (.int .i64 n) ∧ b ≠ w.heap.size ∧ b ≠ g := by
                    intro i n hn
                    refine ⟨ng, 0, rfl, ?_, ?_, by omega⟩
                    · rw [Nat.zero_add]
                      refine ho5.cell rfl ?_
                      have : ints xl ++ [Value.int .i64 ((j : Int) + 1)] = ints (xl ++ [(j : Int) + 1]) := by simp [ints]
                      rw [this]
                      unfold ints
                      rw [List.getElem?_map, hn]
                      rfl
                    · intro e
                      exact (HX.out.1.fr hOX id).ne_own ho5 (by rw [← e]; rfl)
                  have hnr : ∀ a ∈ xl ++ [(j : Int) + 1], 0 ≤ a ∧ a < (f.length : Int) := by
                    intro a ha
                    rcases List.mem_append.1 ha with ha | ha
                    · exact HX.out.2.2.2.2.2.2.2.2.2.2.1 a ha
                    · simp at ha
                      subst ha
                      omega
                  have hnl : (xl ++ [(j : Int) + 1]).length = xl.length + 1 := by simp
                  have HL := Lib.hid (And.intro hOX (And.intro hNX (And.intro hnr hnl)))
                  clear ho4 hn4 hf4 ho5 hf5 hg5 hf35 hNX hnr hOX
                  go_wp2_with (at_builtin; refine wpList_app rfl (.tmp 79) (.tmp 82) _ rfl rfl rfl _ rfl hrun ?_)
                  clear hrun z0 z1 z2 z3 z4 zz
                  generalize (xl ++ [(j : Int) + 1]) = nx at *
                  have hmpX := HX.out.1.fr HL.out.1 id
                  have hownX : Own w5 (.slice (some ⟨g, 0, none⟩) st.length cap) 3 1 st.length (ints st.reverse) := (Own.pop1 (cs := ints st.reverse) (v := .int .i64 j) (by have := HX.out.2.1; simpa [ints] using this) (by simp [ints])).fr HL.out.1 (fun _ _ h => h)
                  have hmkX : MarksOk f.length W st := ⟨HX.out.2.2.1.val, fun a ha => HX.out.2.2.1.st a (List.mem_cons_of_mem _ ha)⟩
                  have hpotX : potS f.length W st ≤ k := by
                    have := HX.out.2.2.2.1.1
                    unfold potS at this ⊢
                    simp only [List.length_cons] at this
                    omega
                  have hkX : k ≤ waysN f.length := by have := HX.out.2.2.2.1.2; omega
                  have hsX : g < w5.heap.size ∧ w.heap.size ≤ g := ⟨by have h1 := HX.out.2.1.lt (g := g) rfl; have h2 := HL.out.1.size; omega, HX.out.2.2.2.2.2.2.1 g rfl⟩
                  have HK := Lib.hid (And.intro hmkX (And.intro hpotX (And.intro hkX hsX)))
                  clear hmkX hpotX hkX hsX
                  go_loopg [4, 86] nx.length (fun q v4 v86 wq => ∃ i : Nat, i ≤ nx.length ∧ q = nx.length - i ∧ v86 = .int .i64 i ∧ MapAt wq w.heap.size (mapU (meetS W st now' (nx.take i)).1) ∧ Own wq v4 3 1 (meetS W st now' (nx.take i)).2.length (ints (meetS W st now' (nx.take i)).2.reverse) ∧ Fr (fun x => x = w.heap.size ∨ x = g) w5 wq ∧ (∀ q', v4.ownBlock = some q' → q' = g ∨ w5.heap.size ≤ q'))
                  case atStart => exact ⟨0, Nat.zero_le _, rfl, rfl, hmpX, hownX, Fr.refl _ _, fun q' e => by simp [Value.ownBlock] at e; exact Or.inl e.symm⟩
                  case round =>
                    obtain ⟨i, hi, rfl, rfl, hmq, hoq, hfq, hgq⟩ := hrel
                    by_cases hil : i < nx.length
                    · have hget := List.getElem?_eq_getElem hil
                      have hss : meetS W st now' (nx.take (i + 1)) = meetS (meetS W st now' (nx.take i)).1 (meetS W st now' (nx.take i)).2 now' [nx[i]] := by rw [List.take_succ_eq_append_getElem hil, meetS_snoc]
                      have hpi := meet_pot HN2.out.2 (nx.take i) W st (fun a ha => HL.out.2.2.1 a (List.mem_of_mem_take ha)) HK.out.1
                      have hra := HL.out.2.2.1 _ (List.getElem_mem hil)
                      obtain ⟨ab, ao', e, hc, hne1, hne2⟩ := HL.out.2.1 i _ hget
                      generalize meetS W st now' (nx.take i) = Ws at *
                      obtain ⟨W', st'⟩ := Ws
                      simp only at hmq hoq hss hpi
                      generalize nx[i] = a at *
                      have hcq := hfq.cell hc (by simp [hne1, hne2])
                      (first | subst e | cases e)
                      try simp only [Nat.zero_add] at hcq
                      have ha0 : (0 : Int) ≤ (i : Int) := by omega
                      have hll := HL.out.2.2.2
                      have hia : (i : Int) < (xl.length : Int) + 1 := by omega
                      have hst' : st'.length + 1 ≤ 10000000 := by
                        have h1 := hpi.1
                        have h2 := HK.out.2.1
                        have h3 := HK.out.2.2.1
                        have h4 := HH.out.2.1.big
                        unfold potS at h1
                        unfold potS at h2
                        unfold waysN at h3
                        omega
                      have hwi : IntKind.i64.wrap ((i : Int) + 1) = (i : Int) + 1 := IntWalk.i64_in _ (by have := HX.out.2.2.2.2.2.2.2.2.2.2.2.2.1; have := HL.out.2.2.2; omega)
                      have hlk := run_lookup_ok (P := Try.prog) hmq Try.underlying161 Try.underlying3 (.int .u32 0) (by kernel_rfl) a
                      rw [mfind_U] at hlk
                      have hmbq := hmq.lt
                      have hHQ := Lib.hid (And.intro hmq (And.intro hoq (And.intro hfq (And.intro hgq (And.intro hpi hra)))))
                      clear hmq hoq hfq hgq hpi hra hc hne1 hne2 hget hll
                      cases hev : evOf W' a with
                      | some was =>
                        rw [hev] at hlk
                        simp only [Option.map_some, Option.getD_some, Option.isSome_some] at hlk
                        have hm1 : meetS W' st' now' [a] = if andU was now' == was then (W', st') else (setS W' a (andU was now'), a :: st') := by
                          unfold meetS
                          rw [hev]
                          simp only
                          split <;> rfl
                        cases hb : (bits .and .u32 was now' == was) with
                        | true =>
                          rw [hm1, if_pos (by exact hb)] at hss
                          have HS := Lib.hid hss
                          clear hss hm1 hev
                          go_wp2_with fail
                          go_roundg (nx.length - (i + 1))
                          case measure => omega
                          case rel =>
                            obtain ⟨hmq, hoq, hfq, hgq, _⟩ := hHQ.out
                            refine ⟨i + 1, by omega, rfl, by simp, ?_, ?_, hfq, hgq⟩
                            · rw [HS.out]; exact hmq
                            · rw [HS.out]; exact hoq
                        | false =>
                          rw [hm1, if_neg (by rw [show andU was now' = bits .and .u32 was now' from rfl, hb]; simp)] at hss
                          obtain ⟨wu, hup, hmu, hfu⟩ := run_update_map (P := Try.prog) hHQ.out.1 Try.underlying161 Try.underlying3 a (.int .u32 (bits .and .u32 was now'))
                          rw [mset_U] at hmu
                          have hou := hHQ.out.2.1.fr hfu (fun q' hq' e => hHQ.out.1.ne_own hHQ.out.2.1 (e ▸ hq'))
                          obtain ⟨sg, scap, w7, hrun, ho7, hf7, hg7, hlt7⟩ := run_app (P := Try.prog) (w := wu.alloc (.cells #[.int .i64 a] 3)) (hou.fr ((Fr.refl Non wu).alloc _) (fun _ _ h => h)) 34 34 q0 _ 8 Try.underlying34 hq0 hqa hqb hqc rfl (by omega) wu.heap.size 0 1 1 [.int .i64 a] rfl (by exact (Row.new' rfl).news) (fun u hu => by simp at hu; subst hu; rfl) (by omega) (by omega) (by unfold maxLen; omega)
                          have HS := Lib.hid (And.intro hss (And.intro hmu (And.intro hfu (And.intro ho7 (And.intro hf7 hg7)))))
                          clear hss hm1 hev hou hmu hfu ho7 hf7 hg7 hlt7
                          go_wp2_with (at_builtin; refine wpList_app rfl (.tmp 113) (.tmp 115) _ rfl rfl rfl _ rfl hrun ?_)
                          go_roundg (nx.length - (i + 1))
                          case measure => omega
                          case rel =>
                            obtain ⟨hss, hmu, hfu, ho7, hf7, hg7⟩ := HS.out
                            obtain ⟨hmq, hoq, hfq, hgq, hpi, hra⟩ := hHQ.out
                            have hz1 := hfq.size
                            have hz2 := hfu.size
                            refine ⟨i + 1, by omega, rfl, by simp, ?_, ?_, ?_, ?_⟩
                            · rw [hss]
                              exact (hmu.fr ((Fr.refl Non wu).alloc _) id).fr hf7 (fun e => hmq.ne_own hoq e)
                            · rw [hss]
                              have hie : ints (a :: st').reverse = ints st'.reverse ++ [Value.int .i64 a] := by simp [ints]
                              rw [hie]
                              exact ho7
                            · exact ((hfq.trans (hfu.mono fun _ _ h => Or.inl h)).alloc _).then hf7 (fun x hx e => by
                                rcases hgq x e with h | h
                                · exact Or.inr h
                                · omega)
                            · intro q' e
                              simp [Value.ownBlock] at e
                              subst e
                              rcases hg7 with h | h
                              · exact hgq _ h
                              · right
                                simp at h
                                omega
                      | none =>
                        rw [hev] at hlk
                        simp only [Option.map_none, Option.getD_none, Option.isSome_none] at hlk
                        have hm1 : meetS W' st' now' [a] = (setS W' a now', a :: st') := by
                          unfold meetS
                          rw [hev]
                          rfl
                        rw [hm1] at hss
                        obtain ⟨wu, hup, hmu, hfu⟩ := run_update_map (P := Try.prog) hHQ.out.1 Try.underlying161 Try.underlying3 a (.int .u32 now')
                        rw [mset_U] at hmu
                        have hou := hHQ.out.2.1.fr hfu (fun q' hq' e => hHQ.out.1.ne_own hHQ.out.2.1 (e ▸ hq'))
                        obtain ⟨sg, scap, w7, hrun, ho7, hf7, hg7, hlt7⟩ := run_app (P := Try.prog) (w := wu.alloc (.cells #[.int .i64 a] 3)) (hou.fr ((Fr.refl Non wu).alloc _) (fun _ _ h => h)) 34 34 q0 _ 8 Try.underlying34 hq0 hqa hqb hqc rfl (by omega) wu.heap.size 0 1 1 [.int .i64 a] rfl (by exact (Row.new' rfl).news) (fun u hu => by simp at hu; subst hu; rfl) (by omega) (by omega) (by unfold maxLen; omega)
                        have HS := Lib.hid (And.intro hss (And.intro hmu (And.intro hfu (And.intro ho7 (And.intro hf7 hg7)))))
                        clear hss hm1 hev hou hmu hfu ho7 hf7 hg7 hlt7
                        go_wp2_with (at_builtin; refine wpList_app rfl (.tmp 113) (.tmp 115) _ rfl rfl rfl _ rfl hrun ?_)
                        go_roundg (nx.length - (i + 1))
                        case measure => omega
                        case rel =>
                          obtain ⟨hss, hmu, hfu, ho7, hf7, hg7⟩ := HS.out
                          obtain ⟨hmq, hoq, hfq, hgq, hpi, hra⟩ := hHQ.out
                          have hz1 := hfq.size
                          have hz2 := hfu.size
                          refine ⟨i + 1, by omega, rfl, by simp, ?_, ?_, ?_, ?_⟩
                          · rw [hss]
                            exact (hmu.fr ((Fr.refl Non wu).alloc _) id).fr hf7 (fun e => hmq.ne_own hoq e)
                          · rw [hss]
                            have hie : ints (a :: st').reverse = ints st'.reverse ++ [Value.int .i64 a] := by simp [ints]
                            rw [hie]
                            exact ho7
                          · exact ((hfq.trans (hfu.mono fun _ _ h => Or.inl h)).alloc _).then hf7 (fun x hx e => by
                              rcases hgq x e with h | h
                              · exact Or.inr h
                              · omega)
                          · intro q' e
                            simp [Value.ownBlock] at e
                            subst e
                            rcases hg7 with h | h
                            · exact hgq _ h
                            · right
                              simp at h
                              omega
                    · have hii : i = nx.length := by omega
                      subst hii
                      rw [List.take_length] at hmq hoq
                      have hpe := meet_pot HN2.out.2 nx W st (fun a ha => HL.out.2.2.1 a ha) HK.out.1
                      have HE := Lib.hid (And.intro hmq (And.intro hoq (And.intro hfq (And.intro hgq hpe))))
                      have hll := HL.out.2.2.2
                      have hnlt : ¬ ((nx.length : Int) < (xl.length : Int) + 1) := by omega
                      clear hmq hoq hfq hgq hpe
                      go_wp2_with fail
                      go_roundg k
                      case measure => omega
                      case rel =>
                        obtain ⟨hmq, hoq, hfq, hgq, hpe⟩ := HE.out
                        refine ⟨_, _, hmq, hoq, hpe.2, ⟨Nat.le_trans hpe.1 HK.out.2.1, HK.out.2.2.1⟩, HR4.out, ?_, ?_⟩
                        · exact (HX.out.2.2.2.2.2.1.trans HL.out.1).then hfq (fun x hx e => by
                            have := HK.out.2.2.2.2
                            rcases e with e | e <;> omega)
                        · intro q' e
                          have h1 := HK.out.2.2.2.2
                          have h2 := (HX.out.2.2.2.2.2.1.trans HL.out.1).size
                          rcases hgq q' e with h | h <;> omega
                | false =>
                  rw [hfl] at hR4
                  rw [if_neg (by simp)] at hR4
                  have HR4 := Lib.hid hR4
                  clear hR4 hok4 hfl
                  have hOX := H3.out.1
                  have hNX : ∀ (i : Nat) (n : Int), xl[i]? = some n → ∃ b o, la = some ⟨b, o, none⟩ ∧ w3.cell? ⟨b, o + i, none⟩ = some (.int .i64 n) ∧ b ≠ w.heap.size ∧ b ≠ g := by
                    intro i n hn
                    obtain ⟨b, o, e, hc⟩ := HX.out.2.2.2.2.2.2.2.1 i n hn
                    have hbw := World.block_lt_of_cell? w _ hc
                    have hgw := HX.out.2.2.2.2.2.2.1 g rfl
                    simp only at hbw
                    exact ⟨b, o, e, (HX.out.2.2.2.2.2.1.trans hOX).cell hc id, by omega, by omega⟩
                  have hnr : ∀ a ∈ xl, 0 ≤ a ∧ a < (f.length : Int) := HX.out.2.2.2.2.2.2.2.2.2.2.1
                  have hnl : xl.length = xl.length := rfl
                  obtain ⟨z0, z1, z2, z3, z4, zz⟩ := row5 H3.out.2
                  have HL := Lib.hid (And.intro hOX (And.intro hNX (And.intro hnr hnl)))
                  clear hNX hnr hOX hnl
                  go_wp2_with fail
                  clear z0 z1 z2 z3 z4 zz
                  have hmpX := HX.out.1.fr HL.out.1 id
                  have hownX : Own w3 (.slice (some ⟨g, 0, none⟩) st.length cap) 3 1 st.length (ints st.reverse) := (Own.pop1 (cs := ints st.reverse) (v := .int .i64 j) (by have := HX.out.2.1; simpa [ints] using this) (by simp [ints])).fr HL.out.1 (fun _ _ h => h)
                  have hmkX : MarksOk f.length W st := ⟨HX.out.2.2.1.val, fun a ha => HX.out.2.2.1.st a (List.mem_cons_of_mem _ ha)⟩
                  have hpotX : potS f.length W st ≤ k := by
                    have := HX.out.2.2.2.1.1
                    unfold potS at this ⊢
                    simp only [List.length_cons] at this
                    omega
                  have hkX : k ≤ waysN f.length := by have := HX.out.2.2.2.1.2; omega
                  have hsX : g < w3.heap.size ∧ w.heap.size ≤ g := ⟨by have h1 := HX.out.2.1.lt (g := g) rfl; have h2 := HL.out.1.size; omega, HX.out.2.2.2.2.2.2.1 g rfl⟩
                  have HK := Lib.hid (And.intro hmkX (And.intro hpotX (And.intro hkX hsX)))
                  clear hmkX hpotX hkX hsX
                  go_loopg [4, 86] xl.length (fun q v4 v86 wq => ∃ i : Nat, i ≤ xl.length ∧ q = xl.length - i ∧ v86 = .int .i64 i ∧ MapAt wq w.heap.size (mapU (meetS W st now' (xl.take i)).1) ∧ Own wq v4 3 1 (meetS W st now' (xl.take i)).2.length (ints (meetS W st now' (xl.take i)).2.reverse) ∧ Fr (fun x => x = w.heap.size ∨ x = g) w3 wq ∧ (∀ q', v4.ownBlock = some q' → q' = g ∨ w3.heap.size ≤ q'))
                  case atStart => exact ⟨0, Nat.zero_le _, rfl, rfl, hmpX, hownX, Fr.refl _ _, fun q' e => by simp [Value.ownBlock] at e; exact Or.inl e.symm⟩
                  case round =>
                    obtain ⟨i, hi, rfl, rfl, hmq, hoq, hfq, hgq⟩ := hrel
                    by_cases hil : i < xl.length
                    · have hget := List.getElem?_eq_getElem hil
                      have hss : meetS W st now' (xl.take (i + 1)) = meetS (meetS W st now' (xl.take i)).1 (meetS W st now' (xl.take i)).2 now' [xl[i]] := by rw [List.take_succ_eq_append_getElem hil, meetS_snoc]
                      have hpi := meet_pot HN2.out.2 (xl.take i) W st (fun a ha => HL.out.2.2.1 a (List.mem_of_mem_take ha)) HK.out.1
                      have hra := HL.out.2.2.1 _ (List.getElem_mem hil)
                      obtain ⟨ab, ao', e, hc, hne1, hne2⟩ := HL.out.2.1 i _ hget
                      generalize meetS W st now' (xl.take i) = Ws at *
                      obtain ⟨W', st'⟩ := Ws
                      simp only at hmq hoq hss hpi
                      generalize xl[i] = a at *
                      have hcq := hfq.cell hc (by simp [hne1, hne2])
                      (first | subst e | cases e)
                      try simp only [Nat.zero_add] at hcq
                      have ha0 : (0 : Int) ≤ (i : Int) := by omega
                      have hll := HL.out.2.2.2
                      have hia : (i : Int) < (xl.length : Int) := by omega
                      have hst' : st'.length + 1 ≤ 10000000 := by
                        have h1 := hpi.1
                        have h2 := HK.out.2.1
                        have h3 := HK.out.2.2.1
                        have h4 := HH.out.2.1.big
                        unfold potS at h1
                        unfold potS at h2
                        unfold waysN at h3
                        omega
                      have hwi : IntKind.i64.wrap ((i : Int) + 1) = (i : Int) + 1 := IntWalk.i64_in _ (by have := HX.out.2.2.2.2.2.2.2.2.2.2.2.2.1; have := HL.out.2.2.2; omega)
                      have hlk := run_lookup_ok (P := Try.prog) hmq Try.underlying161 Try.underlying3 (.int .u32 0) (by kernel_rfl) a
                      rw [mfind_U] at hlk
                      have hmbq := hmq.lt
                      have hHQ := Lib.hid (And.intro hmq (And.intro hoq (And.intro hfq (And.intro hgq (And.intro hpi hra)))))
                      clear hmq hoq hfq hgq hpi hra hc hne1 hne2 hget hll
                      cases hev : evOf W' a with
                      | some was =>
                        rw [hev] at hlk
                        simp only [Option.map_some, Option.getD_some, Option.isSome_some] at hlk
                        have hm1 : meetS W' st' now' [a] = if andU was now' == was then (W', st') else (setS W' a (andU was now'), a :: st') := by
                          unfold meetS
                          rw [hev]
                          simp only
                          split <;> rfl
                        cases hb : (bits .and .u32 was now' == was) with
                        | true =>
                          rw [hm1, if_pos (by exact hb)] at hss
                          have HS := Lib.hid hss
                          clear hss hm1 hev
                          go_wp2_with fail
                          go_roundg (xl.length - (i + 1))
                          case measure => omega
                          case rel =>
                            obtain ⟨hmq, hoq, hfq, hgq, _⟩ := hHQ.out
                            refine ⟨i + 1, by omega, rfl, by simp, ?_, ?_, hfq, hgq⟩
                            · rw [HS.out]; exact hmq
                            · rw [HS.out]; exact hoq
                        | false =>
                          rw [hm1, if_neg (by rw [show andU was now' = bits .and .u32 was now' from rfl, hb]; simp)] at hss
                          obtain ⟨wu, hup, hmu, hfu⟩ := run_update_map (P := Try.prog) hHQ.out.1 Try.underlying161 Try.underlying3 a (.int .u32 (bits .and .u32 was now'))
                          rw [mset_U] at hmu
                          have hou := hHQ.out.2.1.fr hfu (fun q' hq' e => hHQ.out.1.ne_own hHQ.out.2.1 (e ▸ hq'))
                          obtain ⟨sg, scap, w7, hrun, ho7, hf7, hg7, hlt7⟩ := run_app (P := Try.prog) (w := wu.alloc (.cells #[.int .i64 a] 3)) (hou.fr ((Fr.refl Non wu).alloc _) (fun _ _ h => h)) 34 34 q0 _ 8 Try.underlying34 hq0 hqa hqb hqc rfl (by omega) wu.heap.size 0 1 1 [.int .i64 a] rfl (by exact (Row.new' rfl).news) (fun u hu => by simp at hu; subst hu; rfl) (by omega) (by omega) (by unfold maxLen; omega)
                          have HS := Lib.hid (And.intro hss (And.intro hmu (And.intro hfu (And.intro ho7 (And.intro hf7 hg7)))))
                          clear hss hm1 hev hou hmu hfu ho7 hf7 hg7 hlt7
                          go_wp2_with (at_builtin; refine wpList_app rfl (.tmp 113) (.tmp 115) _ rfl rfl rfl _ rfl hrun ?_)
                          go_roundg (xl.length - (i + 1))
                          case measure => omega
                          case rel =>
                            obtain ⟨hss, hmu, hfu, ho7, hf7, hg7⟩ := HS.out
                            obtain ⟨hmq, hoq, hfq, hgq, hpi, hra⟩ := hHQ.out
                            have hz1 := hfq.size
                            have hz2 := hfu.size
                            refine ⟨i + 1, by omega, rfl, by simp, ?_, ?_, ?_, ?_⟩
                            · rw [hss]
                              exact (hmu.fr ((Fr.refl Non wu).alloc _) id).fr hf7 (fun e => hmq.ne_own hoq e)
                            · rw [hss]
                              have hie : ints (a :: st').reverse = ints st'.reverse ++ [Value.int .i64 a] := by simp [ints]
                              rw [hie]
                              exact ho7
                            · exact ((hfq.trans (hfu.mono fun _ _ h => Or.inl h)).alloc _).then hf7 (fun x hx e => by
                                rcases hgq x e with h | h
                                · exact Or.inr h
                                · omega)
                            · intro q' e
                              simp [Value.ownBlock] at e
                              subst e
                              rcases hg7 with h | h
                              · exact hgq _ h
                              · right
                                simp at h
                                omega
                      | none =>
                        rw [hev] at hlk
                        simp only [Option.map_none, Option.getD_none, Option.isSome_none] at hlk
                        have hm1 : meetS W' st' now' [a] = (setS W' a now', a :: st') := by
                          unfold meetS
                          rw [hev]
                          rfl
                        rw [hm1] at hss
                        obtain ⟨wu, hup, hmu, hfu⟩ := run_update_map (P := Try.prog) hHQ.out.1 Try.underlying161 Try.underlying3 a (.int .u32 now')
                        rw [mset_U] at hmu
                        have hou := hHQ.out.2.1.fr hfu (fun q' hq' e => hHQ.out.1.ne_own hHQ.out.2.1 (e ▸ hq'))
                        obtain ⟨sg, scap, w7, hrun, ho7, hf7, hg7, hlt7⟩ := run_app (P := Try.prog) (w := wu.alloc (.cells #[.int .i64 a] 3)) (hou.fr ((Fr.refl Non wu).alloc _) (fun _ _ h => h)) 34 34 q0 _ 8 Try.underlying34 hq0 hqa hqb hqc rfl (by omega) wu.heap.size 0 1 1 [.int .i64 a] rfl (by exact (Row.new' rfl).news) (fun u hu => by simp at hu; subst hu; rfl) (by omega) (by omega) (by unfold maxLen; omega)
                        have HS := Lib.hid (And.intro hss (And.intro hmu (And.intro hfu (And.intro ho7 (And.intro hf7 hg7)))))
                        clear hss hm1 hev hou hmu hfu ho7 hf7 hg7 hlt7
                        go_wp2_with (at_builtin; refine wpList_app rfl (.tmp 113) (.tmp 115) _ rfl rfl rfl _ rfl hrun ?_)
                        go_roundg (xl.length - (i + 1))
                        case measure => omega
                        case rel =>
                          obtain ⟨hss, hmu, hfu, ho7, hf7, hg7⟩ := HS.out
                          obtain ⟨hmq, hoq, hfq, hgq, hpi, hra⟩ := hHQ.out
                          have hz1 := hfq.size
                          have hz2 := hfu.size
                          refine ⟨i + 1, by omega, rfl, by simp, ?_, ?_, ?_, ?_⟩
                          · rw [hss]
                            exact (hmu.fr ((Fr.refl Non wu).alloc _) id).fr hf7 (fun e => hmq.ne_own hoq e)
                          · rw [hss]
                            have hie : ints (a :: st').reverse = ints st'.reverse ++ [Value.int .i64 a] := by simp [ints]
                            rw [hie]
                            exact ho7
                          · exact ((hfq.trans (hfu.mono fun _ _ h => Or.inl h)).alloc _).then hf7 (fun x hx e => by
                              rcases hgq x e with h | h
                              · exact Or.inr h
                              · omega)
                          · intro q' e
                            simp [Value.ownBlock] at e
                            subst e
                            rcases hg7 with h | h
                            · exact hgq _ h
                            · right
                              simp at h
                              omega
                    · have hii : i = xl.length := by omega
                      subst hii
                      rw [List.take_length] at hmq hoq
                      have hpe := meet_pot HN2.out.2 xl W st (fun a ha => HL.out.2.2.1 a ha) HK.out.1
                      have HE := Lib.hid (And.intro hmq (And.intro hoq (And.intro hfq (And.intro hgq hpe))))
                      have hll := HL.out.2.2.2
                      have hnlt : ¬ ((xl.length : Int) < (xl.length : Int)) := by omega
                      clear hmq hoq hfq hgq hpe
                      go_wp2_with fail
                      go_roundg k
                      case measure => omega
                      case rel =>
                        obtain ⟨hmq, hoq, hfq, hgq, hpe⟩ := HE.out
                        refine ⟨_, _, hmq, hoq, hpe.2, ⟨Nat.le_trans hpe.1 HK.out.2.1, HK.out.2.2.1⟩, HR4.out, ?_, ?_⟩
                        · exact (HX.out.2.2.2.2.2.1.trans HL.out.1).then hfq (fun x hx e => by
                            have := HK.out.2.2.2.2
                            rcases e with e | e <;> omega)
                        · intro q' e
                          have h1 := HK.out.2.2.2.2
                          have h2 := (HX.out.2.2.2.2.2.1.trans HL.out.1).size
                          rcases hgq q' e with h | h <;> omega
end

end Go.Proofs.Ytlbomnbpahmphaa
