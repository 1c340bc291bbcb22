/- Walk: Go's 'DeleteFunc' with a test for one number, on a row that is owned. Condition: the row is owned; the box of the number is not it. -/
import Derived.Test.YtlbomnbpahmphaaGreatR21
import Derived.Test.YtlbomnbpahmphaaGreatR22
namespace Go.Proofs.YtlbomnbpahmphaaGreat
open Go.RowKit

theorem splice_get_lt {α : Type} {l c : List α} {o k : Nat} (h : k < o) (ho : o ≤ l.length) : (splice l o c)[k]? = l[k]? := by
 unfold splice
 rw [List.getElem?_append_left (by simp; omega), List.getElem?_take_of_lt h]
theorem splice_len {α : Type} {l c : List α} {o : Nat} (h : o + c.length ≤ l.length) : (splice l o c).length = l.length := by
 unfold splice
 simp
 omega
theorem take_of_get {α : Type} {l m : List α} (h : ∀ k, k < m.length → l[k]? = m[k]?) : l.take m.length = m := by
 refine List.ext_getElem? fun k => ?_
 by_cases hk : k < m.length
 · rw [List.getElem?_take_of_lt hk, h k hk]
 · rw [List.getElem?_eq_none (by simp; omega), List.getElem?_eq_none (by omega)]

set_option maxRecDepth 100000 in
set_option maxHeartbeats 1000000 in
theorem deleteFunc_c (w : World) (q : Nat) (n : Int) (hq : w.cell? ⟨q, 0, none⟩ = some (.int .i64 n)) (l : List Int) (qo : Option Addr) (qc : Nat) (ho : Own w (.slice qo l.length qc) 3 1 l.length (qints l)) (hn : l.length ≤ 1000000000) (hqb : (Value.slice qo l.length qc).ownBlock ≠ some q) :
 Calls Tryz.prog 144 #[.slice qo l.length qc, .func (.func 145) #[] #[.pointer (some ⟨q, 0, none⟩)]] w fun e w' => e = .returned (.slice qo (without n l).length qc) ∧ Own w' (.slice qo (without n l).length qc) 3 1 (without n l).length (qints (without n l)) ∧ Fr (fun x => (Value.slice qo l.length qc).ownBlock = some x) w w' := by
 obtain ⟨j0, hj, hj0, hj1, hj2⟩ := info_parts Tryz.infoInt
 have hI := Lib.hid (indexFuncQ_c w q n hq l qo qc ho.args.2 hn)
 have HH := Lib.hid (And.intro hq (And.intro ho hqb))
 clear hq ho hqb
 go_enter Tryz.func144, Tryz.ntmps144
 go_wp2_with fail
 refine hI.out.mono ?_
 rintro e1 w1 ⟨⟨rfl, hno⟩ | ⟨i0, rfl, hi0, hfirst⟩, hf⟩
 · have HX := Lib.hid (And.intro hno hf)
   clear hno hf
   go_wp2_with fail
   go_ret
   have hw := without_none HX.out.1
   rw [hw]
   exact ⟨rfl, HH.out.2.1.fr HX.out.2 (fun _ _ => id), HX.out.2.mono fun _ _ h => h.elim⟩
 · have hil : i0 < l.length := (List.getElem?_eq_some_iff.1 hi0).1
   obtain ⟨ao', cap', e, hnc, hcm, hg1, _⟩ := HH.out.2.1.form
   cases e
   obtain ⟨g, rfl⟩ := hg1 (by omega)
   obtain ⟨arr, hrow, hal, _, _, hat⟩ := ownsRow_open (HH.out.2.1.fr hf (fun _ _ => id))
   simp only [Nat.mul_one] at hal hat
   have hqg : q ≠ g := fun e => HH.out.2.2 (by rw [e]; rfl)
   have hget : ∀ k x, l[k]? = some x → arr[k]? = some (Value.int .i64 x) := fun k x hx => by
    have h1 := qints_get hx
    rw [← hat, List.getElem?_take_of_lt (by have := (List.getElem?_eq_some_iff.1 hx).1; omega)] at h1
    exact h1
   have hfw : without n (l.take (i0 + 1)) = l.take i0 := by rw [without_take hi0, if_pos rfl, List.append_nil, without_first hfirst]
   have d : ((i0 : Int) == -1) = false := by first | (simp; done) | (simp; omega)
   have hst := Lib.hid (And.intro hf (And.intro hrow (And.intro hal (And.intro hget hfw))))
   clear hf hrow hat hget hfw hfirst hi0 hg1
   go_wp2_with fail
   go_loopw [5, 6] (fun v5 v6 wr => ∃ (j : Nat) (ar : List Value), i0 + 1 ≤ j ∧ j ≤ l.length ∧ v6 = .int .i64 j ∧ v5 = .int .i64 (without n (l.take j)).length ∧ (without n (l.take j)).length < j ∧ ar.length = qc ∧ (∀ (k : Nat) (x : Int), (without n (l.take j))[k]? = some x → ar[k]? = some (Value.int .i64 x)) ∧ (∀ (k : Nat) (x : Int), j ≤ k → l[k]? = some x → ar[k]? = some (Value.int .i64 x)) ∧ Row wr g 3 ar ∧ Fr (fun x => x = g) w wr) (fun _ v6 _ => l.length - (intOf v6).toNat)
   case atStart =>
    obtain ⟨hf, hrow, hal, hget, hfw⟩ := hst.out
    refine ⟨i0 + 1, arr, by omega, by omega, by simp, ?_, ?_, by omega, fun k x hx => ?_, fun k x hk hx => hget k x hx, hrow, hf.mono fun _ _ h => h.elim⟩
    · rw [hfw]; simp; omega
    · rw [hfw]; simp; omega
    · rw [hfw] at hx
      refine hget k x ?_
      have hk := (List.getElem?_eq_some_iff.1 hx).1
      simp only [List.length_take] at hk
      rwa [List.getElem?_take_of_lt (by omega)] at hx
   case round =>
    obtain ⟨j, ar, hj1', hjl, rfl, rfl, hwl, har, hpre, hsuf, hrow, hfr⟩ := hrel
    by_cases hlt : j < l.length
    · obtain ⟨x, hx⟩ : ∃ x, l[j]? = some x := ⟨l[j], List.getElem?_eq_getElem hlt⟩
      have cj := hrow.cell (hsuf j x (Nat.le_refl _) hx)
      have gz := hrow.frozen
      have hw1 := without_take (n := n) hx
      have hO := Lib.hid fun wz (f : Fr Non wr wz) => out1_c wz q n (f.cell (hfr.cell HH.out.1 hqg) id) x
      have hj0' : (0 : Int) ≤ (j : Int) := by omega
      have hj1x : (j : Int) < (l.length : Int) := by omega
      have HX := Lib.hid (And.intro hw1 (And.intro hpre (And.intro hsuf (And.intro hrow (And.intro hfr (And.intro hx har))))))
      generalize hil2 : (without n (l.take j)).length = i at *
      have hi0' : (0 : Int) ≤ (i : Int) := by omega
      have hi1 : (i : Int) < (l.length : Int) := by omega
      clear hw1 hpre hsuf hrow hfr hx har
      go_wp2_with fail
      refine (hO.out _ (by exact (by repeat (first | exact .refl _ _ | assumption | apply Fr.drewN | apply Fr.drew | apply Fr.drewl | apply Fr.drewNl | apply Fr.alloc)))).mono ?_
      rintro e2 w2 ⟨rfl, hf2⟩
      have hr2 := hf2.row HX.out.2.2.2.1 id
      have gz2 := hr2.frozen
      have ci : w2.cell? ⟨g, i, none⟩ = some (ar[i]'(by have := HX.out.2.2.2.2.2.2; omega)) := hr2.cell (List.getElem?_eq_getElem _)
      have hgl := hr2.lt
      have HY := Lib.hid (And.intro hr2 hf2)
      clear hr2 hf2
      by_cases hxn : x = n
      · have dx : (x == n) = true := by simp [hxn]
        have HM := Lib.hid hxn
        clear hxn
        go_wp2_with fail
        obtain ⟨hw1, hpre, hsuf, hrow, hfr, hx, har⟩ := HX.out
        rw [if_pos HM.out, List.append_nil] at hw1
        refine ⟨⟨j + 1, ar, by omega, by omega, by simp, by rw [hw1, hil2], by rw [hw1, hil2]; omega, har, by rw [hw1]; exact hpre, fun k y hk hy => hsuf k y (by omega) hy, HY.out.1, hfr.then HY.out.2 fun _ _ h => h.elim⟩, by simp [intOf]; omega⟩
      · have dx : (x == n) = false := by simp [hxn]
        have HM := Lib.hid hxn
        clear hxn
        go_wp2_with fail
        obtain ⟨hw1, hpre, hsuf, hrow, hfr, hx, har⟩ := HX.out
        rw [if_neg HM.out] at hw1
        refine ⟨⟨j + 1, ar.set i (.int .i64 x), by omega, by omega, by simp, by rw [hw1]; simp [hil2], by rw [hw1]; simp [hil2]; omega, by simpa using har, fun k y hy => ?_, fun k y hk hy => ?_, HY.out.1.set_same i _, (hfr.then HY.out.2 fun _ _ h => h.elim).trans (Fr.set1 _ _ _ _)⟩, by simp [intOf]; omega⟩
        · rw [hw1] at hy
          rcases Nat.lt_or_ge k i with hk | hk
          · rw [List.getElem?_append_left (by omega)] at hy
            rw [List.getElem?_set_ne (by omega)]
            exact hpre k y hy
          · rw [List.getElem?_append_right (by omega), hil2] at hy
            have : k = i := by
             have := (List.getElem?_eq_some_iff.1 hy).1
             simp at this
             omega
            subst this
            simp at hy
            subst hy
            rw [List.getElem?_set_self (by omega)]
        · rw [List.getElem?_set_ne (by omega)]
          exact hsuf k y (by omega) hy
    · obtain rfl : j = l.length := by omega
      rw [List.take_length] at hwl hpre ⊢
      have gz := hrow.frozen
      generalize hil2 : (without n l).length = i at *
      have hi0' : (0 : Int) ≤ (i : Int) := by omega
      have hi1 : (i : Int) ≤ (l.length : Int) := by omega
      have hi2 : (i : Int) < (l.length : Int) := by omega
      obtain ⟨w2, hrun, hr2, hf2⟩ := run_clear_ints (P := Tryz.prog) (w := wr) 36 0 3 j0 Tryz.underlying36 hj hj0 (l.length - i) (qc - i) g i 3 ar hrow (by omega) (by omega)
      have HX := Lib.hid (And.intro hpre (And.intro hfr (And.intro har (And.intro hil2 (And.intro hr2 hf2)))))
      clear hpre hrow hfr har hr2 hf2
      go_wp2_with fail
      go_ret
      obtain ⟨hpre, hfr, har, hil2, hr2, hf2⟩ := HX.out
      have hlen : (splice ar i (List.replicate (l.length - i) (Value.int .i64 0))).length = ar.length := splice_len (by simp; omega)
      have hmk := Own.mk (k := 1) (len := i) (cap := qc) hr2 (by rw [hlen, har, Nat.mul_one]) (by omega) hcm
      have htk : (splice ar i (List.replicate (l.length - i) (Value.int .i64 0))).take (i * 1) = qints (without n l) := by
       rw [Nat.mul_one, ← hil2]
       have hli : (qints (without n l)).length = (without n l).length := by simp [qints]
       rw [← hli]
       refine take_of_get fun k hk => ?_
       rw [hli] at hk
       rw [hli, hil2, splice_get_lt (by omega) (by omega)]
       obtain ⟨y, hy⟩ : ∃ y, (without n l)[k]? = some y := ⟨_, List.getElem?_eq_getElem hk⟩
       rw [hpre k y hy, qints_get hy]
      rw [htk] at hmk
      rw [hil2]
      exact ⟨rfl, hmk, (hfr.trans hf2).mono fun x _ hx => by rw [hx]; rfl⟩

end Go.Proofs.YtlbomnbpahmphaaGreat
