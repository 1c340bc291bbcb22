/- Walks: 'ExecIdle': the whole law answers true. Condition: the acts lie as they are read. -/
import Derived.Test.YtlbomnbpahmphaaWorks
namespace Go.Proofs.Ytlbomnbpahmphaa
open Go.RowKit

theorem Try.infoAct : (Try.prog.info? 67).map (fun i => (i.zero, i.size, i.bytes)) = some (some (.agg #[.int .i64 0, .int .i64 0, .int .i64 0, .slice none 0 0]), 4, 48) := by kernel_rfl

def keep (x : Ac) : Bool := !(x.k == 0) && !(x.k == 5)
theorem take_keep {l : List Ac} {i : Nat} {x : Ac} (h : l[i]? = some x) : (l.take (i + 1)).filter keep = (l.take i).filter keep ++ (if keep x then [x] else []) := by
  rw [List.take_add_one, h, List.filter_append]; simp [List.filter_cons]
theorem acs_append (l m : List Ac) : acs (l ++ m) = acs l ++ acs m := by simp [acs]
theorem filter_le (l : List Ac) (i : Nat) : ((l.take i).filter keep).length ≤ l.length := by
  have := List.length_filter_le keep (l.take i)
  simp at this; omega

theorem evs_cons (x : Ev) (l : List Ev) : evs (x :: l) = .int .i64 x.kind :: .int .i64 x.task :: .int .i64 x.a :: .int .i64 x.n :: evs l := rfl
theorem evs_get {l : List Ev} {i : Nat} {x : Ev} (h : l[i]? = some x) :
    (evs l)[i * 4]? = some (.int .i64 x.kind) ∧ (evs l)[i * 4 + 1]? = some (.int .i64 x.task) ∧ (evs l)[i * 4 + 2]? = some (.int .i64 x.a) ∧ (evs l)[i * 4 + 3]? = some (.int .i64 x.n) := by
  induction l generalizing i with
  | nil => simp at h
  | cons y l ih =>
    cases i with
    | zero => simp at h; subst h; simp [evs_cons]
    | succ i =>
      have := ih (by simpa using h)
      rw [evs_cons, show (i + 1) * 4 = i * 4 + 4 by omega]
      exact this

set_option maxRecDepth 100000 in
set_option maxHeartbeats 1000000 in
theorem idle_c (w : World) (ao : Option Addr) (cap : Nat) (l : List Ac) (hl : Acts w ao l) (hmax : l.length ≤ maxLen) (tasks : Int) :
    Calls Try.prog 8 #[.slice ao l.length cap, .int .i64 tasks] w fun e w' => e = .returned (.bool true) ∧ Fr Non w w' := by
  obtain ⟨i0, hi, hz0, hz1, hz2⟩ := info_parts Try.infoAct
  have hmax' : (l.length : Int) ≤ 9223372036854775807 := by unfold maxLen at hmax; omega
  by_cases h40 : (40 : Int) < l.length
  · have hd40 : decide ((40 : Int) < l.length) = true := decide_eq_true h40
    go_enter Try.func8, Try.ntmps8
    go_wp2_with fail
    refine (works21_c w).mono ?_
    rintro e1 w1 ⟨rfl, hf1⟩
    have HF1 := Lib.hid hf1
    clear hf1
    go_wp2_with fail
    go_ret
    exact ⟨rfl, HF1.out⟩
  · have hd40 : decide ((40 : Int) < l.length) = false := decide_eq_false h40
    have h0l : (0 : Int) ≤ (l.length : Int) := by omega
    have hlen : l.length ≤ 40 := by omega
    go_enter Try.func8, Try.ntmps8
    go_wp2_with fail
    refine (works21_c w).mono ?_
    rintro e1 w1 ⟨rfl, hf1⟩
    go_wp2_with fail
    go_loopw [6, 7] (fun v6 v7 wr => ∃ i : Nat, i ≤ l.length ∧ v7 = .int .i64 i ∧ Own wr v6 67 4 ((l.take i).filter keep).length (acs ((l.take i).filter keep)) ∧ (∀ g, v6.ownBlock = some g → w.heap.size ≤ g) ∧ Fr Non w wr) (fun _ v7 _ => l.length - (intOf v7).toNat)
    case atStart => exact ⟨0, by omega, rfl, Own.nil _ _ _, (fun g hg => by cases hg), hf1⟩
    case round =>
      obtain ⟨i, hil, rfl, hO, hg, hfr⟩ := hrel
      by_cases hlt : i < l.length
      · obtain ⟨x, hx⟩ : ∃ x, l[i]? = some x := ⟨l[i], List.getElem?_eq_getElem hlt⟩
        obtain ⟨sb, so, rfl, hac⟩ := hl (by omega)
        obtain ⟨g0, g1, g2, g3⟩ := acs_get hx
        have e0 := hfr.cell (hac _ _ g0) id
        have e1 := hfr.cell (hac _ _ g1) id
        have e2 := hfr.cell (hac _ _ g2) id
        have e3 := hfr.cell (hac _ _ g3) id
        rw [← Nat.add_assoc] at e1 e2 e3
        have hfl := filter_le l i
        have HH := Lib.hid (And.intro hO (And.intro hg hfr))
        clear hac g0 g1 g2 g3 hl hf1
        by_cases hkp : keep x = true
        · have hk0 : ¬ x.k = 0 := by unfold keep at hkp; simp at hkp; exact hkp.1
          have hk0' : (x.k != 0) = true := by unfold keep at hkp; simp at hkp; simp [hkp.1]
          have hk5' : (x.k != 5) = true := by unfold keep at hkp; simp at hkp; simp [hkp.2]
          obtain ⟨g', cap', w2, hrun, ho2, hf2, hg2, hlt2⟩ := run_app (P := Try.prog) (w := wr.alloc (.cells #[.int .i64 x.k, .int .i64 x.a, .int .i64 x.n, .slice x.la x.ln x.lc] 67)) (hO.fr (D := Non) (by exact (by repeat (first | exact Fr.refl _ _ | assumption | refine Fr.drewN ?_ _ | refine Fr.drew ?_ | refine Fr.drewl ?_ | refine Fr.drewNl ?_ _ | refine Fr.alloc ?_ _))) (fun _ _ => id)) 56 56 i0 _ 48 Try.underlying56 hi hz0 hz1 hz2 rfl (by omega) wr.heap.size 0 1 1 (acs [x]) rfl (by exact (Row.new' rfl).news)
            (fun u hu => by simp [acs, Ac.cs] at hu; rcases hu with rfl | rfl | rfl | rfl <;> rfl) (by omega) (by omega) (by unfold maxLen; omega)
          have H2 := Lib.hid (And.intro ho2 (And.intro hf2 (And.intro hg2 hlt2)))
          clear ho2 hf2 hg2 hlt2 hO hg hfr
          go_wp2_with (at_builtin; refine wpList_app rfl (.tmp 38) (.tmp 43) _ rfl rfl rfl _ rfl hrun ?_)
          obtain ⟨ho2, hf2, hg2, hlt2⟩ := H2.out
          obtain ⟨hO, hg, hfr⟩ := HH.out
          have hfs := hfr.size
          refine ⟨⟨i + 1, by omega, by simp, ?_, ?_, ?_⟩, by simp [intOf]; omega⟩
          · rw [take_keep hx, if_pos hkp, List.length_append, acs_append]
            exact ho2
          · intro q hq
            simp [Value.ownBlock] at hq
            subst hq
            rcases hg2 with h | h
            · exact hg _ h
            · simp at h; omega
          · exact Fr.then (D := Non) (by exact (by repeat (first | exact Fr.refl _ _ | assumption | refine Fr.drewN ?_ _ | refine Fr.drew ?_ | refine Fr.drewl ?_ | refine Fr.drewNl ?_ _ | refine Fr.alloc ?_ _))) hf2 (fun y hy hy' => absurd hy (by have := hg y hy'; omega))
        · have hz : x.k = 0 ∨ (¬ x.k = 0 ∧ x.k = 5) := by unfold keep at hkp; simp at hkp; omega
          rcases hz with hz | ⟨hz, hz5⟩
          · go_wp2_with fail
            obtain ⟨hO, hg, hfr⟩ := HH.out
            refine ⟨⟨i + 1, by omega, by simp, ?_, hg, by exact (by repeat (first | exact Fr.refl _ _ | assumption | refine Fr.drewN ?_ _ | refine Fr.drew ?_ | refine Fr.drewl ?_ | refine Fr.drewNl ?_ _ | refine Fr.alloc ?_ _))⟩, by simp [intOf]; omega⟩
            rw [take_keep hx, if_neg hkp, List.append_nil]
            exact hO
          · go_wp2_with fail
            obtain ⟨hO, hg, hfr⟩ := HH.out
            refine ⟨⟨i + 1, by omega, by simp, ?_, hg, by exact (by repeat (first | exact Fr.refl _ _ | assumption | refine Fr.drewN ?_ _ | refine Fr.drew ?_ | refine Fr.drewl ?_ | refine Fr.drewNl ?_ _ | refine Fr.alloc ?_ _))⟩, by simp [intOf]; omega⟩
            rw [take_keep hx, if_neg hkp, List.append_nil]
            exact hO
      · obtain rfl : i = l.length := by omega
        rw [List.take_length] at hO
        obtain ⟨mo, mc, rfl, _, _, hm1, hm2⟩ := hO.form
        clear hm2
        have hac : Acts wr mo (l.filter keep) := fun hpos => by
          obtain ⟨g, hg⟩ := hm1 hpos
          exact ⟨g, 0, hg, fun j u hu => by rw [Nat.zero_add]; exact hO.cell hg hu⟩
        have hfl := List.length_filter_le keep l
        have hkk : ∀ x ∈ l.filter keep, ¬ x.k = 0 ∧ ¬ x.k = 5 := fun x hx => by
          have := (List.mem_filter.1 hx).2
          unfold keep at this; simp at this; exact this
        generalize hmm : l.filter keep = m at *
        have HH := Lib.hid (And.intro hac (And.intro hfr hkk))
        clear hO hg hfr hm1 hl hf1 hac hkk
        go_wp2_with fail
        refine (drive_idle wr .nilFunc .nilFunc .nilFunc .nilFunc .nilFunc mo mc m HH.out.1 (by omega) HH.out.2.2 tasks).mono ?_
        rintro e2 w2 ⟨tr, rfl, ho2, hg2, hf2⟩
        obtain ⟨to, tc, rfl, _, _, ht1, ht2⟩ := ho2.form
        have H2 := Lib.hid (And.intro ho2 (And.intro hf2 (And.intro ht1 ht2)))
        clear ho2 hg2 hf2 ht1 ht2
        have h0m : (0 : Int) ≤ (m.length : Int) := by omega
        go_wp2_with fail
        go_loopw [9] (fun v9 wl => ∃ j : Nat, j ≤ m.length ∧ v9 = .int .i64 j ∧ Fr Non w2 wl) (fun v9 _ => m.length - (intOf v9).toNat)
        case atStart => exact ⟨0, by omega, rfl, Fr.refl _ _⟩
        case round =>
          obtain ⟨j, hj, rfl, hfj⟩ := hrel
          by_cases hjm : j < m.length
          · obtain ⟨x, hx⟩ : ∃ x, m[j]? = some x := ⟨m[j], List.getElem?_eq_getElem hjm⟩
            obtain ⟨ho2, hf2, ht1, ht2⟩ := H2.out
            obtain ⟨tg, rfl⟩ := ht1 (by omega)
            obtain ⟨sb, so, rfl, hac⟩ := HH.out.1 (by omega)
            have hfa := hf2.trans hfj
            obtain ⟨g0, g1, g2, g3⟩ := acs_get hx
            have e0 := hfa.cell (hac _ _ g0) id
            have e1 := hfa.cell (hac _ _ g1) id
            rw [← Nat.add_assoc] at e1
            obtain ⟨g0, g1, g2, g3⟩ := evs_get (l := m.map refuse) (i := j) (x := refuse x) (by rw [List.getElem?_map, hx]; rfl)
            have t0 := hfj.cell (ho2.cell rfl g0) id
            have t1 := hfj.cell (ho2.cell rfl g1) id
            have t2 := hfj.cell (ho2.cell rfl g2) id
            have t3 := hfj.cell (ho2.cell rfl g3) id
            clear g0 g1 g2 g3 hac ho2 hf2 ht1 ht2 hfa
            simp only [refuse] at t0 t1 t2 t3
            by_cases hk2 : x.k = 2
            · simp only [if_pos hk2] at t1
              have hk2' : (x.k == 2) = true := by simp [hk2]
              go_wp2_with fail
              exact ⟨⟨j + 1, by omega, by simp, hfj⟩, by simp [intOf]; omega⟩
            · simp only [if_neg hk2] at t1
              have hk2' : (x.k == 2) = false := beq_false_of_ne hk2
              go_wp2_with fail
              exact ⟨⟨j + 1, by omega, by simp, hfj⟩, by simp [intOf]; omega⟩
          · obtain rfl : j = m.length := by omega
            go_wp2_with fail
            go_ret
            refine ⟨rfl, ?_⟩
            exact (HH.out.2.1.trans H2.out.2.1).trans (by exact (by repeat (first | exact Fr.refl _ _ | assumption | refine Fr.drewN ?_ _ | refine Fr.drew ?_ | refine Fr.drewl ?_ | refine Fr.drewNl ?_ _ | refine Fr.alloc ?_ _)))

end Go.Proofs.Ytlbomnbpahmphaa
