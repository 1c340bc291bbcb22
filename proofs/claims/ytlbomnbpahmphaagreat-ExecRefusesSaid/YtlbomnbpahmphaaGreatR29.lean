/- Walk: the driver's 'complete'. Conditions: the driver lies there; tasks and queue are few. -/
import Derived.Test.YtlbomnbpahmphaaGreatR28
namespace Go.Proofs.YtlbomnbpahmphaaGreat
open Go.RowKit

theorem ready_rest (D : Dr) (n : Int) : (D.ready n).tasks = D.tasks ∧ (D.ready n).queue.length ≤ D.queue.length + 1 := by
 unfold Dr.ready
 split
 · exact ⟨rfl, by omega⟩
 · exact ⟨rfl, by simp⟩

section
variable {base : Nat} {E : En} {Y : Ey} {tb : List Nat} {w0 w w' : World} {X : Ex} {D : Dr} {ex : List Bb} {kinds : List Int}

set_option maxRecDepth 100000 in
set_option maxHeartbeats 400000 in
theorem complete_e (h : DI base E Y tb w0 w X D ex) (hT : D.tasks.length ≤ 1000000) (hQ : D.queue.length ≤ 1000000) (ev n : Int) :
 Calls Tryz.prog 114 #[.pointer (some ⟨Y.d, 0, none⟩), .int .i64 ev, .int .i64 n] w fun e w' =>
  e = .returned (.tuple #[]) ∧ DAft base E Y tb w0 w w' (completeD D ev n) ex := by
 obtain ⟨R0, hR0⟩ : ∃ R0, R0 = completeD D ev n := ⟨_, rfl⟩
 rw [← hR0]
 unfold completeD at hR0
 obtain ⟨tx, tc, htv, htc, htm, htg, hta⟩ := h.oT.form
 clear hta
 have hd := h.drow
 have c3 := hd.cell (o := 3) rfl
 unfold Ey.f3 ptr at c3
 have dl := hd.lt
 have hC := Lib.hid (h.step (S' := completeS D.S ev n) fun A hm => complete_m hm ev n)
 obtain ⟨D1, hE1⟩ : ∃ D1 : Dr, D1 = { D with S := completeS D.S ev n } := ⟨_, rfl⟩
 have hE1f : D1.tasks = D.tasks ∧ D1.queue = D.queue := by rw [hE1]; exact ⟨rfl, rfl⟩
 rw [← hE1] at hC hR0
 rw [← hE1f.1] at hT hR0 htv htc htg
 rw [← hE1f.2] at hQ
 have HR := Lib.hid hR0
 have HE := Lib.hid hE1
 clear h hd hR0 hE1 hE1f
 go_enter Tryz.func114, Tryz.ntmps114
 go_wp2_with fail
 refine hC.out.mono ?_
 rintro e1 w1 ⟨rfl, hD1, hs1, _⟩
 have c5 := hD1.drow.cell (o := 5) rfl
 rw [htv] at c5
 have HD1 := Lib.hid hD1
 have HV := Lib.hid (And.intro htv htg)
 clear hD1 c3 htv htg
 go_wp2_with fail
 go_loopw [21] (fun v21 wr => ∃ (i : Nat) (Xi : Ex) (Di : Dr), i ≤ D1.tasks.length ∧ v21 = .int .i64 i ∧ DI base E Y tb w0 wr Xi Di ex ∧ Xi.tv = X.tv ∧ Di.tasks.length = D1.tasks.length ∧ Di.queue.length ≤ D1.queue.length + i ∧ wakeD ev Di (D1.tasks.length - i) i = R0 ∧ w.heap.size ≤ wr.heap.size) (fun v21 _ => D1.tasks.length - (intOf v21).toNat)
 case atStart => exact ⟨0, X, D1, Nat.zero_le _, rfl, HD1.out.frN (by exact (by repeat (first | exact .refl _ _ | assumption | apply Fr.drewN | apply Fr.drew | apply Fr.drewl | apply Fr.drewNl | apply Fr.alloc))), rfl, rfl, by omega, HR.out.symm, by first | omega | (simp; omega)⟩
 case round =>
  obtain ⟨i, Xi, Di, hi, rfl, hDi, hXi, hlen, hqu, hwk, hsz⟩ := hrel
  by_cases hil : i < D1.tasks.length
  · have hil' : (i : Int) < (D1.tasks.length : Int) := by omega
    have hi0 : (0 : Int) ≤ (i : Int) := by omega
    obtain ⟨t, ht⟩ : ∃ t, Di.tasks[i]? = some t := ⟨Di.tasks[i]'(by omega), List.getElem?_eq_getElem (by omega)⟩
    obtain ⟨b, hb, hbr, hbu⟩ := hDi.task ht
    have hoT := hDi.oT
    rw [hXi, HV.out.1, hlen] at hoT
    obtain ⟨tg, rfl⟩ := HV.out.2 (by omega)
    have ct := hoT.cell rfl (show (tb.map ptr)[i]? = some (ptr b) by simp [hb])
    unfold ptr at ct
    have b1 := hbr.cell (o := 1) rfl
    have b4 := hbr.cell (o := 4) rfl
    have b5 := hbr.cell (o := 5) rfl
    have bz := hbr.frozen
    have bl := hbr.lt
    obtain ⟨k, hk⟩ : ∃ k, D1.tasks.length - i = k + 1 := ⟨D1.tasks.length - i - 1, by omega⟩
    have hk1 : D1.tasks.length - (i + 1) = k := by omega
    rw [hk] at hwk
    unfold wakeD at hwk
    rw [task_of ht] at hwk
    obtain ⟨tf, tl, td, tn, tw, te⟩ := t
    simp only at hwk b1 b4 b5
    by_cases hc : (tl && tw && (te == ev)) = true
    · obtain ⟨⟨rfl, rfl⟩, dev⟩ : (tl = true ∧ tw = true) ∧ (te == ev) = true := by simpa [Bool.and_eq_true] using hc
      rw [if_pos hc] at hwk
      have HX := Lib.hid (And.intro hbu (And.intro hbr (And.intro hwk (And.intro hXi (And.intro hlen hqu)))))
      have hk1' := Lib.hid hk1
      clear hDi hwk hXi hlen hbu hbr ht hb hoT hk hk1 hc
      go_wp2_with fail
      refine (readyT_e (HX.out.1 _ ⟨tf, true, td, tn, false, te⟩ (by exact HX.out.2.1.set_same 4 _) (by exact Fr.set1 _ _ _ _)) (by show Di.queue.length ≤ _; have := HX.out.2.2.2.2.2; omega) (i : Int)).mono ?_
      rintro e2 w2 ⟨rfl, ⟨X2, hD3, hX2⟩, hs2⟩
      obtain ⟨D3, hE3⟩ : ∃ D3 : Dr, D3 = Dr.ready { Di with tasks := Di.tasks.set i ⟨tf, true, td, tn, false, te⟩ } (i : Int) := ⟨_, rfl⟩
      rw [← hE3] at hD3
      have hr1 := ready_rest { Di with tasks := Di.tasks.set i ⟨tf, true, td, tn, false, te⟩ } (i : Int)
      rw [← hE3] at hr1
      simp only at hr1
      have HZ := Lib.hid (And.intro hD3 (And.intro hX2 (And.intro hr1 hE3)))
      clear hD3 hX2 hr1 hE3
      simp only [World.size_setCell] at hs2
      go_wp2_with fail
      refine ⟨⟨i + 1, X2, D3, by omega, rfl, HZ.out.1.frN (by exact (by repeat (first | exact .refl _ _ | assumption | apply Fr.drewN | apply Fr.drew | apply Fr.drewl | apply Fr.drewNl | apply Fr.alloc))), HZ.out.2.1.trans HX.out.2.2.2.1, by rw [HZ.out.2.2.1.1, List.length_set]; exact HX.out.2.2.2.2.1, by have := HZ.out.2.2.1.2; have := HX.out.2.2.2.2.2; omega, by rw [hk1'.out, HZ.out.2.2.2, ← HX.out.2.2.1]; unfold Dr.put; rw [Int.toNat_natCast], by first | omega | (simp; omega)⟩, by simp [intOf]; omega⟩
    · rw [if_neg hc] at hwk
      have HX := Lib.hid (And.intro hDi (And.intro hwk (And.intro hXi hlen)))
      have hk1' := Lib.hid hk1
      clear hDi hwk hXi hlen hbu hbr ht hb hoT hk hk1
      cases tl with
      | false =>
       clear hc
       go_wp2_with fail
       refine ⟨⟨i + 1, Xi, Di, by omega, rfl, HX.out.1.frN (by exact (by repeat (first | exact .refl _ _ | assumption | apply Fr.drewN | apply Fr.drew | apply Fr.drewl | apply Fr.drewNl | apply Fr.alloc))), HX.out.2.2.1, HX.out.2.2.2, by omega, by rw [hk1'.out]; exact HX.out.2.1, by first | omega | (simp; omega)⟩, by simp [intOf]; omega⟩
      | true =>
       cases tw with
       | false =>
        clear hc
        go_wp2_with fail
        refine ⟨⟨i + 1, Xi, Di, by omega, rfl, HX.out.1.frN (by exact (by repeat (first | exact .refl _ _ | assumption | apply Fr.drewN | apply Fr.drew | apply Fr.drewl | apply Fr.drewNl | apply Fr.alloc))), HX.out.2.2.1, HX.out.2.2.2, by omega, by rw [hk1'.out]; exact HX.out.2.1, by first | omega | (simp; omega)⟩, by simp [intOf]; omega⟩
       | true =>
        have dev : (te == ev) = false := by simpa using hc
        clear hc
        go_wp2_with fail
        refine ⟨⟨i + 1, Xi, Di, by omega, rfl, HX.out.1.frN (by exact (by repeat (first | exact .refl _ _ | assumption | apply Fr.drewN | apply Fr.drew | apply Fr.drewl | apply Fr.drewNl | apply Fr.alloc))), HX.out.2.2.1, HX.out.2.2.2, by omega, by rw [hk1'.out]; exact HX.out.2.1, by first | omega | (simp; omega)⟩, by simp [intOf]; omega⟩
  · have hil' : ¬ (i : Int) < (D1.tasks.length : Int) := by omega
    have hie : D1.tasks.length - i = 0 := by omega
    rw [hie] at hwk
    have hwk : Di = R0 := hwk
    have HX := Lib.hid (And.intro hDi hwk)
    clear hDi hwk hXi hlen hqu
    go_wp2_with fail
    refine bodyPost_end (results_none rfl _ _ _) rfl ?_
    rw [← HX.out.2]
    exact ⟨rfl, ⟨_, HX.out.1.frN (by exact (by repeat (first | exact .refl _ _ | assumption | apply Fr.drewN | apply Fr.drew | apply Fr.drewl | apply Fr.drewNl | apply Fr.alloc)))⟩, by first | omega | (simp; omega)⟩
end

end Go.Proofs.YtlbomnbpahmphaaGreat
