/- Walk: 'Drive': the trace of a script. Conditions: the engine and its machine lie there; the program is checked; acts and fuel are few. -/
import Derived.WalkMore
import Derived.Test.YtlbomnbpahmphaaGreatR30
import Derived.Test.YtlbomnbpahmphaaGreatR38
namespace Go.Proofs.YtlbomnbpahmphaaGreat
open Go.RowKit

def Ax.sc (x : Ax) : Sc := ⟨x.k, x.a, x.n, x.args⟩

section
variable {base : Nat} {P : Pr} {m : Nat} {A : Nat → Prop} {E : En} {Y : Ey} {tb : List Nat} {w0 w w' : World} {X : Ex} {D : Dr} {S : St} {bs : List Bb} {kinds : List Int} {s : Nat}

/-- A machine, and boxes beside it that were there ahead of it. -/
theorem Pk.init (hm : MInv base P A w m S) (hA : ∀ x, A x → s ≤ x) (hb : ∀ e ∈ bs, Row w e.1 e.2.1 e.2.2 ∧ e.1 < s ∧ base ≤ e.1) (hn : (bs.map (·.1)).Nodup) (hf : Fr (fun x => base ≤ x) w0 w) : Pk base P m w0 w S bs [] :=
 ⟨⟨A, hm, fun e he => ⟨(hb e he).1, fun ha => by have := hA _ ha; have := (hb e he).2.1; omega, (hb e he).2.2⟩, hn, (fun o ho => by cases ho), List.Pairwise.nil⟩, hf⟩

/-- What comes of a script whose first act is known. -/
theorem runD_step {a : Sc} {l : List Sc} {R1 : Dr} {R2 : Bool} (h : actD E D a = (R1, R2)) : runD E D (a :: l) = if R1.over = true then R1 else runD E (if R2 = true then R1 else R1.tell [⟨1, a.a, 0, 0⟩]) l := by
 rw [runD]
 unfold nextD
 rw [h]
 simp only
 by_cases h1 : R1.over = true
 · simp only [if_pos h1]
 · simp only [if_neg h1]
   cases R2 with
   | true => simp only [if_true, if_neg h1]
   | false =>
    have : ¬ (R1.tell [⟨1, a.a, 0, 0⟩]).over = true := h1
    simp only [Bool.false_eq_true, if_false, if_neg this]

/-- An act, whatever it is. -/
theorem act_e (h : DI base E Y tb w0 w X D bs) (x : Ax) (la : Option Addr) (lc : Nat) (hP : PrGood E.P kinds) (hok : DOk D) {b : Nat} (hF : DFew b D) (hb : b ≤ 100) (hfu : E.fuel ≤ 3000) (hargs : ∀ x ∈ E.P.cos, x.args ≤ 1000000000) (hc : IntsAt base w0 la x.args) :
 Calls Tryz.prog 90 #[.pointer (some ⟨Y.d, 0, none⟩), .agg #[.int .i64 x.k, .int .i64 x.a, .int .i64 x.n, .slice la x.args.length lc], .int .i64 E.most] w fun e w' => ∃ R1 R2, actD E D x.sc = (R1, R2) ∧ e = .returned (.bool R2) ∧ BAft base E Y w0 w w' R1 bs := by
 obtain ⟨k, a, n, l⟩ := x
 show Calls _ _ _ _ fun e w' => ∃ R1 R2, actD E D ⟨k, a, n, l⟩ = (R1, R2) ∧ _ ∧ _
 simp only at hc ⊢
 by_cases h0 : k = 0
 · subst h0
   exact (act0_e h a n la lc l hF hb hargs hc).mono fun e w' he => ⟨_, _, act_0 a n l, he⟩
 by_cases h1 : k = 1
 · subst h1
   cases hl : D.live a with
   | true => exact (act1_e h a n la lc l hP hok hF hb hfu hl).mono fun e w' he => ⟨_, _, (act_1 a n l).trans (if_pos hl), he⟩
   | false => exact (act1n_e h a n la lc l hl).mono fun e w' he => ⟨_, _, (act_1 a n l).trans (if_neg (by simp [hl])), he⟩
 by_cases h2 : k = 2
 · subst h2
   cases hq : D.queue with
   | nil => exact (act2_e h a n la lc l hF hb hq).mono fun e w' he => ⟨_, _, act_2 a n l hq, he⟩
   | cons m q => exact (act2p_e h a n la lc l hP hok hF hb hfu hq).mono fun e w' he => ⟨_, _, act_2' a n l hq, he⟩
 by_cases h3 : k = 3
 · subst h3
   cases hl : D.live a with
   | true => exact (act3_e h a n la lc l hF hb hl).mono fun e w' he => ⟨_, _, (act_3 a n l).trans (if_pos hl), he⟩
   | false => exact (act3n_e h a n la lc l hl).mono fun e w' he => ⟨_, _, (act_3 a n l).trans (if_neg (by simp [hl])), he⟩
 by_cases h4 : k = 4
 · subst h4
   cases hl : D.live a with
   | true => exact (act4_e h a n la lc l hP hok hF hb hfu hl).mono fun e w' he => ⟨_, _, (act_4 a n l).trans (if_pos hl), he⟩
   | false => exact (act4n_e h a n la lc l hl).mono fun e w' he => ⟨_, _, (act_4 a n l).trans (if_neg (by simp [hl])), he⟩
 by_cases h5 : k = 5
 · subst h5
   exact (act5_e h a n la lc l hF hb).mono fun e w' he => ⟨_, _, act_5 a n l, he⟩
 by_cases h6 : k = 6
 · subst h6
   cases hl : (D.known a && (D.task a).done) with
   | true => exact (act6_e h a n la lc l hF hb hl).mono fun e w' he => ⟨_, _, (act_6 a n l).trans (if_pos hl), he⟩
   | false => exact (act6n_e h a n la lc l hl).mono fun e w' he => ⟨_, _, (act_6 a n l).trans (if_neg (by simp [hl])), he⟩
 exact (actx_e h a n la lc l k ⟨h0, h1, h2, h3, h4, h5, h6⟩).mono fun e w' he => ⟨_, _, act_x k a n l ⟨h0, h1, h2, h3, h4, h5, h6⟩, he⟩

def Ex.nil : Ex := ⟨.slice none 0 0, .slice none 0 0, .slice none 0 0, .slice none 0 0⟩

set_option maxRecDepth 100000 in
set_option maxHeartbeats 1000000 in
theorem drive_e (hd : Y.d = w.heap.size + 1) (words : Int) (hp : Pk base E.P Y.m w0 w (St.new words) (fbox Y Ex.nil :: ebox Y E) []) (hopn : BoolsAt base w0 Y.oo E.opn) (hP : PrGood E.P kinds) (hfu : E.fuel ≤ 3000) (hargs : ∀ x ∈ E.P.cos, x.args ≤ 1000000000)
 (tasks : Int) (hE : E.most = max tasks 0) (ao : Option Addr) (ac : Nat) (l : List Ax) (hl : AxAt base w0 ao l) (hn : l.length ≤ 45) :
 Calls Tryz.prog 58 #[.agg #[Y.f0, Y.f1, Y.f2, Y.f3, Y.f4], .slice ao l.length ac, .int .i64 tasks] w fun e w' => ∃ tr, e = .returned tr ∧ Own w' tr 74 4 (runD E (Dr.new words) (l.map Ax.sc)).trace.length (evs (runD E (Dr.new words) (l.map Ax.sc)).trace) ∧ (∀ g, tr.ownBlock = some g → base ≤ g) ∧ Fr (fun x => base ≤ x) w0 w' := by
 obtain ⟨R0, hR0⟩ : ∃ R0, R0 = runD E (Dr.new words) (l.map Ax.sc) := ⟨_, rfl⟩
 rw [← hR0]
 have hD0 : DI base E Y [] w0 ((w.alloc (.cells #[Y.f0, Y.f1, Y.f2, Y.f3, Y.f4] 125)).alloc (.cells #[Y.f0, Y.f1, Y.f2, Y.f3, Y.f4, .slice none 0 0, .slice none 0 0, .slice none 0 0, .bool false] 165)) Ex.nil (Dr.new words) [] := by
  have h1 := (hp.frN ((Fr.refl Non w).alloc (.cells #[Y.f0, Y.f1, Y.f2, Y.f3, Y.f4] 125))).box [Y.f0, Y.f1, Y.f2, Y.f3, Y.f4, .slice none 0 0, .slice none 0 0, .slice none 0 0, .bool false] 165
  have h2 := (((h1.nil 40 3).nil 181 1).nil 3 1).nil 74 4
  rw [World.size_alloc, ← hd] at h2
  refine ⟨?_, rfl, hopn⟩
  have e : (dbox Y Ex.nil (Dr.new words).over :: fbox Y Ex.nil :: (ebox Y E ++ (tbs [] (Dr.new words).tasks ++ []))) = (Y.d, 165, [Y.f0, Y.f1, Y.f2, Y.f3, Y.f4, .slice none 0 0, .slice none 0 0, .slice none 0 0, .bool false]) :: fbox Y Ex.nil :: ebox Y E := by
   simp [dbox, Ex.nil, Dr.new, tbs]
  rw [e]
  exact h2
 have hfw : Fr Non w ((w.alloc (.cells #[Y.f0, Y.f1, Y.f2, Y.f3, Y.f4] 125)).alloc (.cells #[Y.f0, Y.f1, Y.f2, Y.f3, Y.f4, .slice none 0 0, .slice none 0 0, .slice none 0 0, .bool false] 165)) := by exact (by repeat (first | exact .refl _ _ | assumption | apply Fr.drewN | apply Fr.drew | apply Fr.drewl | apply Fr.drewNl | apply Fr.alloc))
 have h0l : (0 : Int) ≤ (l.length : Int) := by omega
 have HH := Lib.hid (And.intro hP (And.intro hfu (And.intro hargs (And.intro hl (And.intro hR0 hE)))))
 have hlw := AxAt.fr hl hp.fr (fun x h => h)
 clear hp hopn hP hfu hargs hR0 hl
 go_enter Tryz.func58, Tryz.ntmps58
 go_wp2_with fail
 go_step3
 go_wp2_with fail
 go_step3
 go_wp2_with fail
 generalize (w.alloc (.cells #[Y.f0, Y.f1, Y.f2, Y.f3, Y.f4] 125)).alloc (.cells #[Y.f0, Y.f1, Y.f2, Y.f3, Y.f4, .slice none 0 0, .slice none 0 0, .slice none 0 0, .bool false] 165) = w2 at *
 obtain ⟨d, hdd⟩ : ∃ d, d = w.heap.size + 1 := ⟨_, rfl⟩
 rw [← hdd]
 rw [← hdd] at hd
 have HD := Lib.hid (And.intro hd hdd)
 clear hd hdd
 go_loopw [16] (fun v16 wr => ∃ (i : Nat) (tb : List Nat) (X : Ex) (D : Dr), i ≤ l.length ∧ v16 = .int .i64 i ∧ DI base E Y tb w0 wr X D [] ∧ DOk D ∧ DFew (2 * i) D ∧ D.over = false ∧ runD E D ((l.drop i).map Ax.sc) = R0) (fun v16 _ => l.length - (intOf v16).toNat)
 case atStart => exact ⟨0, _, _, _, by omega, rfl, hD0, newD_ok words, newD_few words, rfl, HH.out.2.2.2.2.1.symm⟩
 case round =>
  obtain ⟨i, tb, X, D, hi, rfl, hDI, hok, hF, hov, hrun⟩ := hrel
  by_cases hlt : i < l.length
  · obtain ⟨x, hx⟩ : ∃ x, l[i]? = some x := ⟨l[i], List.getElem?_eq_getElem hlt⟩
    obtain ⟨sb, so, la, lc, rfl, c0, c1, c2, c3, c4⟩ := HH.out.2.2.2.1 i x hx
    have hH : High base (fun x => base ≤ x) := fun x h => h
    have e0 := (c0.fr hDI.pk.fr hH).2
    have e1 := (c1.fr hDI.pk.fr hH).2
    have e2 := (c2.fr hDI.pk.fr hH).2
    have e3 := (c3.fr hDI.pk.fr hH).2
    clear c0 c1 c2 c3 hlw hD0 hfw
    have hdrop : (l.drop i).map Ax.sc = x.sc :: (l.drop (i + 1)).map Ax.sc := by
     rw [List.drop_eq_getElem_cons hlt, List.map_cons]
     rw [List.getElem?_eq_getElem hlt] at hx
     cases hx
     rfl
    have hbx := hDI.box [.int .i64 x.k, .int .i64 x.a, .int .i64 x.n, .slice la x.args.length lc] 69
    have hA := Lib.hid fun wz (f : Fr Non (wr.alloc (.cells #[.int .i64 x.k, .int .i64 x.a, .int .i64 x.n, .slice la x.args.length lc] 69)) wz) => act_e (hbx.frN f) x la lc HH.out.1 hok hF (by omega) HH.out.2.1 HH.out.2.2.1 c4
    have hi0 : (0 : Int) ≤ (i : Int) := by omega
    have hi1 : (i : Int) < (l.length : Int) := by omega
    have hmax := HH.out.2.2.2.2.2
    have HR := Lib.hid (And.intro hok (And.intro hF (And.intro hrun hdrop)))
    have hdl := hDI.drow.lt
    rw [HD.out.1] at hdl hA
    rw [hmax] at hA
    clear hDI hok hF hrun hdrop hbx c4 hmax
    go_wp2_with fail
    refine (hA.out _ (by exact (by repeat (first | exact .refl _ _ | assumption | apply Fr.drewN | apply Fr.drew | apply Fr.drewl | apply Fr.drewNl | apply Fr.alloc)))).mono ?_
    rintro e1 w1 ⟨R1, R2, hR12, rfl, ⟨tb1, X1, hD1⟩, hs1⟩
    have c8 := hD1.drow.cell (o := 8) rfl
    have c7 := hD1.drow.cell (o := 7) rfl
    rw [HD.out.1] at c8 c7
    have b1 := (hD1.exrow List.mem_cons_self).cell (o := 1) rfl
    have hrun := HR.out.2.2.1
    rw [HR.out.2.2.2, runD_step hR12] at hrun
    have hF1 := actD_few HR.out.2.1 (by omega) HH.out.1 HH.out.2.1 x.sc
    have hok1 := actD_ok (E := E) HR.out.1 x.sc
    rw [hR12] at hF1 hok1
    simp only at hF1 hok1
    have HF1 := Lib.hid hF1
    have HO1 := Lib.hid hok1
    have hdl1 := hD1.drow.lt
    rw [HD.out.1] at hdl1
    have HD1 := Lib.hid (hD1.less (List.sublist_cons_self _ _))
    clear hD1 hF1 hok1 hR12 e0 e1 e2 e3 hA
    cases hov1 : R1.over with
    | true =>
     rw [hov1] at c8
     rw [if_pos hov1] at hrun
     have HU := Lib.hid hrun
     clear hrun hov1
     go_wp2_with fail
     rw [Exit.noGoto_ret]
     go_ret
     rw [← HU.out]
     have hz := HD1.out.frN (by exact (by repeat (first | exact .refl _ _ | assumption | apply Fr.drewN | apply Fr.drew | apply Fr.drewl | apply Fr.drewNl | apply Fr.alloc)))
     exact ⟨X1.rv, rfl, hz.oR, fun g hg => hz.pk.own_base (o := oR X1 R1.trace) List.mem_cons_self hg, hz.pk.fr⟩
    | false =>
     rw [hov1] at c8
     rw [if_neg (by simp [hov1])] at hrun
     have HV := Lib.hid hov1
     cases R2 with
     | true =>
      rw [if_pos rfl] at hrun
      have HU := Lib.hid hrun
      clear hrun hov1
      go_wp2_with fail
      exact ⟨⟨i + 1, tb1, X1, R1, by omega, rfl, HD1.out.frN (by exact (by repeat (first | exact .refl _ _ | assumption | apply Fr.drewN | apply Fr.drew | apply Fr.drewl | apply Fr.drewNl | apply Fr.alloc))), HO1.out, HF1.out.mono (by omega), HV.out, HU.out⟩, by simp [intOf]; omega⟩
     | false =>
      rw [if_neg (by simp)] at hrun
      have hT := Lib.hid fun wz (f : Fr Non w1 wz) sb (hr : Row wz sb 74 [.int .i64 1, .int .i64 x.a, .int .i64 0, .int .i64 0]) => tell_e (HD1.out.frN f) sb 0 1 1 [⟨1, x.a, 0, 0⟩] rfl (by omega) hr.news (by have := HF1.out.tr; omega)
      rw [HD.out.1] at hT
      have hF2 := HF1.out.up (Few1.tell R1 [⟨1, x.a, 0, 0⟩]) (by omega) (Nat.le_of_ble_eq_true rfl) (by omega)
      have hok2 := HO1.out.tell [⟨1, x.a, 0, 0⟩]
      have hov2 : (R1.tell [⟨1, x.a, 0, 0⟩]).over = false := hov1
      obtain ⟨R3, hR3⟩ : ∃ R3, R3 = R1.tell [⟨1, x.a, 0, 0⟩] := ⟨_, rfl⟩
      have hrun : runD E (R1.tell [⟨1, x.a, 0, 0⟩]) ((l.drop (i + 1)).map Ax.sc) = R0 := hrun
      rw [← hR3] at hT hF2 hok2 hov2 hrun
      have HU := Lib.hid (And.intro hrun (And.intro hF2 (And.intro hok2 hov2)))
      clear hrun hov1 hF2 hok2 hov2 hR3
      go_wp2_with fail
      refine (hT.out _ (by exact (by repeat (first | exact .refl _ _ | assumption | apply Fr.drewN | apply Fr.drew | apply Fr.drewl | apply Fr.drewNl | apply Fr.alloc))) _ (by exact Row.new' rfl)).mono ?_
      rintro e3 w3 ⟨rfl, ⟨X3, hD3⟩, hs3⟩
      have HD3 := Lib.hid hD3
      clear hD3
      go_wp2_with fail
      exact ⟨⟨i + 1, tb1, X3, R3, by omega, rfl, HD3.out.frN (by exact (by repeat (first | exact .refl _ _ | assumption | apply Fr.drewN | apply Fr.drew | apply Fr.drewl | apply Fr.drewNl | apply Fr.alloc))), HU.out.2.2.1, HU.out.2.1.mono (by omega), HU.out.2.2.2, HU.out.1⟩, by simp [intOf]; omega⟩
  · obtain rfl : i = l.length := by omega
    have c7 := hDI.drow.cell (o := 7) rfl
    rw [HD.out.1] at c7
    have hdl := hDI.drow.lt
    rw [HD.out.1] at hdl
    have hR : D = R0 := by rw [List.drop_length] at hrun; exact hrun
    have HU := Lib.hid (And.intro hDI hR)
    clear hDI hok hF hov hrun hlw hD0 hfw hR
    go_wp2_with fail
    rw [Exit.noGoto_ret]
    go_ret
    rw [← HU.out.2]
    have hz := HU.out.1.frN (by exact (by repeat (first | exact .refl _ _ | assumption | apply Fr.drewN | apply Fr.drew | apply Fr.drewl | apply Fr.drewNl | apply Fr.alloc)))
    exact ⟨X.rv, rfl, hz.oR, fun g hg => hz.pk.own_base (o := oR X D.trace) List.mem_cons_self hg, hz.pk.fr⟩
end

end Go.Proofs.YtlbomnbpahmphaaGreat
