/- Walks: the machine's 'run'. Conditions: the program is checked; the machine stands well; fuel, calls, events and blocks are few. -/
import Derived.Test.YtlbomnbpahmphaaGreatR16
namespace Go.Proofs.YtlbomnbpahmphaaGreat
open Go.RowKit

def fuelOf (w : World) (m : Nat) : Nat := match w.cell? ⟨m, 7, none⟩ with | some (.int _ n) => n.toNat | _ => 0
theorem runS_some (P : Pr) (f : Nat) (r : Int × Int) (S : St) : runS P f (some r) S = (r, S) := by cases f <;> rfl

/-- So much of each, with the fuel that is left, is few. -/
def Few (S : St) : Prop := S.told.length + S.fuel.toNat ≤ 1000000 ∧ S.mem.blocks.length + S.fuel.toNat ≤ 1000000 ∧ S.stack.length + S.fuel.toNat ≤ 1000000
theorem Few.one {S S' : St} (h : Few S) {f : Nat} (hf : S.fuel = (f : Int) + 1) (k : Kept 1 { S with fuel := (f : Int) } S') : Few S' := by
 obtain ⟨h1, h2, h3⟩ := h
 obtain ⟨k1, k2, k3, k4⟩ := k
 simp only at k1 k2 k3 k4
 rw [hf] at h1 h2 h3
 unfold Few
 rw [k4]
 omega

section
variable {base : Nat} {P : Pr} {kinds : List Int} {A : Nat → Prop} {w : World} {m : Nat} {S : St}

theorem MInv.fuelOf (h : MInv base P A w m S) : fuelOf w m = S.fuel.toNat := by
 obtain ⟨L, h⟩ := h
 unfold Go.Proofs.YtlbomnbpahmphaaGreat.fuelOf
 rw [h.c7]

set_option maxRecDepth 100000 in
set_option maxHeartbeats 2000000 in
theorem run_m (h : MInv base P A w m S) (hP : PrGood P kinds) (hfew : Few S) {lo : Nat} {v : Value} {o : Out} (hr : Res w lo v o) (hg : o = none → S.stack ≠ [] ∧ GoodL P kinds S.stack) :
 Calls Tryz.prog 47 #[.pointer (some ⟨m, 0, none⟩), v] w fun e w' => e = .returned (.agg #[.int .i64 (runS P S.fuel.toNat o S).1.1, .int .i64 (runS P S.fuel.toNat o S).1.2]) ∧ Aft base P A w w' m (runS P S.fuel.toNat o S).2 := by
 obtain ⟨L, hL⟩ := h
 have hm := hL.mlt
 have hbase := hL.base_le
 have hlt := hL.lt
 obtain ⟨R, hR⟩ : ∃ R, R = runS P S.fuel.toNat o S := ⟨_, rfl⟩
 rw [← hR]
 have HH := Lib.hid (And.intro hL (And.intro hP (And.intro hfew (And.intro hr hg))))
 have HR := Lib.hid hR
 have HL := Lib.hid (And.intro hlt hbase)
 clear hL hP hfew hr hg hR hlt hbase
 go_enter Tryz.func47, Tryz.ntmps47
 go_wp2_with fail
 have hf0 : Fr Non w (w.alloc (.cells #[.int .i64 0, .int .i64 0] 44)) := by exact (by repeat (first | exact .refl _ _ | assumption | apply Fr.drewN | apply Fr.drew | apply Fr.drewl | apply Fr.drewNl | apply Fr.alloc))
 have hs0 : (w.alloc (.cells #[.int .i64 0, .int .i64 0] 44)).heap.size = w.heap.size + 1 := by simp
 have hrb : Row (w.alloc (.cells #[.int .i64 0, .int .i64 0] 44)) w.heap.size 44 [.int .i64 0, .int .i64 0] := Row.new' rfl
 generalize w.alloc (.cells #[.int .i64 0, .int .i64 0] 44) = W at *
 have HW := Lib.hid (And.intro hf0 hrb)
 clear hf0 hrb
 go_loopw [1] (fun v1 wr => ∃ Ar Sr o1, MInv base P Ar wr m Sr ∧ (∀ x, Ar x → A x ∨ W.heap.size ≤ x) ∧ Fr A W wr ∧ Res wr 0 v1 o1 ∧ R = runS P Sr.fuel.toNat o1 Sr ∧ (o1 = none → Sr.stack ≠ [] ∧ GoodL P kinds Sr.stack) ∧ Few Sr ∧ Row wr w.heap.size 44 [.int .i64 0, .int .i64 0]) (fun _ wr => fuelOf wr m)
 case atStart => exact ⟨A, S, o, ⟨L, HH.out.1.frN HW.out.1⟩, fun x hx => Or.inl hx, Fr.refl _ _, (HH.out.2.2.2.1.fr HW.out.1 (fun _ h => h.elim)).lo (Nat.zero_le _), HR.out, HH.out.2.2.2.2, HH.out.2.2.1, HW.out.2⟩
 case round =>
  obtain ⟨Ar, Sr, o1, hI, hAr, hFr, hRes, hEq, hGood, hFew, hBox⟩ := hrel
  have hszr := hFr.size
  have hf7 := hI.fuelOf
  rcases hRes with ⟨rfl, rfl⟩ | ⟨rb, k, n, rfl, rfl, hrow, _⟩
  · obtain ⟨Lr, hML⟩ := hI
    have c7 := hML.c7
    by_cases hfu : Sr.fuel ≤ 0
    · have hd : decide (Sr.fuel ≤ 0) = true := decide_eq_true hfu
      obtain ⟨b0, b1, bz⟩ := row2 hBox
      have hz : Sr.fuel.toNat = 0 := by omega
      rw [hz] at hEq
      have HX := Lib.hid (And.intro hML (And.intro hAr (And.intro hFr (And.intro hEq hBox))))
      clear hML hAr hFr hEq hGood hFew hBox hf7 hz
      go_wp2_with fail
      obtain ⟨hML, hAr, hFr, hEq, hBox⟩ := HX.out
      refine bodyPost_ret (v := .agg #[.int .i64 4, .int .i64 0]) (by simp [results, Tryz.results47, go_sem, b0, b1]) rfl ⟨?_, ?_⟩
      · rw [hEq]; rfl
      · rw [hEq]
        exact Aft.box HW.out.1 ⟨Ar, ⟨Lr, hML⟩, hAr, hFr⟩ (E := fun x => x = w.heap.size) (by exact (Fr.set1 _ _ _ _).trans (Fr.set1 _ _ _ _)) (fun x hx => by omega) HL.out.1 HL.out.2
    · obtain ⟨f, hf⟩ := Int.eq_ofNat_of_zero_le (show 0 ≤ Sr.fuel - 1 by omega)
      have hf1 : Sr.fuel = (f : Int) + 1 := by omega
      have hd : ¬ ((f : Int) + 1 ≤ 0) := by omega
      have hfl : f ≤ 1000000 := by have := hFew.1; rw [hf1] at this; omega
      have hw : IntKind.i64.wrap (f : Int) = (f : Int) := IntWalk.i64_in _ (by omega)
      rw [hf1] at c7 hf7
      have hmz := hML.row.frozen
      obtain ⟨hne, hgl⟩ := hGood rfl
      obtain ⟨c, cs, hs⟩ := List.exists_cons_of_ne_nil hne
      have hup := hML.upNums (task := Sr.task) (fuel := (f : Int)) (by exact hML.row.set_same 7 _) (Fr.set1 wr m 7 (.int .i64 (f : Int)))
      have hg1 := hgl
      rw [hs] at hg1
      obtain ⟨i, x, hat, hx⟩ := hg1.1.inst
      obtain ⟨hok, _, _, hbig⟩ := fell HH.out.2.1 hg1.1 hat hx
      have hFew' := hFew
      unfold Few at hFew'
      have hS := Lib.hid (step_m hup (by show Sr.stack.length ≤ _; omega) (by show Sr.told.length ≤ _; omega) (by show Sr.mem.blocks.length < _; omega) HH.out.2.1.pr (fun d hd hr => (hgl.mem hd).into hr) (c := c) (cs := cs) hs hat hx hok (by omega))
      have hso := stepS_ok (S := { Sr with fuel := (f : Int) }) HH.out.2.1 hs hgl
      have hEq2 : R = runS P f (stepS P { Sr with fuel := (f : Int) }).1 (stepS P { Sr with fuel := (f : Int) }).2 := by
       rw [hEq, hf1, show ((f : Int) + 1).toNat = f + 1 by omega]
       rfl
      have HX := Lib.hid (And.intro hML (And.intro hAr (And.intro hFr (And.intro hEq2 (And.intro hBox (And.intro hso (And.intro hFew hf1)))))))
      clear hML hAr hFr hEq hEq2 hGood hFew hFew' hBox hup hgl hg1 hso hok hx hat hs hne hf
      have hmne : ¬ m = w.heap.size := by omega
      go_wp2_with fail
      refine hS.out.mono ?_
      rintro e1 w2 ⟨v2, rfl, hres, A2, hI2, hA2, hF2⟩
      obtain ⟨hML, hAr, hFr, hEq2, hBox, hso, hFew, hf1⟩ := HX.out
      have hFm : Fr Ar wr (wr.setCell ⟨m, 7, none⟩ (.int .i64 (f : Int))) := (Fr.set1 wr m 7 (.int .i64 (f : Int))).mono fun x _ hx => hx ▸ hML.om
      have hbne : ¬ Ar w.heap.size := fun e => by
       rcases hAr _ e with h | h
       · have := HL.out.1 _ h; omega
       · omega
      have hBox2 := (hFm.trans hF2).row hBox hbne
      have hA2' : ∀ x, A2 x → A x ∨ W.heap.size ≤ x := fun x hx => by
       rcases hA2 x hx with h | h
       · exact hAr x h
       · right; simp at h; omega
      have hFr2 : Fr A W w2 := hFr.then (hFm.trans hF2) (fun x hx e => by
       rcases hAr x e with h | h
       · exact h
       · omega)
      have hk4 := hso.1.fuel
      have hf72 := hI2.fuelOf
      have HY := Lib.hid (And.intro hI2 (And.intro hA2' (And.intro hFr2 (And.intro hres (And.intro hEq2 (And.intro hso.2 (And.intro (hFew.one hf1 hso.1) hBox2)))))))
      have hmeas : fuelOf w2 m < fuelOf wr m := by
       rw [hf72, hf7, hk4]
       show (f : Int).toNat < _
       omega
      clear hI2 hA2 hF2 hML hAr hFr hEq2 hBox hso hFew hFm hBox2 hA2' hFr2 hres hf72
      go_wp2_with fail
      obtain ⟨hI2, hA2', hFr2, hres, hEq2, hg2, hfew2, hBox2⟩ := HY.out
      refine ⟨⟨A2, _, _, hI2, hA2', hFr2, hres.lo (Nat.zero_le _), ?_, hg2, hfew2, hBox2⟩, hmeas⟩
      rw [hEq2, hk4]
      rfl
  · obtain ⟨d0, d1, dz⟩ := row2 hrow
    obtain ⟨b0, b1, bz⟩ := row2 hBox
    have hrl := hrow.lt
    have HX := Lib.hid (And.intro hI (And.intro hAr (And.intro hFr (And.intro hEq hBox))))
    clear hI hAr hFr hEq hGood hFew hBox hf7 hrow
    go_wp2_with fail
    obtain ⟨⟨Lr, hML⟩, hAr, hFr, hEq, hBox⟩ := HX.out
    rw [runS_some] at hEq
    refine bodyPost_ret (v := .agg #[.int .i64 k, .int .i64 n]) (by simp [results, Tryz.results47, go_sem, b0, b1]) rfl ⟨?_, ?_⟩
    · rw [hEq]
    · rw [hEq]
      exact Aft.box HW.out.1 ⟨Ar, ⟨Lr, hML⟩, hAr, hFr⟩ (E := fun x => x = w.heap.size) (by exact (Fr.set1 _ _ _ _).trans (Fr.set1 _ _ _ _)) (fun x hx => by omega) HL.out.1 HL.out.2
end

end Go.Proofs.YtlbomnbpahmphaaGreat

/- Walks: the machine's 'Poll' and 'Cancel'. Conditions: the program is checked; fuel, events and blocks are few. -/
namespace Go.Proofs.YtlbomnbpahmphaaGreat
open Go.RowKit

/-- Few enough to begin with that fuel. -/
def FewB (S : St) (fuel : Int) : Prop := S.told.length + fuel.toNat + 1 ≤ 1000000 ∧ S.mem.blocks.length + fuel.toNat + 1 ≤ 1000000 ∧ fuel.toNat + 1 ≤ 1000000

section
variable {base : Nat} {P : Pr} {kinds : List Int} {A : Nat → Prop} {w : World} {m : Nat} {S : St} {L : Lay}

theorem word_m (h : ML base P A w m S L) (p : Bool) (a n : Int) :
 Calls Tryz.prog 49 #[.pointer (some ⟨m, 0, none⟩), .agg #[.bool p, .int .i64 a, .int .i64 n]] w fun e w' => e = .returned (.tuple #[.int .i64 (S.mem.word ⟨p, a, n⟩).1, .int .i64 (S.mem.word ⟨p, a, n⟩).2]) ∧ Fr Non w w' :=
 word_c h.c2 h.mem p a n

theorem begin_m (h : ML base P A w m S L) (task fuel : Int) :
 Calls Tryz.prog 46 #[.pointer (some ⟨m, 0, none⟩), .int .i64 task, .int .i64 fuel] w fun e w' => e = .returned (.tuple #[]) ∧ ML base P A w' m (S.begin task fuel) { L with sv := .slice none 0 0, bl := [] } ∧ Fr (fun x => x = m) w w' := by
 refine (begin_c h.row task fuel).mono ?_
 rintro e w' ⟨rfl, h1, h2⟩
 refine ⟨rfl, ?_, h2⟩
 exact h.upStack (sv' := .slice none 0 0) (bl' := []) (st' := []) h1 h2 (Own.nil _ _ _) (fun x hx => by cases hx) rfl List.nodup_nil (fun x hx => by cases hx) (fun i b c hb => by simp at hb)

theorem FewB.begin {fuel : Int} (h : FewB S fuel) (task : Int) {S' : St} (k : Kept 1 (S.begin task fuel) S') : Few S' := by
 obtain ⟨h1, h2, h3⟩ := h
 obtain ⟨k1, k2, k3, k4⟩ := k
 simp only [St.begin, List.length_nil] at k1 k2 k3 k4
 unfold Few
 rw [k4]
 omega

set_option maxRecDepth 100000 in
set_option maxHeartbeats 4000000 in
theorem poll_m (h : MInv base P A w m S) (hP : PrGood P kinds) (p : Bool) (a n : Int) (task fuel : Int) (hfew : FewB S fuel) :
 Calls Tryz.prog 15 #[.pointer (some ⟨m, 0, none⟩), .agg #[.bool p, .int .i64 a, .int .i64 n], .int .i64 task, .int .i64 fuel] w fun e w' =>
  e = .returned (.tuple #[.agg #[.int .i64 (pollS P S ⟨p, a, n⟩ task fuel).1.1, .int .i64 (pollS P S ⟨p, a, n⟩ task fuel).1.2], .int .i64 (pollS P S ⟨p, a, n⟩ task fuel).2.fuel]) ∧ Aft base P A w w' m (pollS P S ⟨p, a, n⟩ task fuel).2 := by
 obtain ⟨L, hL⟩ := h
 have hm := hL.mlt
 obtain ⟨R, hR⟩ : ∃ R, R = pollS P S ⟨p, a, n⟩ task fuel := ⟨_, rfl⟩
 rw [← hR]
 unfold pollS at hR
 have hgok : Ok1 P kinds 1 (S.begin task fuel) (goOnS P (S.begin task fuel) ⟨p, a, n⟩ (Cl.new Wd.zero 0 0 0)) := goOnS_ok hP (by exact trivial) _ _ rfl (Or.inl rfl) (by simp [Cl.new]) (fun d l e => by simp [St.begin] at e)
 have hG := Lib.hid fun w1 (f : ML base P A w1 m (S.begin task fuel) { L with sv := .slice none 0 0, bl := [] }) => goOn_m f (by simp [St.begin]) hP.pr p a n (Cl.new Wd.zero 0 0 0) rfl (by simp [Cl.new]) none 0 0
 generalize goOnS P (S.begin task fuel) ⟨p, a, n⟩ (Cl.new Wd.zero 0 0 0) = g at *
 obtain ⟨o, Sg⟩ := g
 simp only at hR hgok hG
 have hfg : Sg.fuel = fuel := hgok.1.fuel
 have hFew := hfew.begin task hgok.1
 simp only at hFew
 have HR := Lib.hid hR
 have HH := Lib.hid (And.intro hL (And.intro hP (And.intro hgok (And.intro hfg hFew))))
 clear hL hP hfew hR hgok hfg hFew
 have hn1 : ¬ m = w.heap.size := by omega
 have hn2 : ¬ m = w.heap.size + 1 := by omega
 go_enter Tryz.func15, Tryz.ntmps15
 go_wp2_with fail
 have hf0 : Fr Non w ((w.alloc (.cells #[.bool p, .int .i64 a, .int .i64 n] 40)).alloc (.cells #[.int .i64 0, .int .i64 0] 44)) := by exact (by repeat (first | exact .refl _ _ | assumption | apply Fr.drewN | apply Fr.drew | apply Fr.drewl | apply Fr.drewNl | apply Fr.alloc))
 have hrf : Row ((w.alloc (.cells #[.bool p, .int .i64 a, .int .i64 n] 40)).alloc (.cells #[.int .i64 0, .int .i64 0] 44)) w.heap.size 40 [.bool p, .int .i64 a, .int .i64 n] := (Row.new' rfl).alloc _
 have hrb : Row ((w.alloc (.cells #[.bool p, .int .i64 a, .int .i64 n] 40)).alloc (.cells #[.int .i64 0, .int .i64 0] 44)) (w.heap.size + 1) 44 [.int .i64 0, .int .i64 0] := Row.new' (by simp)
 have hs0 : ((w.alloc (.cells #[.bool p, .int .i64 a, .int .i64 n] 40)).alloc (.cells #[.int .i64 0, .int .i64 0] 44)).heap.size = w.heap.size + 1 + 1 := by simp
 refine (begin_m (HH.out.1.frN hf0) task fuel).mono ?_
 generalize (w.alloc (.cells #[.bool p, .int .i64 a, .int .i64 n] 40)).alloc (.cells #[.int .i64 0, .int .i64 0] 44) = W at *
 rintro e1 w1 ⟨rfl, hM1, hf1⟩
 have hrf1 := hf1.row hrf (by omega)
 have hrb1 := hf1.row hrb (by omega)
 have hs1 := hf1.size
 have hnA : ¬ A w.heap.size ∧ ¬ A (w.heap.size + 1) := ⟨fun e => by have := HH.out.1.lt _ e; omega, fun e => by have := HH.out.1.lt _ e; omega⟩
 have H1 := Lib.hid (And.intro hM1 (And.intro hf1 (And.intro hrf1 (And.intro hrb1 (And.intro hf0 hnA)))))
 obtain ⟨q0, q1, q2, qz⟩ := row3 hrf1
 clear hM1 hf1 hrf1 hrb1 hrf hrb hf0 hnA
 go_wp2_with fail
 have hG2 := hG.out w1 H1.out.1
 rw [Cl.new_lit] at hG2
 refine hG2.mono ?_
 rintro e2 w2 ⟨v, rfl, hres, A2, hI2, hA2, hF2⟩
 have hnA2 : ¬ A2 w.heap.size ∧ ¬ A2 (w.heap.size + 1) := ⟨fun e => by rcases hA2 _ e with h | h; exact H1.out.2.2.2.2.2.1 h; omega, fun e => by rcases hA2 _ e with h | h; exact H1.out.2.2.2.2.2.2 h; omega⟩
 have hrf2 := hF2.row H1.out.2.2.1 H1.out.2.2.2.2.2.1
 have hrb2 := hF2.row H1.out.2.2.2.1 H1.out.2.2.2.2.2.2
 have hF12 : Fr A W w2 := (H1.out.2.1.mono fun x _ hx => hx ▸ HH.out.1.om).trans hF2
 have hrun := Lib.hid (run_m hI2 HH.out.2.1 HH.out.2.2.2.2 hres HH.out.2.2.1.2)
 have hs2 := hF2.size
 have H2 := Lib.hid (And.intro hrf2 (And.intro hrb2 (And.intro hF12 (And.intro hnA2 (show ∀ x, A2 x → A x ∨ W.heap.size ≤ x from fun x hx => (hA2 x hx).imp id (fun e => Nat.le_trans hs1 e))))))
 clear hG2 hres hI2 hA2 hF2 hrf2 hrb2 hF12 hnA2 q0 q1 q2 qz
 go_wp2_with fail
 refine hrun.out.mono ?_
 have hfg := HH.out.2.2.2.1
 rw [hfg]
 have hR := HR.out
 generalize runS P fuel.toNat o Sg = rr at *
 obtain ⟨⟨k, j⟩, S3⟩ := rr
 simp only at hR
 rw [offS_eq] at hR
 rintro e3 w3 ⟨rfl, A3, hI3, hA3, hF3⟩
 have hnA3 : ¬ A3 w.heap.size ∧ ¬ A3 (w.heap.size + 1) := ⟨fun e => by rcases hA3 _ e with h | h; exact H2.out.2.2.2.1.1 h; omega, fun e => by rcases hA3 _ e with h | h; exact H2.out.2.2.2.1.2 h; omega⟩
 have hrf3 := hF3.row H2.out.1 H2.out.2.2.2.1.1
 have hrb3 := hF3.row H2.out.2.1 H2.out.2.2.2.1.2
 have hF13 : Fr A W w3 := H2.out.2.2.1.then hF3 (fun x hx e => by rcases H2.out.2.2.2.2 x e with h | h; exact h; omega)
 have hA3' : ∀ x, A3 x → A x ∨ W.heap.size ≤ x := fun x hx => by
  rcases hA3 x hx with h | h
  · exact H2.out.2.2.2.2 x h
  · exact Or.inr (by omega)
 have hs3 := hF3.size
 obtain ⟨L3, hM3⟩ := hI3
 have c7 := hM3.c7
 have hm3 := hM3.mlt
 obtain ⟨q0, q1, q2, qz⟩ := row3 hrf3
 obtain ⟨b0, b1, bz⟩ := row2 hrb3
 have hWord := Lib.hid fun w4 (f : Fr Non w3 w4) => word_m (hM3.frN f) p a (offn p n 1)
 generalize S3.mem.word ⟨p, a, offn p n 1⟩ = ww at *
 obtain ⟨wn, we⟩ := ww
 simp only at hWord hR
 have HR := Lib.hid hR
 have hOff := Lib.hid fun w4 => off_c w4 p a n 1
 have H3 := Lib.hid (And.intro hM3 (And.intro hF13 (And.intro hA3' (And.intro hnA3 (And.intro hrf3 hrb3)))))
 clear hR hfg hM3 hF13 hA3' hA3 hF3 hnA3 hrf3 hrb3 hrun
 have hwl : w.heap.size < w3.heap.size := by omega
 have hwl1 : w.heap.size + 1 < w3.heap.size := by omega
 have hk : (k = 2 ∧ (k == 2) = true) ∨ (k ≠ 2 ∧ (k == 2) = false) := by by_cases h : k = 2 <;> simp [h]
 rcases hk with ⟨rfl, hk⟩ | ⟨hk0, hk⟩
 · go_wp2_with fail
   have fV : Fr Non w3 (w3.alloc (.cells #[.int .i64 2, .int .i64 j] 44)) := (Fr.refl _ _).alloc _
   have rV : Row (w3.alloc (.cells #[.int .i64 2, .int .i64 j] 44)) w3.heap.size 44 [.int .i64 2, .int .i64 j] := Row.new' rfl
   have sV : (w3.alloc (.cells #[.int .i64 2, .int .i64 j] 44)).heap.size = w3.heap.size + 1 := by simp
   generalize w3.alloc (.cells #[.int .i64 2, .int .i64 j] 44) = V at *
   generalize hg : w3.heap.size = g at *
   obtain ⟨p0, p1, p2, pz⟩ := row3 (fV.row H3.out.2.2.2.2.1 id)
   have HV0 := Lib.hid (And.intro fV rV)
   clear fV rV b0 b1 bz q0 q1 q2 qz c7
   refine (hOff.out V).mono ?_
   rintro e4 w4 ⟨rfl, hf4⟩
   have s4 := hf4.size
   have HV4 := Lib.hid (And.intro (HV0.out.1.trans hf4) (hf4.row HV0.out.2 id))
   clear hf4 p0 p1 p2 pz
   go_wp2_with fail
   refine (hWord.out w4 HV4.out.1).mono ?_
   rintro e5 w5 ⟨rfl, hf5⟩
   have s5 := hf5.size
   have hf35 := HV4.out.1.trans hf5
   have r5 := hf5.row HV4.out.2 id
   obtain ⟨b0', b1', bz'⟩ := row2 (hf35.row H3.out.2.2.2.2.2 id)
   have c7V := (H3.out.1.frN hf35).c7
   obtain ⟨g0, g1, gz⟩ := row2 r5
   have hg5 := r5.lt
   have hm5 : m < w5.heap.size := by omega
   have HV5 := Lib.hid (And.intro hf35 r5)
   clear hf5 hf35 r5
   have hcase : (we = 0 ∧ (we == 0) = true) ∨ (we ≠ 0 ∧ (we == 0) = false ∧ (we != 0) = true) := by by_cases h : we = 0 <;> simp [h]
   rcases hcase with ⟨rfl, hwe⟩ | ⟨hne, hwe, hwn⟩
   · go_wp2_with fail
     have r6 : Row (w5.setCell ⟨g, 1, none⟩ (.int .i64 wn)) g 44 [.int .i64 2, .int .i64 wn] := HV5.out.2.set_same 1 _
     have f6 : Fr (fun x => x = g) w5 (w5.setCell ⟨g, 1, none⟩ (.int .i64 wn)) := Fr.set1 _ _ _ _
     have s6 : (w5.setCell ⟨g, 1, none⟩ (.int .i64 wn)).heap.size = w5.heap.size := by simp
     have c76 := f6.cell c7V (by omega)
     obtain ⟨b0'', b1'', bz''⟩ := row2 (f6.row (HV5.out.1.row H3.out.2.2.2.2.2 id) (by omega))
     have hA6 : Aft base P A3 w3 (w5.setCell ⟨g, 1, none⟩ (.int .i64 wn)) m S3 := Aft.box (wc := w5) HV5.out.1 (ML.aftN (H3.out.1.frN HV5.out.1) (Fr.refl _ _)) f6 (fun x hx => by omega) (fun x hx => by have := H3.out.1.lt x hx; omega) (by have := H3.out.1.base_le; omega)
     generalize w5.setCell ⟨g, 1, none⟩ (.int .i64 wn) = V6 at *
     obtain ⟨g0', g1', gz'⟩ := row2 r6
     have HV6 := Lib.hid (And.intro r6 hA6)
     have hgV : g < V6.heap.size := by omega
     have hmV : m < V6.heap.size := by omega
     clear r6 f6 hA6 g0 g1 gz b0' b1' bz' c7V
     rename_i _
     have cW := @Mix.cls_drew V6 [g, m]
     refine Mix.wp_region_mix [0, 4] [(1, 0), (0, 1), (0, 2), (0, 3), (1, 4), (2, 5), (0, 6)] (fun U => ∃ g', U = Mix.upon V6 [g, m] g') (by kernel_rfl) (by kernel_rfl) cW ?_
     clear cW
     repeat (first | ((first | refine Mix.S_pure rfl rfl ?_ | refine Mix.S_load rfl rfl ?_); intro K hK; simp only [nA, nB, nC]; go_big_quiet_op; go_big_quiet_on) | refine Mix.S_skip0 rfl rfl ?_ | refine Mix.S_skip1 rfl rfl ?_)
     refine Mix.S_eff (o := _) rfl rfl ?_
     intro K hK
     simp only [nA, nB, nC]
     go_simp
     refine hK _ _ ⟨Mix.cls_fr (D := fun x => x = w.heap.size + 1) (by exact (((Fr.set1 _ _ _ _).trans (Fr.set1 _ _ _ _)).drew).drewl) (by simp; omega), ?_⟩
     clear hK K
     repeat (first | ((first | refine Mix.S_pure rfl rfl ?_ | refine Mix.S_load rfl rfl ?_); intro K hK; simp only [nA, nB, nC]; go_big_quiet_op; go_big_quiet_on) | refine Mix.S_skip0 rfl rfl ?_ | refine Mix.S_skip1 rfl rfl ?_)
     refine Mix.S_done ?_
     go_wp2_with fail
     have hR := HR.out
     rw [if_pos (by first | trivial | rfl | simp), if_neg (by simp)] at hR
     rw [hR]
     refine bodyPost_ret (v := .tuple #[.agg #[.int .i64 2, .int .i64 wn], .int .i64 S3.fuel]) (by simp [results, Tryz.results15, go_sem, b0'', b1'']) rfl ⟨rfl, ?_⟩
     exact Aft.box H1.out.2.2.2.2.1 (Aft.step H3.out.2.2.1 H3.out.2.1 HV6.out.2) (E := fun x => x = w.heap.size + 1) (by exact ((Fr.set1 _ _ _ _).trans (Fr.set1 _ _ _ _)).drew) (fun x hx => by omega) HH.out.1.lt HH.out.1.base_le
   · have hE := Lib.hid fun w1 => failed_r w1 we hne
     go_wp2_with fail
     have cW := @Mix.cls_drew w5 [m]
     refine Mix.wp_region_mix [7] [(0, 0), (0, 4), (0, 5), (0, 6), (1, 7), (2, 1), (0, 2), (2, 3), (2, 8), (0, 9)] (fun U => ∃ g', U = Mix.upon w5 [m] g') (by kernel_rfl) (by kernel_rfl) cW ?_
     clear cW
     repeat (first | ((first | refine Mix.S_pure rfl rfl ?_ | refine Mix.S_load rfl rfl ?_); intro K hK; simp only [nA, nB, nC]; go_big_quiet_op; go_big_quiet_on) | refine Mix.S_skip0 rfl rfl ?_ | refine Mix.S_skip1 rfl rfl ?_)
     refine Mix.S_eff (o := _) rfl rfl ?_
     intro K hK
     simp only [nA, nB, nC]
     go_simp
     refine (hE.out _).mono ?_
     rintro e6 w6 ⟨v6, rfl, hres, hf6⟩
     refine hK _ _ ⟨Mix.cls_fr (D := Non) hf6 (by simp [Non]; omega), ?_⟩
     clear hK K
     have hf56 : Fr Non w5 w6 := Fr.trans (by exact (Fr.refl _ _).drew) hf6
     have s6 := hf56.size
     have herr : errS we = some (if we = 10 then (5, 0) else (6, we)) := by unfold errS; rw [if_neg hne]
     rw [herr] at hres
     rcases hres with ⟨e, _⟩ | ⟨rb, k6, n6, e, rfl, hrow6, hlo⟩
     · cases e
     · obtain ⟨d0, d1, dz⟩ := row2 hrow6
       obtain ⟨b0'', b1'', bz''⟩ := row2 ((HV5.out.1.trans hf56).row H3.out.2.2.2.2.2 id)
       have hd6 := hrow6.lt
       have HV6 := Lib.hid (HV5.out.1.trans hf56)
       have hm6 : m < w6.heap.size := by omega
       clear hf6 hf56 hrow6 b0' b1' bz' g0 g1 gz
       repeat (first | ((first | refine Mix.S_pure rfl rfl ?_ | refine Mix.S_load rfl rfl ?_); intro K hK; simp only [nA, nB, nC]; go_big_quiet_op; go_big_quiet_on) | refine Mix.S_skip0 rfl rfl ?_ | refine Mix.S_skip1 rfl rfl ?_)
       refine Mix.S_eff (o := _) rfl rfl ?_
       intro K hK
       simp only [nA, nB, nC]
       go_simp
       refine hK _ _ ⟨Mix.cls_fr (D := Non) (by exact Fr.refl _ _) (by simp [Non]; omega), ?_⟩
       clear hK K
       repeat (first | ((first | refine Mix.S_pure rfl rfl ?_ | refine Mix.S_load rfl rfl ?_); intro K hK; simp only [nA, nB, nC]; go_big_quiet_op; go_big_quiet_on) | refine Mix.S_skip0 rfl rfl ?_ | refine Mix.S_skip1 rfl rfl ?_)
       refine Mix.S_eff (o := _) rfl rfl ?_
       intro K hK
       simp only [nA, nB, nC]
       go_simp
       refine hK _ _ ⟨Mix.cls_fr (D := fun x => x = w.heap.size + 1) (by exact (Fr.set1 _ _ _ _).trans (Fr.set1 _ _ _ _)) (by simp; omega), ?_⟩
       clear hK K
       repeat (first | ((first | refine Mix.S_pure rfl rfl ?_ | refine Mix.S_load rfl rfl ?_); intro K hK; simp only [nA, nB, nC]; go_big_quiet_op; go_big_quiet_on) | refine Mix.S_skip0 rfl rfl ?_ | refine Mix.S_skip1 rfl rfl ?_)
       refine Mix.S_done ?_
       go_wp2_with fail
       have hR := HR.out
       rw [if_pos (by first | trivial | rfl | simp), if_pos hne, herr, e] at hR
       simp only [Option.getD_some] at hR
       rw [hR]
       refine bodyPost_ret (v := .tuple #[.agg #[.int .i64 k6, .int .i64 n6], .int .i64 S3.fuel]) (by simp [results, Tryz.results15, go_sem, b0'', b1'']) rfl ⟨rfl, ?_⟩
       exact Aft.box H1.out.2.2.2.2.1 ⟨A3, ⟨L3, H3.out.1.frN HV6.out⟩, H3.out.2.2.1, H3.out.2.1.trans (HV6.out.mono fun _ _ h => h.elim)⟩ (E := fun x => x = w.heap.size + 1) (by exact (Fr.set1 _ _ _ _).trans (Fr.set1 _ _ _ _)) (fun x hx => by omega) HH.out.1.lt HH.out.1.base_le
 · go_wp2_with fail
   have fV : Fr Non w3 (w3.alloc (.cells #[.int .i64 k, .int .i64 j] 44)) := (Fr.refl _ _).alloc _
   have rV : Row (w3.alloc (.cells #[.int .i64 k, .int .i64 j] 44)) w3.heap.size 44 [.int .i64 k, .int .i64 j] := Row.new' rfl
   have sV : (w3.alloc (.cells #[.int .i64 k, .int .i64 j] 44)).heap.size = w3.heap.size + 1 := by simp
   have c7V := fV.cell c7 id
   obtain ⟨b0', b1', bz'⟩ := row2 (fV.row H3.out.2.2.2.2.2 id)
   generalize w3.alloc (.cells #[.int .i64 k, .int .i64 j] 44) = V at *
   generalize hg : w3.heap.size = g at *
   obtain ⟨g0, g1, gz⟩ := row2 rV
   have hgV := rV.lt
   have hmV : m < V.heap.size := by omega
   have HV := Lib.hid fV
   clear fV rV b0 b1 bz q0 q1 q2 qz c7
   have cW := @Mix.cls_drew V [g, m]
   refine Mix.wp_region_mix [0, 4] [(1, 0), (0, 1), (0, 2), (0, 3), (1, 4), (2, 5), (0, 6)] (fun U => ∃ g', U = Mix.upon V [g, m] g') (by kernel_rfl) (by kernel_rfl) cW ?_
   clear cW
   repeat (first | ((first | refine Mix.S_pure rfl rfl ?_ | refine Mix.S_load rfl rfl ?_); intro K hK; simp only [nA, nB, nC]; go_big_quiet_op; go_big_quiet_on) | refine Mix.S_skip0 rfl rfl ?_ | refine Mix.S_skip1 rfl rfl ?_)
   refine Mix.S_eff (o := _) rfl rfl ?_
   intro K hK
   simp only [nA, nB, nC]
   go_simp
   refine hK _ _ ⟨Mix.cls_fr (D := fun x => x = w.heap.size + 1) (by exact (((Fr.set1 _ _ _ _).trans (Fr.set1 _ _ _ _)).drew).drewl) (by simp; omega), ?_⟩
   clear hK K
   repeat (first | ((first | refine Mix.S_pure rfl rfl ?_ | refine Mix.S_load rfl rfl ?_); intro K hK; simp only [nA, nB, nC]; go_big_quiet_op; go_big_quiet_on) | refine Mix.S_skip0 rfl rfl ?_ | refine Mix.S_skip1 rfl rfl ?_)
   refine Mix.S_done ?_
   go_wp2_with fail
   have hR := HR.out
   rw [if_neg hk0] at hR
   rw [hR]
   refine bodyPost_ret (v := .tuple #[.agg #[.int .i64 k, .int .i64 j], .int .i64 S3.fuel]) (by simp [results, Tryz.results15, go_sem, b0', b1']) rfl ⟨rfl, ?_⟩
   exact Aft.box H1.out.2.2.2.2.1 ⟨A3, ⟨L3, H3.out.1.frN HV.out⟩, H3.out.2.2.1, H3.out.2.1.trans (HV.out.mono fun _ _ h => h.elim)⟩ (E := fun x => x = w.heap.size + 1) (by exact ((Fr.set1 _ _ _ _).trans (Fr.set1 _ _ _ _)).drew) (fun x hx => by omega) HH.out.1.lt HH.out.1.base_le
end

end Go.Proofs.YtlbomnbpahmphaaGreat

/- Walks: the machine's 'Cancel', 'Complete', 'Told', 'Live'. Conditions: the program is checked; fuel, events and blocks are few. -/
namespace Go.Proofs.YtlbomnbpahmphaaGreat
open Go.RowKit

section
variable {base : Nat} {P : Pr} {kinds : List Int} {A : Nat → Prop} {w : World} {m : Nat} {S : St} {L : Lay}

set_option maxRecDepth 100000 in
set_option maxHeartbeats 4000000 in
theorem cancel_m (h : MInv base P A w m S) (hP : PrGood P kinds) (p : Bool) (a n : Int) (task fuel : Int) (hfew : FewB S fuel) :
 Calls Tryz.prog 17 #[.pointer (some ⟨m, 0, none⟩), .agg #[.bool p, .int .i64 a, .int .i64 n], .int .i64 task, .int .i64 fuel] w fun e w' =>
  e = .returned (.tuple #[.agg #[.int .i64 (cancelS P S ⟨p, a, n⟩ task fuel).1.1, .int .i64 (cancelS P S ⟨p, a, n⟩ task fuel).1.2], .int .i64 (cancelS P S ⟨p, a, n⟩ task fuel).2.fuel]) ∧ Aft base P A w w' m (cancelS P S ⟨p, a, n⟩ task fuel).2 := by
 obtain ⟨L, hL⟩ := h
 have hm := hL.mlt
 obtain ⟨R, hR⟩ : ∃ R, R = cancelS P S ⟨p, a, n⟩ task fuel := ⟨_, rfl⟩
 rw [← hR]
 unfold cancelS at hR
 have hgok : Ok1 P kinds 1 (S.begin task fuel) (stopS P (S.begin task fuel) ⟨p, a, n⟩) := stopS_ok hP (by exact trivial) _
 have hG := Lib.hid fun w1 (f : ML base P A w1 m (S.begin task fuel) { L with sv := .slice none 0 0, bl := [] }) => stop_m f (by simp [St.begin]) hP.pr p a n
 generalize stopS P (S.begin task fuel) ⟨p, a, n⟩ = g at *
 obtain ⟨o, Sg⟩ := g
 simp only at hR hgok hG
 have hfg : Sg.fuel = fuel := hgok.1.fuel
 have hFew := hfew.begin task hgok.1
 simp only at hFew
 have HR := Lib.hid hR
 have HH := Lib.hid (And.intro hL (And.intro hP (And.intro hgok (And.intro hfg hFew))))
 clear hL hP hfew hR hgok hfg hFew
 have hn1 : ¬ m = w.heap.size := by omega
 have hn2 : ¬ m = w.heap.size + 1 := by omega
 go_enter Tryz.func17, Tryz.ntmps17
 go_wp2_with fail
 have hf0 : Fr Non w ((w.alloc (.cells #[.bool p, .int .i64 a, .int .i64 n] 40)).alloc (.cells #[.int .i64 0, .int .i64 0] 44)) := by exact (by repeat (first | exact .refl _ _ | assumption | apply Fr.drewN | apply Fr.drew | apply Fr.drewl | apply Fr.drewNl | apply Fr.alloc))
 have hrf : Row ((w.alloc (.cells #[.bool p, .int .i64 a, .int .i64 n] 40)).alloc (.cells #[.int .i64 0, .int .i64 0] 44)) w.heap.size 40 [.bool p, .int .i64 a, .int .i64 n] := (Row.new' rfl).alloc _
 have hrb : Row ((w.alloc (.cells #[.bool p, .int .i64 a, .int .i64 n] 40)).alloc (.cells #[.int .i64 0, .int .i64 0] 44)) (w.heap.size + 1) 44 [.int .i64 0, .int .i64 0] := Row.new' (by simp)
 have hs0 : ((w.alloc (.cells #[.bool p, .int .i64 a, .int .i64 n] 40)).alloc (.cells #[.int .i64 0, .int .i64 0] 44)).heap.size = w.heap.size + 1 + 1 := by simp
 refine (begin_m (HH.out.1.frN hf0) task fuel).mono ?_
 generalize (w.alloc (.cells #[.bool p, .int .i64 a, .int .i64 n] 40)).alloc (.cells #[.int .i64 0, .int .i64 0] 44) = W at *
 rintro e1 w1 ⟨rfl, hM1, hf1⟩
 have hrf1 := hf1.row hrf (by omega)
 have hrb1 := hf1.row hrb (by omega)
 have hs1 := hf1.size
 have hnA : ¬ A w.heap.size ∧ ¬ A (w.heap.size + 1) := ⟨fun e => by have := HH.out.1.lt _ e; omega, fun e => by have := HH.out.1.lt _ e; omega⟩
 have H1 := Lib.hid (And.intro hM1 (And.intro hf1 (And.intro hrf1 (And.intro hrb1 (And.intro hf0 hnA)))))
 obtain ⟨q0, q1, q2, qz⟩ := row3 hrf1
 clear hM1 hf1 hrf1 hrb1 hrf hrb hf0 hnA
 go_wp2_with fail
 have hG2 := hG.out w1 H1.out.1
 refine hG2.mono ?_
 rintro e2 w2 ⟨v, rfl, hres, A2, hI2, hA2, hF2⟩
 have hnA2 : ¬ A2 w.heap.size ∧ ¬ A2 (w.heap.size + 1) := ⟨fun e => by rcases hA2 _ e with h | h; exact H1.out.2.2.2.2.2.1 h; omega, fun e => by rcases hA2 _ e with h | h; exact H1.out.2.2.2.2.2.2 h; omega⟩
 have hrf2 := hF2.row H1.out.2.2.1 H1.out.2.2.2.2.2.1
 have hrb2 := hF2.row H1.out.2.2.2.1 H1.out.2.2.2.2.2.2
 have hF12 : Fr A W w2 := (H1.out.2.1.mono fun x _ hx => hx ▸ HH.out.1.om).trans hF2
 have hrun := Lib.hid (run_m hI2 HH.out.2.1 HH.out.2.2.2.2 hres HH.out.2.2.1.2)
 have hs2 := hF2.size
 have H2 := Lib.hid (And.intro hrf2 (And.intro hrb2 (And.intro hF12 (And.intro hnA2 (show ∀ x, A2 x → A x ∨ W.heap.size ≤ x from fun x hx => (hA2 x hx).imp id (fun e => Nat.le_trans hs1 e))))))
 clear hG2 hres hI2 hA2 hF2 hrf2 hrb2 hF12 hnA2 q0 q1 q2 qz
 go_wp2_with fail
 refine hrun.out.mono ?_
 have hfg := HH.out.2.2.2.1
 rw [hfg]
 have hR := HR.out
 generalize runS P fuel.toNat o Sg = rr at *
 obtain ⟨⟨k, j⟩, S3⟩ := rr
 rintro e3 w3 ⟨rfl, A3, hI3, hA3, hF3⟩
 have hnA3 : ¬ A3 w.heap.size ∧ ¬ A3 (w.heap.size + 1) := ⟨fun e => by rcases hA3 _ e with h | h; exact H2.out.2.2.2.1.1 h; omega, fun e => by rcases hA3 _ e with h | h; exact H2.out.2.2.2.1.2 h; omega⟩
 have hrf3 := hF3.row H2.out.1 H2.out.2.2.2.1.1
 have hrb3 := hF3.row H2.out.2.1 H2.out.2.2.2.1.2
 have hF13 : Fr A W w3 := H2.out.2.2.1.then hF3 (fun x hx e => by rcases H2.out.2.2.2.2 x e with h | h; exact h; omega)
 have hA3' : ∀ x, A3 x → A x ∨ W.heap.size ≤ x := fun x hx => by
  rcases hA3 x hx with h | h
  · exact H2.out.2.2.2.2 x h
  · exact Or.inr (by omega)
 have hs3 := hF3.size
 obtain ⟨L3, hM3⟩ := hI3
 have c7 := hM3.c7
 have hm3 := hM3.mlt
 obtain ⟨q0, q1, q2, qz⟩ := row3 hrf3
 obtain ⟨b0, b1, bz⟩ := row2 hrb3
 have HR := Lib.hid hR
 have H3 := Lib.hid (And.intro hM3 (And.intro hF13 (And.intro hA3' (And.intro hnA3 (And.intro hrf3 hrb3)))))
 clear hR hfg hM3 hF13 hA3' hA3 hF3 hnA3 hrf3 hrb3 hrun
 go_wp2_with fail
 have fV : Fr Non w3 (w3.alloc (.cells #[.int .i64 k, .int .i64 j] 44)) := (Fr.refl _ _).alloc _
 have rV : Row (w3.alloc (.cells #[.int .i64 k, .int .i64 j] 44)) w3.heap.size 44 [.int .i64 k, .int .i64 j] := Row.new' rfl
 have sV : (w3.alloc (.cells #[.int .i64 k, .int .i64 j] 44)).heap.size = w3.heap.size + 1 := by simp
 have c7V := fV.cell c7 id
 obtain ⟨b0', b1', bz'⟩ := row2 (fV.row H3.out.2.2.2.2.2 id)
 generalize w3.alloc (.cells #[.int .i64 k, .int .i64 j] 44) = V at *
 generalize hg : w3.heap.size = g at *
 obtain ⟨g0, g1, gz⟩ := row2 rV
 have hgV := rV.lt
 have hmV : m < V.heap.size := by omega
 have HV := Lib.hid fV
 clear fV rV b0 b1 bz q0 q1 q2 qz c7
 have cW := @Mix.cls_drew V [g, m]
 refine Mix.wp_region_mix [0, 4] [(1, 0), (0, 1), (0, 2), (0, 3), (1, 4), (2, 5), (0, 6)] (fun U => ∃ g', U = Mix.upon V [g, m] g') (by kernel_rfl) (by kernel_rfl) cW ?_
 clear cW
 repeat (first | ((first | refine Mix.S_pure rfl rfl ?_ | refine Mix.S_load rfl rfl ?_); intro K hK; simp only [nA, nB, nC]; go_big_quiet_op; go_big_quiet_on) | refine Mix.S_skip0 rfl rfl ?_ | refine Mix.S_skip1 rfl rfl ?_)
 refine Mix.S_eff (o := _) rfl rfl ?_
 intro K hK
 simp only [nA, nB, nC]
 go_simp
 refine hK _ _ ⟨Mix.cls_fr (D := fun x => x = w.heap.size + 1) (by exact (((Fr.set1 _ _ _ _).trans (Fr.set1 _ _ _ _)).drew).drewl) (by simp; omega), ?_⟩
 clear hK K
 repeat (first | ((first | refine Mix.S_pure rfl rfl ?_ | refine Mix.S_load rfl rfl ?_); intro K hK; simp only [nA, nB, nC]; go_big_quiet_op; go_big_quiet_on) | refine Mix.S_skip0 rfl rfl ?_ | refine Mix.S_skip1 rfl rfl ?_)
 refine Mix.S_done ?_
 go_wp2_with fail
 have hR := HR.out
 rw [hR]
 refine bodyPost_ret (v := .tuple #[.agg #[.int .i64 k, .int .i64 j], .int .i64 S3.fuel]) (by simp [results, Tryz.results17, go_sem, b0', b1']) rfl ⟨rfl, ?_⟩
 exact Aft.box H1.out.2.2.2.2.1 ⟨A3, ⟨L3, H3.out.1.frN HV.out⟩, H3.out.2.2.1, H3.out.2.1.trans (HV.out.mono fun _ _ h => h.elim)⟩ (E := fun x => x = w.heap.size + 1) (by exact ((Fr.set1 _ _ _ _).trans (Fr.set1 _ _ _ _)).drew) (fun x hx => by omega) HH.out.1.lt HH.out.1.base_le
end

end Go.Proofs.YtlbomnbpahmphaaGreat

/- Walks: the machine's 'Complete', 'Told', 'Live' with the layout hidden. No condition. -/
namespace Go.Proofs.YtlbomnbpahmphaaGreat
open Go.RowKit

section
variable {base : Nat} {P : Pr} {kinds : List Int} {A : Nat → Prop} {w w' : World} {m : Nat} {S : St} {L : Lay}

/-- What events brought has changed. -/
theorem ML.upEv (h : ML base P A w m S L) {l : List (Int × Int)} (f : Fr (fun x => x = L.eb) w w') (he : EvAt w' L.eb l) : ML base P A w' m { S with ev := l } L := by
 have hH : High base (fun x => x = L.eb) := fun x hx => h.high x (hx ▸ h.oe)
 refine { high := h.high, lt := fun x hx => Nat.lt_of_lt_of_le (h.lt x hx) f.size, row := f.row h.row h.ne_me, funs := h.funs.fr f hH, cos := h.cos.fr f hH, mem := h.mem.fr f (fun x hx e => (h.sep x hx).2.1 e), ev := he, told := h.told.fr f ?_, stk := h.stk.fr f ?_, len := h.len, nodup := h.nodup, cls := fun i b c hb hc => (h.cls i b c hb hc).fr f hH (h.bl_e (List.mem_of_getElem? hb)), om := h.om, oe := h.oe, od := h.od, ot := h.ot, os := h.os, ob := h.ob, sep := h.sep }
 · rintro x hx rfl
   exact h.told.ne_map h.ev hx
 · rintro x hx rfl
   exact h.stk.ne_map h.ev hx

set_option maxRecDepth 100000 in
set_option maxHeartbeats 1000000 in
theorem complete_m (h : MInv base P A w m S) (k n : Int) :
 Calls Tryz.prog 19 #[.pointer (some ⟨m, 0, none⟩), .int .i64 k, .int .i64 n] w fun e w' => e = .returned (.tuple #[]) ∧ Aft base P A w w' m (completeS S k n) := by
 obtain ⟨L, h⟩ := h
 have hm := h.mlt
 have c3 : w.cell? ⟨m, 3, none⟩ = some (.map (some L.eb)) := h.row.cell rfl
 have hrun := run_lookup_ok (P := Tryz.prog) h.ev.map Tryz.underlying81 Tryz.underlying3 (.int .i64 0) (by kernel_rfl) k
 rw [mfind_ev] at hrun
 obtain ⟨w1, hup, hmap, hf⟩ := run_update_map (P := Tryz.prog) h.ev.map Tryz.underlying81 Tryz.underlying3 k (.int .i64 n)
 unfold completeS
 cases hev : evOf S.ev k with
 | none =>
  rw [hev] at hrun
  simp only [Option.map_none, Option.getD_none, Option.isSome_none] at hrun
  rw [mset_ev _ _ _ hev] at hmap
  have HH := Lib.hid (And.intro h (And.intro (EvAt.of hmap) hf))
  clear h hmap hf hev
  go_enter Tryz.func19, Tryz.ntmps19
  go_wp2_with fail
  refine bodyPost_end (results_none rfl _ _ _) rfl ?_
  obtain ⟨h, he, hf⟩ := HH.out
  refine ⟨rfl, ?_⟩
  exact ⟨A, ⟨L, h.upEv hf he⟩, fun x hx => Or.inl hx, hf.mono fun x _ hx => hx ▸ h.oe⟩
 | some v =>
  rw [hev] at hrun
  simp only [Option.map_some, Option.getD_some, Option.isSome_some] at hrun
  have HH := Lib.hid h
  clear h hmap hf hup hev
  go_enter Tryz.func19, Tryz.ntmps19
  go_wp2_with fail
  refine bodyPost_end (results_none rfl _ _ _) rfl ?_
  exact ⟨rfl, HH.out.aftN (by exact Fr.refl _ _)⟩

theorem told_m (h : MInv base P A w m S) :
 Calls Tryz.prog 22 #[.pointer (some ⟨m, 0, none⟩)] w fun e w' => ∃ tv A', e = .returned tv ∧ Own w' tv 74 4 S.told.length (evs S.told) ∧ MInv base P A' w' m { S with told := [] } ∧ (∀ x, A' x → A x ∧ tv.ownBlock ≠ some x) ∧ (∀ x, tv.ownBlock = some x → A x) ∧ Fr (fun x => x = m) w w' := by
 obtain ⟨L, h⟩ := h
 obtain ⟨tO, cap, e, _⟩ := h.told.form
 have hr := h.row
 unfold Lay.cells at hr
 rw [e] at hr
 refine (told_c hr).mono ?_
 rintro e1 w' ⟨rfl, h1, f⟩
 have hH := h.base_m
 refine ⟨L.tv, fun x => A x ∧ L.tv.ownBlock ≠ some x, by rw [e], h.told.fr f (fun x hx e => h.tv_m (e ▸ hx)), ⟨{ L with tv := .slice none 0 0 }, ?_⟩, fun x hx => hx, h.ot, f⟩
 refine { high := fun x hx => h.high x hx.1, lt := fun x hx => Nat.lt_of_lt_of_le (h.lt x hx.1) f.size, row := h1, funs := h.funs.fr f hH, cos := h.cos.fr f hH, mem := h.mem.fr f (fun x hx e => (h.sep x hx).1 e), ev := h.ev.fr f (fun e => h.ne_me e.symm), told := Own.nil _ _ _, stk := h.stk.fr f (fun x hx e => h.sv_m (e ▸ hx)), len := h.len, nodup := h.nodup, cls := fun i b c hb hc => (h.cls i b c hb hc).fr f hH (h.bl_m (List.mem_of_getElem? hb)), om := ⟨h.om, h.tv_m⟩, oe := ⟨h.oe, h.told.ne_map h.ev⟩, od := fun x hx => ⟨h.od x hx, (h.sep x hx).2.2.1⟩, ot := fun x hx => (by cases hx), os := fun x hx => ⟨h.os x hx, fun e => h.tv_sv x e hx⟩, ob := fun x hx => ⟨h.ob x hx, h.bl_tv hx⟩, sep := fun x hx => ?_ }
 obtain ⟨s1, s2, s3, s4, s5⟩ := h.sep x hx
 exact ⟨s1, s2, fun e => (by cases e), s4, s5⟩
end

end Go.Proofs.YtlbomnbpahmphaaGreat

/- Walks: the machine's 'Start' with the layout hidden. Conditions: few blocks; the arguments lie where no machine writes. -/
namespace Go.Proofs.YtlbomnbpahmphaaGreat
open Go.RowKit

/-- Numbers that lie in a row. -/
def ArgsAt (w : World) (ao : Option Addr) (l : List Int) : Prop := ∀ (i : Nat) (n : Int), l[i]? = some n → ∃ b o, ao = some ⟨b, o, none⟩ ∧ w.cell? ⟨b, o + i, none⟩ = some (.int .i64 n)
theorem ArgsAt.fr {w w' : World} {ao : Option Addr} {l : List Int} {E : Nat → Prop} (h : ArgsAt w ao l) (f : Fr E w w') (hE : 0 < l.length → ∀ a, ao = some a → ¬ E a.block) : ArgsAt w' ao l := fun i n hn => by
 obtain ⟨b, o, e, hc⟩ := h i n hn
 exact ⟨b, o, e, f.cell hc (hE (Nat.lt_of_le_of_lt (Nat.zero_le i) (List.getElem?_eq_some_iff.1 hn).1) _ e)⟩

theorem argsS_snoc (M : Mem) (p : Wd) (l : List Int) (n : Int) : ∀ i, argsS M p i (l ++ [n]) = ((argsS M p i l).store (offS p (3 + (i + l.length : Nat))) (num n)).1 := by
 induction l generalizing M with
 | nil => intro i; rfl
 | cons x l ih =>
  intro i
  simp only [List.cons_append, argsS]
  rw [ih]
  simp only [List.length_cons]
  rw [show i + 1 + l.length = i + (l.length + 1) by omega]

section
variable {base : Nat} {P : Pr} {kinds : List Int} {A : Nat → Prop} {w : World} {m : Nat} {S : St} {L : Lay}

set_option maxRecDepth 100000 in
set_option maxHeartbeats 4000000 in
theorem start_m (h : MInv base P A w m S) (hB : S.mem.blocks.length < 1000000) (co : Int) (l : List Int) (hl : l.length ≤ 1000000000 ∨ ∀ x ∈ P.cos, x.args ≤ 1000000000) (ao : Option Addr) (cap : Nat) (hc : ArgsAt w ao l) (hA : 0 < l.length → ∀ a, ao = some a → ¬ A a.block ∧ a.block < w.heap.size) :
 Calls Tryz.prog 12 #[.pointer (some ⟨m, 0, none⟩), .int .i64 co, .slice ao l.length cap] w fun e w' =>
  e = .returned (.tuple #[.agg #[.bool (startS P S co l).2.1.p, .int .i64 (startS P S co l).2.1.a, .int .i64 (startS P S co l).2.1.n], .agg #[.int .i64 (startS P S co l).2.2.1, .int .i64 (startS P S co l).2.2.2]]) ∧ Aft base P A w w' m (startS P S co l).1 := by
 obtain ⟨L, h⟩ := h
 have hm := h.mlt
 obtain ⟨R, hR⟩ : ∃ R, R = startS P S co l := ⟨_, rfl⟩
 rw [← hR]
 unfold startS at hR
 have c1 := h.c1
 have HL := Lib.hid hl
 clear hl
 have HH := Lib.hid (And.intro h (And.intro hc hA))
 by_cases hco : co < 0
 · have hd : decide (co < 0) = true := decide_eq_true hco
   rw [if_pos (Or.inl hco)] at hR
   have HR := Lib.hid hR
   clear h hc hA hR c1
   go_enter Tryz.func12, Tryz.ntmps12
   go_wp2_with fail
   refine bodyPost_ret (v := .tuple #[.agg #[.bool false, .int .i64 0, .int .i64 0], .agg #[.int .i64 6, .int .i64 1]]) (by simp [results, Tryz.results12, go_sem]) rfl ?_
   rw [HR.out]
   exact ⟨rfl, HH.out.1.aftN (by exact (by repeat (first | exact .refl _ _ | assumption | apply Fr.drewN | apply Fr.drew | apply Fr.drewl | apply Fr.drewNl | apply Fr.alloc)))⟩
 · have hd : decide (co < 0) = false := decide_eq_false hco
   obtain ⟨i, rfl⟩ := Int.eq_ofNat_of_zero_le (show 0 ≤ co by omega)
   have hi0 : ¬ ((i : Int) < 0) := by omega
   have hi00 : (0 : Int) ≤ (i : Int) := by omega
   by_cases hi : P.cos.length ≤ i
   · have hi1 : (P.cos.length : Int) ≤ (i : Int) := by omega
     rw [if_pos (Or.inr (Or.inl hi1))] at hR
     have HR := Lib.hid hR
     clear h hc hA hR
     go_enter Tryz.func12, Tryz.ntmps12
     go_wp2_with fail
     refine bodyPost_ret (v := .tuple #[.agg #[.bool false, .int .i64 0, .int .i64 0], .agg #[.int .i64 6, .int .i64 1]]) (by simp [results, Tryz.results12, go_sem]) rfl ?_
     rw [HR.out]
     exact ⟨rfl, HH.out.1.aftN (by exact (by repeat (first | exact .refl _ _ | assumption | apply Fr.drewN | apply Fr.drew | apply Fr.drewl | apply Fr.drewNl | apply Fr.alloc)))⟩
   · have hi1 : ¬ (P.cos.length : Int) ≤ (i : Int) := by omega
     have hi2 : (i : Int) < (P.cos.length : Int) := by omega
     have hil : i < P.cos.length := by omega
     have hPc : P.co (i : Int) = P.cos[i] := by unfold Pr.co; rw [Int.toNat_natCast, List.getD_eq_getElem?_getD, List.getElem?_eq_getElem hil]; rfl
     obtain ⟨cb, co', e, hcc⟩ := h.cos (by omega)
     obtain ⟨_, _, _, _, g4⟩ := crs_get (List.getElem?_eq_getElem hil)
     have k4 := (hcc _ _ g4).2
     rw [← Nat.add_assoc] at k4
     rw [e] at c1
     have hcb := World.block_lt_of_cell? w _ k4
     rw [hPc] at hR
     generalize hxx : P.cos[i] = xx at *
     by_cases hargs : (l.length : Int) = xx.args
     · have hl : l.length ≤ 1000000000 := by
        rcases HL.out with h | h
        · exact h
        · have := h xx (by rw [← hxx]; exact List.getElem_mem _)
          omega
       have hae : ((l.length : Int) == xx.args) = true := by simp [hargs]
       have han : ((l.length : Int) != xx.args) = false := by simp [hargs]
       rw [if_neg (by omega)] at hR
       have hF := Lib.hid fun w1 (f : Fr Non w w1) => frame_m (h.frN f) (i := (i : Int)) hi00 hi2 (by omega)
       generalize frameS P S.mem (i : Int) = T at *
       obtain ⟨M', ⟨pp, pa, pn⟩, er⟩ := T
       simp only at hF hR
       have HR := Lib.hid hR
       rw [← hargs] at k4
       clear h hc hA hR hcc g4 hPc hxx
       go_enter Tryz.func12, Tryz.ntmps12
       go_wp2_with fail
       have hf0 : Fr Non w ((w.alloc (.cells #[.bool false, .int .i64 0, .int .i64 0] 40)).alloc (.cells #[.int .i64 0, .int .i64 0] 44)) := by exact (by repeat (first | exact .refl _ _ | assumption | apply Fr.drewN | apply Fr.drew | apply Fr.drewl | apply Fr.drewNl | apply Fr.alloc))
       have r6 : Row ((w.alloc (.cells #[.bool false, .int .i64 0, .int .i64 0] 40)).alloc (.cells #[.int .i64 0, .int .i64 0] 44)) w.heap.size 40 [.bool false, .int .i64 0, .int .i64 0] := (Row.new' rfl).alloc _
       have r7 : Row ((w.alloc (.cells #[.bool false, .int .i64 0, .int .i64 0] 40)).alloc (.cells #[.int .i64 0, .int .i64 0] 44)) (w.heap.size + 1) 44 [.int .i64 0, .int .i64 0] := Row.new' (by simp)
       have hs0 : ((w.alloc (.cells #[.bool false, .int .i64 0, .int .i64 0] 40)).alloc (.cells #[.int .i64 0, .int .i64 0] 44)).heap.size = w.heap.size + 1 + 1 := by simp
       refine (hF.out _ hf0).mono ?_
       generalize (w.alloc (.cells #[.bool false, .int .i64 0, .int .i64 0] 40)).alloc (.cells #[.int .i64 0, .int .i64 0] 44) = W at *
       rintro e1 w1 ⟨rfl, ⟨A1, D1, hM1, hA1⟩, hf1⟩
       have hs1 := hf1.size
       have hLD : ∀ x, L.Dm x → A x := HH.out.1.od
       have hLlt := HH.out.1.lt
       have n6 : ¬ L.Dm w.heap.size := fun e => by have := hLlt _ (hLD _ e); omega
       have n7 : ¬ L.Dm (w.heap.size + 1) := fun e => by have := hLlt _ (hLD _ e); omega
       have r61 := hf1.row r6 n6
       have r71 := hf1.row r7 n7
       have hFA : Fr A W w1 := hf1.mono fun x _ hx => hLD x hx
       have hD1A : ∀ x, D1 x → A1 x := hM1.od
       have m6 : ¬ D1 w.heap.size := fun e => by
        rcases hA1 _ (hD1A _ e) with h | h
        · have := hLlt _ h; omega
        · omega
       have m7 : ¬ D1 (w.heap.size + 1) := fun e => by
        rcases hA1 _ (hD1A _ e) with h | h
        · have := hLlt _ h; omega
        · omega
       have hmD : ¬ D1 m := fun e => (hM1.sep _ e).1 rfl
       have hm1 := hM1.mlt
       have h61 := r61.lt
       have h71 := r71.lt
       have H1 := Lib.hid (And.intro hM1 (And.intro hA1 (And.intro hFA (And.intro r61 (And.intro r71 (And.intro hf0 (And.intro m6 (And.intro m7 hmD))))))))
       obtain ⟨a0, a1, a2, az⟩ := row3 r61
       obtain ⟨b0, b1, bz⟩ := row2 r71
       have c2 := hM1.c2
       clear hM1 hA1 hf1 hFA r61 r71 r6 r7 hf0 n6 n7 m6 m7 hmD hLD hLlt hD1A k4 c1
       have hcase : (er = 0 ∧ (er == 0) = true) ∨ (er ≠ 0 ∧ (er == 0) = false ∧ (er != 0) = true) := by by_cases h : er = 0 <;> simp [h]
       rcases hcase with ⟨rfl, he⟩ | ⟨hne, he, hen⟩
       · go_wp2_with fail
         have rV : Row (w1.alloc (.cells #[.bool pp, .int .i64 pa, .int .i64 pn] 40)) w1.heap.size 40 [.bool pp, .int .i64 pa, .int .i64 pn] := Row.new' rfl
         have fV : Fr Non w1 (w1.alloc (.cells #[.bool pp, .int .i64 pa, .int .i64 pn] 40)) := (Fr.refl _ _).alloc _
         have sV : (w1.alloc (.cells #[.bool pp, .int .i64 pa, .int .i64 pn] 40)).heap.size = w1.heap.size + 1 := by simp
         generalize w1.alloc (.cells #[.bool pp, .int .i64 pa, .int .i64 pn] 40) = V at *
         obtain ⟨hM1, hA1, hFA, r61, r71, hf0, m6, m7, hmD⟩ := H1.out
         have ng : ¬ D1 w1.heap.size := fun e => by have := hM1.lt _ (hM1.od _ e); omega
         have hcV : ArgsAt V ao l := ((HH.out.2.1.fr hf0 (fun _ _ _ h => h)).fr hFA (fun hl x hx e => (HH.out.2.2 hl x hx).1 e)).fr fV (fun _ _ _ h => h)
         have hnA : 0 < l.length → ∀ y, ao = some y → ¬ D1 y.block := fun hl y hy e => by
          rcases hA1 _ (hM1.od _ e) with h | h
          · exact (HH.out.2.2 hl y hy).1 h
          · have := (HH.out.2.2 hl y hy).2; omega
         have HV := Lib.hid (And.intro (hM1.frN fV) (And.intro (hFA.trans (fV.mono fun _ _ h => h.elim)) (And.intro hcV (And.intro hnA (And.intro ng (And.intro (fV.row r61 id) (And.intro (fV.row r71 id) rV)))))))
         generalize w1.heap.size = g at *
         clear hM1 hA1 hFA r61 r71 hf0 m6 m7 hmD ng hcV hnA rV fV a0 a1 a2 az b0 b1 bz c2
         go_loopw [55] (fun v55 wr => ∃ k : Nat, k ≤ l.length ∧ v55 = .int .i64 k ∧ (∃ Ar, ML base P Ar wr m { S with mem := argsS M' ⟨pp, pa, pn⟩ 0 (l.take k) } { L with Dm := D1 } ∧ ∀ x, Ar x → A1 x) ∧ Fr D1 V wr) (fun v55 _ => l.length - (intOf v55).toNat)
         case atStart => exact ⟨0, Nat.zero_le _, rfl, ⟨A1, by simpa [argsS] using HV.out.1, fun x hx => hx⟩, Fr.refl _ _⟩
         case round =>
          obtain ⟨k, hk, rfl, ⟨Ar, hMr, hAr⟩, hFr⟩ := hrel
          have rr := hFr.row HV.out.2.2.2.2.2.2.2 HV.out.2.2.2.2.1
          have hsr := hFr.size
          obtain ⟨g0, g1, g2, gz⟩ := row3 rr
          have hk0 : (0 : Int) ≤ (k : Int) := by omega
          by_cases hkl : k < l.length
          · have hk1 : (k : Int) < (l.length : Int) := by omega
            obtain ⟨ab, aof, eao, hcell⟩ := HV.out.2.2.1 k l[k] (List.getElem?_eq_getElem hkl)
            have hcr := hFr.cell hcell (HV.out.2.2.2.1 (by omega) _ eao)
            subst eao
            have hw3 : IntKind.i64.wrap (3 + (k : Int)) = 3 + (k : Int) := IntWalk.i64_in _ (by omega)
            have hw1 : IntKind.i64.wrap ((k : Int) + 1) = (k : Int) + 1 := IntWalk.i64_in _ (by omega)
            have c2 := hMr.c2
            have hmr := hMr.mlt
            have hgr := rr.lt
            have hstep : argsS M' ⟨pp, pa, pn⟩ 0 (l.take (k + 1)) = ((argsS M' ⟨pp, pa, pn⟩ 0 (l.take k)).store ⟨pp, pa, offn pp pn (3 + (k : Int))⟩ ⟨false, 0, l[k]⟩).1 := by
             rw [List.take_succ_eq_append_getElem hkl, argsS_snoc, offS_eq, List.length_take, Nat.min_eq_left (Nat.le_of_lt hkl), Nat.zero_add]
             rfl
            generalize l[k] = lk at *
            have HX := Lib.hid (And.intro hMr (And.intro hAr (And.intro hFr hstep)))
            clear hMr hAr hFr rr hcell hstep
            go_wp2_with fail
            have cW := @Mix.cls_drew wr [m, g]
            refine Mix.wp_region_mix [3, 4] [(0, 0), (0, 1), (0, 2), (1, 3), (1, 4), (0, 5), (0, 6), (0, 8), (2, 7), (2, 9), (2, 10)] (fun U => ∃ g', U = Mix.upon wr [m, g] g') (by kernel_rfl) (by kernel_rfl) cW ?_
            clear cW
            repeat (first | ((first | refine Mix.S_pure rfl rfl ?_ | refine Mix.S_load rfl rfl ?_); intro K hK; simp only [nA, nB, nC]; go_big_quiet_op; go_big_quiet_on) | refine Mix.S_skip0 rfl rfl ?_ | refine Mix.S_skip1 rfl rfl ?_)
            refine Mix.S_eff (o := _) rfl rfl ?_
            intro K hK
            simp only [nA, nB, nC]
            go_simp
            refine (off_c _ pp pa pn (3 + (k : Int))).mono ?_
            rintro e1 w5 ⟨rfl, hf⟩
            refine hK _ _ ⟨Mix.cls_fr (D := Non) hf (by simp [Non]; omega), ?_⟩
            clear hK K
            have hf5 : Fr Non wr w5 := Fr.trans (by exact (Fr.refl _ _).drew) hf
            have hs5 := hf5.size
            clear hf
            refine Mix.S_eff (o := _) rfl rfl ?_
            intro K hK
            simp only [nA, nB, nC]
            go_simp
            refine (number_c _ lk).mono ?_
            rintro e1 w6 ⟨rfl, hf⟩
            refine hK _ _ ⟨Mix.cls_fr (D := Non) hf (by simp [Non]; omega), ?_⟩
            clear hK K
            have hf6 : Fr Non wr w6 := hf5.trans hf
            have hs6 := hf6.size
            clear hf hf5
            have HF6 := Lib.hid hf6
            clear hf6
            refine Mix.S_eff (o := _) rfl rfl ?_
            intro K hK
            simp only [nA, nB, nC]
            go_simp
            refine (store_i (HX.out.1.mem.frN HF6.out) pp pa (offn pp pn (3 + (k : Int))) false 0 lk).mono ?_
            rintro e1 w7 ⟨rfl, hM7, hf7⟩
            refine hK _ _ ⟨Mix.cls_fr (D := D1) hf7 (by simp; exact ⟨⟨by omega, H1.out.2.2.2.2.2.2.2.2⟩, by omega, HV.out.2.2.2.2.1⟩), ?_⟩
            clear hK K
            have hf7' : Fr D1 wr w7 := (HF6.out.mono (fun _ _ h => h.elim)).trans hf7
            have HY := Lib.hid (And.intro (HX.out.1.upMem hf7' hM7 (fun b hb => Or.inl hb)) hf7')
            clear hM7 hf7 hf7'
            repeat (first | ((first | refine Mix.S_pure rfl rfl ?_ | refine Mix.S_load rfl rfl ?_); intro K hK; simp only [nA, nB, nC]; go_big_quiet_op; go_big_quiet_on) | refine Mix.S_skip0 rfl rfl ?_ | refine Mix.S_skip1 rfl rfl ?_)
            refine Mix.S_done ?_
            go_wp2_with fail
            obtain ⟨hMr, hAr, hFr, hstep⟩ := HX.out
            refine ⟨⟨k + 1, by omega, rfl, ⟨fun x => Ar x ∨ D1 x, ?_, ?_⟩, hFr.trans HY.out.2⟩, by simp [intOf]; omega⟩
            · rw [hstep]
              exact HY.out.1
            · intro x hx
              rcases hx with hx | hx
              · exact hAr x hx
              · exact H1.out.1.od x hx
          · have hkk : k = l.length := by omega
            subst hkk
            rw [List.take_length] at hMr
            obtain ⟨a0, a1, a2, az⟩ := row3 (hFr.row HV.out.2.2.2.2.2.1 H1.out.2.2.2.2.2.2.1)
            obtain ⟨b0, b1, bz⟩ := row2 (hFr.row HV.out.2.2.2.2.2.2.1 H1.out.2.2.2.2.2.2.2.1)
            have HX := Lib.hid (And.intro hMr (And.intro hAr hFr))
            clear hMr hAr hFr rr
            go_wp2_with fail
            have hR := HR.out
            rw [if_neg (by simp)] at hR
            rw [hR]
            obtain ⟨hMr, hAr, hFr⟩ := HX.out
            refine bodyPost_ret (v := .tuple #[.agg #[.bool pp, .int .i64 pa, .int .i64 pn], .agg #[.int .i64 2, .int .i64 0]]) (by simp [results, Tryz.results12, go_sem, a0, a1, a2, b0, b1]) rfl ⟨rfl, ?_⟩
            have hfin : Fr A W wr := HV.out.2.1.then hFr (fun x hx e => by
             rcases H1.out.2.1 _ (H1.out.1.od x e) with h | h
             · exact h
             · omega)
            exact Aft.box H1.out.2.2.2.2.2.1 ⟨Ar, ⟨_, hMr⟩, fun x hx => H1.out.2.1 x (hAr x hx), hfin⟩ (E := fun x => x = w.heap.size ∨ x = w.heap.size + 1) (by exact ((Fr.set3 _ _ _ _ _ _ _ _).mono fun _ _ h => Or.inl h).trans (((Fr.set1 _ _ _ _).trans (Fr.set1 _ _ _ _)).mono fun _ _ h => Or.inr h)) (fun x hx => by omega) HH.out.1.lt HH.out.1.base_le
       · have hE := Lib.hid fun w1 => failed_r w1 er hne
         go_wp2_with fail
         have sV : (w1.alloc (.cells #[.bool pp, .int .i64 pa, .int .i64 pn] 40)).heap.size = w1.heap.size + 1 := by simp
         have fV : Fr Non w1 (w1.alloc (.cells #[.bool pp, .int .i64 pa, .int .i64 pn] 40)) := (Fr.refl _ _).alloc _
         generalize w1.alloc (.cells #[.bool pp, .int .i64 pa, .int .i64 pn] 40) = V at *
         have cW := @Mix.cls_drew V []
         refine Mix.wp_region_alt [] [(0, 0), (0, 1), (2, 2), (0, 3)] 4 5 [(2, 5), (2, 6)] [(2, 4), (2, 6)] (fun U => ∃ g', U = Mix.upon V [] g') (by kernel_rfl) (by kernel_rfl) cW ?_
         clear cW
         repeat (first | ((first | refine Mix.S_pure rfl rfl ?_ | refine Mix.S_load rfl rfl ?_); intro K hK; simp only [nA, nB, nC]; go_big_quiet_op; go_big_quiet_on) | refine Mix.S_skip0 rfl rfl ?_ | refine Mix.S_skip1 rfl rfl ?_)
         refine Mix.S_eff (o := _) rfl rfl ?_
         intro K hK
         simp only [nA, nB, nC]
         go_simp
         refine (hE.out _).mono ?_
         rintro e6 w6 ⟨v6, rfl, hres, hf6⟩
         refine hK _ _ ⟨Mix.cls_fr (D := Non) hf6 (by simp), ?_⟩
         clear hK K
         have hf56 : Fr Non w1 w6 := fV.trans (Fr.trans (by exact (Fr.refl _ _).drew) hf6)
         have s6 := hf56.size
         have herr : errS er = some (if er = 10 then (5, 0) else (6, er)) := by unfold errS; rw [if_neg hne]
         rw [herr] at hres
         rcases hres with ⟨e, _⟩ | ⟨rb, k6, n6, e6, rfl, hrow6, hlo⟩
         · cases e
         · obtain ⟨d0, d1, dz⟩ := row2 hrow6
           simp only [World.size_drew] at hlo
           have hrb0 : ¬ rb = w.heap.size := by omega
           have hrb1 : ¬ w.heap.size = rb := by omega
           have hrb2 : ¬ rb = w.heap.size + 1 := by omega
           obtain ⟨a0', a1', a2', az'⟩ := row3 (hf56.row H1.out.2.2.2.1 id)
           obtain ⟨b0', b1', bz'⟩ := row2 (hf56.row H1.out.2.2.2.2.1 id)
           have hd6 := hrow6.lt
           have HV6 := Lib.hid hf56
           clear hf6 hf56 hrow6 a0 a1 a2 az b0 b1 bz c2 fV
           repeat (first | ((first | refine Mix.S_pure rfl rfl ?_ | refine Mix.S_load rfl rfl ?_); intro K hK; simp only [nA, nB, nC]; go_big_quiet_op; go_big_quiet_on) | refine Mix.S_skip0 rfl rfl ?_ | refine Mix.S_skip1 rfl rfl ?_)
           refine Mix.S_done ?_
           refine ⟨?_, ?_⟩
           · refine Mix.N_eff (C := fun U => ∃ g', U = Mix.upon V [] g') (o := _) rfl rfl ?_
             intro K hK
             simp only [nA, nB, nC]
             go_simp
             refine hK _ _ ⟨Mix.cls_fr (D := Non) (by exact Fr.refl _ _) (by simp), ?_⟩
             clear hK K
             refine Mix.S_eff (o := _) rfl rfl ?_
             intro K hK
             simp only [nA, nB, nC]
             go_simp
             refine hK _ _ ⟨Mix.cls_fr (D := fun x => x = w.heap.size) (by exact Fr.set3 _ _ _ _ _ _ _ _) (by simp), ?_⟩
             clear hK K
             refine Mix.S_eff (o := _) rfl rfl ?_
             intro K hK
             simp only [nA, nB, nC]
             go_simp
             refine hK _ _ ⟨Mix.cls_fr (D := fun x => x = w.heap.size + 1) (by exact (Fr.set1 _ _ _ _).trans (Fr.set1 _ _ _ _)) (by simp), ?_⟩
             clear hK K
             refine Mix.S_done ?_
             go_wp2_with fail
             have hR := HR.out
             rw [if_pos hne, herr, e6] at hR
             simp only [Option.getD_some] at hR
             rw [hR]
             refine bodyPost_ret (v := .tuple #[.agg #[.bool false, .int .i64 0, .int .i64 0], .agg #[.int .i64 k6, .int .i64 n6]]) (by simp [results, Tryz.results12, go_sem, a0', a1', a2', b0', b1']) rfl ⟨rfl, ?_⟩
             exact Aft.box H1.out.2.2.2.2.2.1 ⟨A1, ⟨_, H1.out.1.frN HV6.out⟩, H1.out.2.1, H1.out.2.2.1.trans (HV6.out.mono fun _ _ h => h.elim)⟩ (E := fun x => x = w.heap.size ∨ x = w.heap.size + 1) (by exact ((Fr.set3 _ _ _ _ _ _ _ _).mono fun _ _ h => Or.inl h).trans (((Fr.set1 _ _ _ _).trans (Fr.set1 _ _ _ _)).mono fun _ _ h => Or.inr h)) (fun x hx => by omega) HH.out.1.lt HH.out.1.base_le
           · refine Mix.N_eff (C := fun U => ∃ g', U = Mix.upon V [] g') (o := _) rfl rfl ?_
             intro K hK
             simp only [nA, nB, nC]
             go_simp
             refine hK _ _ ⟨Mix.cls_fr (D := fun x => x = w.heap.size) (by exact Fr.set3 _ _ _ _ _ _ _ _) (by simp), ?_⟩
             clear hK K
             refine Mix.S_eff (o := _) rfl rfl ?_
             intro K hK
             simp only [nA, nB, nC]
             go_simp
             refine hK _ _ ⟨Mix.cls_fr (D := Non) (by exact Fr.refl _ _) (by simp), ?_⟩
             clear hK K
             refine Mix.S_eff (o := _) rfl rfl ?_
             intro K hK
             simp only [nA, nB, nC]
             go_simp
             refine hK _ _ ⟨Mix.cls_fr (D := fun x => x = w.heap.size + 1) (by exact (Fr.set1 _ _ _ _).trans (Fr.set1 _ _ _ _)) (by simp), ?_⟩
             clear hK K
             refine Mix.S_done ?_
             go_wp2_with fail
             have hR := HR.out
             rw [if_pos hne, herr, e6] at hR
             simp only [Option.getD_some] at hR
             rw [hR]
             refine bodyPost_ret (v := .tuple #[.agg #[.bool false, .int .i64 0, .int .i64 0], .agg #[.int .i64 k6, .int .i64 n6]]) (by simp [results, Tryz.results12, go_sem, a0', a1', a2', b0', b1']) rfl ⟨rfl, ?_⟩
             exact Aft.box H1.out.2.2.2.2.2.1 ⟨A1, ⟨_, H1.out.1.frN HV6.out⟩, H1.out.2.1, H1.out.2.2.1.trans (HV6.out.mono fun _ _ h => h.elim)⟩ (E := fun x => x = w.heap.size ∨ x = w.heap.size + 1) (by exact ((Fr.set3 _ _ _ _ _ _ _ _).mono fun _ _ h => Or.inl h).trans (((Fr.set1 _ _ _ _).trans (Fr.set1 _ _ _ _)).mono fun _ _ h => Or.inr h)) (fun x hx => by omega) HH.out.1.lt HH.out.1.base_le
     · have hae : ((l.length : Int) == xx.args) = false := beq_false_of_ne hargs
       have han : ((l.length : Int) != xx.args) = true := by simp [hargs]
       rw [if_pos (Or.inr (Or.inr hargs))] at hR
       have HR := Lib.hid hR
       clear h hc hA hR hcc g4
       go_enter Tryz.func12, Tryz.ntmps12
       go_wp2_with fail
       refine bodyPost_ret (v := .tuple #[.agg #[.bool false, .int .i64 0, .int .i64 0], .agg #[.int .i64 6, .int .i64 1]]) (by simp [results, Tryz.results12, go_sem]) rfl ?_
       rw [HR.out]
       exact ⟨rfl, HH.out.1.aftN (by exact (by repeat (first | exact .refl _ _ | assumption | apply Fr.drewN | apply Fr.drew | apply Fr.drewl | apply Fr.drewNl | apply Fr.alloc)))⟩
end

end Go.Proofs.YtlbomnbpahmphaaGreat

/- Walks: the machine's 'Start', with arguments that lie ahead of it. Conditions: the program is checked; blocks are few. -/
namespace Go.Proofs.YtlbomnbpahmphaaGreat
open Go.RowKit

section
variable {base : Nat} {P : Pr} {kinds : List Int} {A : Nat → Prop} {w : World} {m : Nat} {S : St}

theorem start_i (h : MInv base P A w m S) (hB : S.mem.blocks.length < 1000000) (co : Int) (l : List Int) (hl : ∀ x ∈ P.cos, x.args ≤ 1000000000) (ao : Option Addr) (cap : Nat) (hc : IntsAt base w ao l) :
 Calls Tryz.prog 12 #[.pointer (some ⟨m, 0, none⟩), .int .i64 co, .slice ao l.length cap] w fun e w' =>
  e = .returned (.tuple #[.agg #[.bool (startS P S co l).2.1.p, .int .i64 (startS P S co l).2.1.a, .int .i64 (startS P S co l).2.1.n], .agg #[.int .i64 (startS P S co l).2.2.1, .int .i64 (startS P S co l).2.2.2]]) ∧ Aft base P A w w' m (startS P S co l).1 := by
 refine start_m h hB co l (Or.inr hl) ao cap (fun i n hn => ?_) (fun hl0 a ha => ?_)
 · obtain ⟨b, o, e, hcb⟩ := hc i n hn
   exact ⟨b, o, e, hcb.2⟩
 · obtain ⟨b, o, e, hcb⟩ := hc 0 _ (List.getElem?_eq_getElem hl0)
   rw [ha] at e
   cases e
   obtain ⟨L, hL⟩ := h
   refine ⟨fun e => ?_, ?_⟩
   · have h1 : base ≤ b := hL.high _ e
     have h2 := hcb.1
     omega
   · have h1 := hL.base_le
     have h2 := hcb.1
     show b < w.heap.size
     omega
end

end Go.Proofs.YtlbomnbpahmphaaGreat

/- Up to three machines of the same code, side by side: each has blocks of its own. No condition. -/
namespace Go.Proofs.YtlbomnbpahmphaaGreat
open Go.RowKit

abbrev Mo := Option (Nat × St)
section
variable {base : Nat} {P : Pr} {kinds : List Int} {A E : Nat → Prop} {w w' : World} {m : Nat} {S : St} {a b c : Mo} {U : Nat → Prop}

theorem MInv.high (h : MInv base P A w m S) : High base A := by obtain ⟨L, h⟩ := h; exact h.high
theorem MInv.lt (h : MInv base P A w m S) : ∀ x, A x → x < w.heap.size := by obtain ⟨L, h⟩ := h; exact h.lt
theorem MInv.om (h : MInv base P A w m S) : A m := by obtain ⟨L, h⟩ := h; exact h.om
theorem MInv.frE (h : MInv base P A w m S) (f : Fr E w w') (hE : High base E) (hd : ∀ x, A x → ¬ E x) : MInv base P A w' m S := by obtain ⟨L, h⟩ := h; exact ⟨L, h.frE f hE hd⟩
end

end Go.Proofs.YtlbomnbpahmphaaGreat

/- A machine, boxes, and rows that are owned, side by side: what each kind of step leaves. No condition. -/
namespace Go.Proofs.YtlbomnbpahmphaaGreat
open Go.RowKit

/-- A slice that owns its row: the slice, its element's type and cells, how many there are, and the cells. -/
structure Ow where
 v : Value
 T : TypeId
 k : Nat
 n : Nat
 cs : List Value
abbrev Bb := Nat × TypeId × List Value
def Ow.apart (o p : Ow) : Prop := ∀ x, o.v.ownBlock = some x → p.v.ownBlock ≠ some x

structure PkA (base : Nat) (P : Pr) (m : Nat) (A : Nat → Prop) (w : World) (S : St) (bs : List Bb) (os : List Ow) : Prop where
 mach : MInv base P A w m S
 box : ∀ e ∈ bs, Row w e.1 e.2.1 e.2.2 ∧ ¬ A e.1 ∧ base ≤ e.1
 one : (bs.map (·.1)).Nodup
 own : ∀ o ∈ os, Own w o.v o.T o.k o.n o.cs ∧ ∀ x, o.v.ownBlock = some x → ¬ A x ∧ base ≤ x ∧ ∀ e ∈ bs, e.1 ≠ x
 two : os.Pairwise Ow.apart
def Pk (base : Nat) (P : Pr) (m : Nat) (w0 w : World) (S : St) (bs : List Bb) (os : List Ow) : Prop := (∃ A, PkA base P m A w S bs os) ∧ Fr (fun x => base ≤ x) w0 w

section
variable {base : Nat} {P : Pr} {m : Nat} {A E : Nat → Prop} {w0 w w' : World} {S S' : St} {bs cs : List Bb} {os ps : List Ow}

theorem Pk.fr (h : Pk base P m w0 w S bs os) : Fr (fun x => base ≤ x) w0 w := h.2
theorem Pk.row (h : Pk base P m w0 w S bs os) {e : Bb} (he : e ∈ bs) : Row w e.1 e.2.1 e.2.2 := by
 obtain ⟨⟨A, h⟩, _⟩ := h
 exact (h.box e he).1
theorem Pk.own (h : Pk base P m w0 w S bs os) {o : Ow} (ho : o ∈ os) : Own w o.v o.T o.k o.n o.cs := by
 obtain ⟨⟨A, h⟩, _⟩ := h
 exact (h.own o ho).1
theorem Pk.own_base (h : Pk base P m w0 w S bs os) {o : Ow} (ho : o ∈ os) {x : Nat} (hx : o.v.ownBlock = some x) : base ≤ x := by
 obtain ⟨⟨A, h⟩, _⟩ := h
 exact ((h.own o ho).2 x hx).2.1
theorem Pk.base_le (h : Pk base P m w0 w S bs os) : base ≤ w.heap.size := by
 obtain ⟨⟨A, h⟩, _⟩ := h
 have := h.mach.high _ h.mach.om
 have := h.mach.lt _ h.mach.om
 omega
theorem PkA.frE (h : PkA base P m A w S bs os) (f : Fr E w w') (hE : High base E) (hA : ∀ x, A x → ¬ E x) (hb : ∀ e ∈ bs, ¬ E e.1) (ho : ∀ o ∈ os, ∀ x, o.v.ownBlock = some x → ¬ E x) : PkA base P m A w' S bs os :=
 ⟨h.mach.frE f hE hA, fun e he => ⟨f.row (h.box e he).1 (hb e he), (h.box e he).2⟩, h.one, fun o hm => ⟨(h.own o hm).1.fr f (ho o hm), (h.own o hm).2⟩, h.two⟩
theorem Pk.frN (h : Pk base P m w0 w S bs os) (f : Fr Non w w') : Pk base P m w0 w' S bs os := by
 obtain ⟨⟨A, h1⟩, h2⟩ := h
 exact ⟨⟨A, h1.frE f (high_non _) (fun _ _ h => h) (fun _ _ h => h) (fun _ _ _ _ h => h)⟩, h2.then f fun _ _ h => h.elim⟩
/-- Fewer boxes. -/
theorem Pk.less (h : Pk base P m w0 w S bs os) (hs : List.Sublist cs bs) : Pk base P m w0 w S cs os := by
 obtain ⟨⟨A, h1⟩, h2⟩ := h
 have hm : ∀ e ∈ cs, e ∈ bs := fun e he => hs.subset he
 exact ⟨⟨A, h1.mach, fun e he => h1.box e (hm e he), h1.one.sublist (hs.map _), fun o ho => ⟨(h1.own o ho).1, fun x hx => ⟨((h1.own o ho).2 x hx).1, ((h1.own o ho).2 x hx).2.1, fun e he => ((h1.own o ho).2 x hx).2.2 e (hm e he)⟩⟩, h1.two⟩, h2⟩
/-- The boxes in another order. -/
theorem Pk.perm (h : Pk base P m w0 w S bs os) (hp : List.Perm bs cs) : Pk base P m w0 w S cs os := by
 obtain ⟨⟨A, h1⟩, h2⟩ := h
 exact ⟨⟨A, h1.mach, fun e he => h1.box e (hp.mem_iff.2 he), (hp.map _).nodup_iff.1 h1.one, fun o ho => ⟨(h1.own o ho).1, fun x hx => ⟨((h1.own o ho).2 x hx).1, ((h1.own o ho).2 x hx).2.1, fun e he => ((h1.own o ho).2 x hx).2.2 e (hp.mem_iff.2 he)⟩⟩, h1.two⟩, h2⟩
/-- A box more. -/
theorem Pk.box (h : Pk base P m w0 w S bs os) (c : List Value) (T : TypeId) : Pk base P m w0 (w.alloc (.cells c.toArray T)) S ((w.heap.size, T, c) :: bs) os := by
 have hf : Fr Non w (w.alloc (.cells c.toArray T)) := (Fr.refl _ _).alloc _
 have hbl := h.base_le
 obtain ⟨⟨A, h1⟩, h2⟩ := h
 have k := h1.frE hf (high_non _) (fun _ _ h => h) (fun _ _ h => h) (fun _ _ _ _ h => h)
 refine ⟨⟨A, k.mach, fun e he => ?_, ?_, fun o ho => ⟨(k.own o ho).1, fun x hx => ⟨((k.own o ho).2 x hx).1, ((k.own o ho).2 x hx).2.1, fun e he => ?_⟩⟩, k.two⟩, h2.then hf fun _ _ h => h.elim⟩
 · rcases List.mem_cons.1 he with rfl | he
   · exact ⟨Row.new w c.toArray T, fun e => by have := h1.mach.lt _ e; simp only at this; omega, hbl⟩
   · exact k.box e he
 · rw [List.map_cons, List.nodup_cons]
   refine ⟨fun hm => ?_, k.one⟩
   obtain ⟨e, he, hq⟩ := List.mem_map.1 hm
   have := (h1.box e he).1.lt
   simp only at hq
   omega
 · rcases List.mem_cons.1 he with rfl | he
   · have := (h1.own o ho).1.lt hx
     simp only
     omega
   · exact ((k.own o ho).2 x hx).2.2 e he
/-- The first box has changed. -/
theorem Pk.set {g : Nat} {T : TypeId} {c : List Value} (h : Pk base P m w0 w S ((g, T, c) :: bs) os) {c' : List Value} (hr : Row w' g T c') (f : Fr (fun x => x = g) w w') : Pk base P m w0 w' S ((g, T, c') :: bs) os := by
 obtain ⟨⟨A, h1⟩, h2⟩ := h
 have hg := h1.box _ List.mem_cons_self
 have hn := h1.one
 rw [List.map_cons, List.nodup_cons] at hn
 have hH : High base (fun x => x = g) := fun x hx => by subst hx; exact hg.2.2
 refine ⟨⟨A, h1.mach.frE f hH fun x hx e => hg.2.1 (e ▸ hx), fun e he => ?_, h1.one, fun o ho => ⟨(h1.own o ho).1.fr f fun x hx e => ((h1.own o ho).2 x hx).2.2 _ List.mem_cons_self e.symm, fun x hx => ⟨((h1.own o ho).2 x hx).1, ((h1.own o ho).2 x hx).2.1, fun e he => ?_⟩⟩, h1.two⟩, h2.then f fun x _ e => hH x e⟩
 · rcases List.mem_cons.1 he with rfl | he
   · exact ⟨hr, hg.2⟩
   · have hb := h1.box e (List.mem_cons_of_mem _ he)
     exact ⟨f.row hb.1 fun e2 => hn.1 (List.mem_map.2 ⟨e, he, e2⟩), hb.2⟩
 · rcases List.mem_cons.1 he with rfl | he
   · exact ((h1.own o ho).2 x hx).2.2 (g, T, c) List.mem_cons_self
   · exact ((h1.own o ho).2 x hx).2.2 e (List.mem_cons_of_mem _ he)
/-- The first box, and the first row, have changed. -/
theorem Pk.both {g : Nat} {T : TypeId} {c c' : List Value} {o o' : Ow} (h : Pk base P m w0 w S ((g, T, c) :: bs) (o :: os)) (hr : Row w' g T c') (ho : Own w' o'.v o'.T o'.k o'.n o'.cs) (f : Fr (fun x => x = g ∨ o.v.ownBlock = some x) w w') (hg : ∀ x, o'.v.ownBlock = some x → o.v.ownBlock = some x ∨ w.heap.size ≤ x) : Pk base P m w0 w' S ((g, T, c') :: bs) (o' :: os) := by
 have hbl := h.base_le
 obtain ⟨⟨A, h1⟩, h2⟩ := h
 have hgb := h1.box _ List.mem_cons_self
 have hk := h1.own o List.mem_cons_self
 have hn := h1.one
 rw [List.map_cons, List.nodup_cons] at hn
 have hH : High base (fun x => x = g ∨ o.v.ownBlock = some x) := fun x hx => by
  rcases hx with rfl | hx
  · exact hgb.2.2
  · exact (hk.2 x hx).2.1
 have ht := List.pairwise_cons.1 h1.two
 refine ⟨⟨A, h1.mach.frE f hH fun x hx e => ?_, fun e he => ?_, h1.one, fun p hp => ?_, List.pairwise_cons.2 ⟨fun p hp x hx => ?_, ht.2⟩⟩, h2.then f fun x _ e => hH x e⟩
 · rcases e with rfl | e
   · exact hgb.2.1 hx
   · exact (hk.2 x e).1 hx
 · rcases List.mem_cons.1 he with rfl | he
   · exact ⟨hr, hgb.2⟩
   · have hb := h1.box e (List.mem_cons_of_mem _ he)
     refine ⟨f.row hb.1 fun e2 => ?_, hb.2⟩
     rcases e2 with e2 | e2
     · exact hn.1 (List.mem_map.2 ⟨e, he, e2⟩)
     · exact (hk.2 _ e2).2.2 e (List.mem_cons_of_mem _ he) rfl
 · rcases List.mem_cons.1 hp with rfl | hp
   · refine ⟨ho, fun x hx => ?_⟩
     rcases hg x hx with k | k
     · have hq := hk.2 x k
       exact ⟨hq.1, hq.2.1, fun e he => by
        rcases List.mem_cons.1 he with rfl | he
        · exact hq.2.2 (g, T, c) List.mem_cons_self
        · exact hq.2.2 e (List.mem_cons_of_mem _ he)⟩
     · refine ⟨fun e => by have := h1.mach.lt _ e; omega, by omega, fun e he e2 => ?_⟩
       rcases List.mem_cons.1 he with rfl | he
       · have := hgb.1.lt; simp only at e2 this; omega
       · have := (h1.box e (List.mem_cons_of_mem _ he)).1.lt; omega
   · have hq := h1.own p (List.mem_cons_of_mem _ hp)
     refine ⟨hq.1.fr f fun x hx e => ?_, fun x hx => ⟨(hq.2 x hx).1, (hq.2 x hx).2.1, fun e he => ?_⟩⟩
     · rcases e with rfl | e
       · exact (hq.2 _ hx).2.2 _ List.mem_cons_self rfl
       · exact ht.1 p hp x e hx
     · rcases List.mem_cons.1 he with rfl | he
       · exact (hq.2 x hx).2.2 (g, T, c) List.mem_cons_self
       · exact (hq.2 x hx).2.2 e (List.mem_cons_of_mem _ he)
 · have hq := h1.own p (List.mem_cons_of_mem _ hp)
   rcases hg x hx with k | k
   · exact ht.1 p hp x k
   · intro e
     have := hq.1.lt e
     omega
theorem Ow.apart_symm {o p : Ow} (h : o.apart p) : p.apart o := fun x hx e => h x e hx
/-- The rows in another order. -/
theorem Pk.permO (h : Pk base P m w0 w S bs os) (hp : List.Perm os ps) : Pk base P m w0 w S bs ps := by
 obtain ⟨⟨A, h1⟩, h2⟩ := h
 exact ⟨⟨A, h1.mach, h1.box, h1.one, fun o ho => h1.own o (hp.mem_iff.2 ho), hp.pairwise h1.two fun h => Ow.apart_symm h⟩, h2⟩
/-- The machine has changed. -/
theorem Pk.step (h : Pk base P m w0 w S bs os) {f : FuncId} {args : Array Value} {Q : Ending → Prop} (hc : ∀ A, MInv base P A w m S → Calls Tryz.prog f args w fun e w' => Q e ∧ Aft base P A w w' m S') :
 Calls Tryz.prog f args w fun e w' => Q e ∧ Pk base P m w0 w' S' bs os ∧ w.heap.size ≤ w'.heap.size ∧ ∃ F : Nat → Prop, Fr F w w' ∧ (∀ e ∈ bs, ¬ F e.1) ∧ ∀ o ∈ os, ∀ x, o.v.ownBlock = some x → ¬ F x := by
 obtain ⟨⟨A, h1⟩, h2⟩ := h
 have hH : High base A := h1.mach.high
 refine (hc A h1.mach).mono fun e w' ⟨he, A', k1, k2, k3⟩ => ⟨he, ⟨⟨A', k1, fun e he => ?_, h1.one, fun o ho => ?_, h1.two⟩, h2.then k3 fun x _ e => hH x e⟩, k3.size, A, k3, fun e he => (h1.box e he).2.1, fun o ho x hx => ((h1.own o ho).2 x hx).1⟩
 · have hb := h1.box e he
   refine ⟨k3.row hb.1 hb.2.1, fun e2 => ?_, hb.2.2⟩
   rcases k2 _ e2 with g | g
   · exact hb.2.1 g
   · have := hb.1.lt; omega
 · have hq := h1.own o ho
   refine ⟨hq.1.fr k3 fun x hx => (hq.2 x hx).1, fun x hx => ⟨fun e2 => ?_, (hq.2 x hx).2⟩⟩
   rcases k2 _ e2 with g | g
   · exact (hq.2 x hx).1 g
   · have := hq.1.lt hx; omega
/-- A box, and a row, that is no machine's any more. -/
theorem Pk.told (h : Pk base P m w0 w S bs os) :
 Calls Tryz.prog 22 #[.pointer (some ⟨m, 0, none⟩)] w fun e w' => ∃ tv, e = .returned tv ∧ Pk base P m w0 w' { S with told := [] } bs (⟨tv, 74, 4, S.told.length, evs S.told⟩ :: os) ∧ w.heap.size ≤ w'.heap.size := by
 obtain ⟨⟨A, h1⟩, h2⟩ := h
 have hm := h1.mach.om
 refine (told_m h1.mach).mono ?_
 rintro e w' ⟨tv, A', rfl, ho, hi, hA, htv, hf⟩
 have hH : High base (fun x => x = m) := fun x e => by subst e; exact h1.mach.high _ hm
 refine ⟨tv, rfl, ⟨⟨A', hi, fun e he => ?_, h1.one, fun o ho2 => ?_, List.pairwise_cons.2 ⟨fun o ho2 x hx e => ?_, h1.two⟩⟩, h2.then hf fun x _ e => hH x e⟩, hf.size⟩
 · have hb := h1.box e he
   exact ⟨hf.row hb.1 fun e2 => hb.2.1 (e2 ▸ hm), fun e2 => hb.2.1 (hA _ e2).1, hb.2.2⟩
 · rcases List.mem_cons.1 ho2 with rfl | ho2
   · refine ⟨ho, fun x hx => ⟨fun e => (hA x e).2 hx, h1.mach.high x (htv x hx), fun e he e2 => ?_⟩⟩
     exact (h1.box e he).2.1 (e2 ▸ htv x hx)
   · have hq := h1.own o ho2
     exact ⟨hq.1.fr hf fun x hx e => (hq.2 x hx).1 (e ▸ hm), fun x hx => ⟨fun e => (hq.2 x hx).1 (hA x e).1, (hq.2 x hx).2⟩⟩
 · exact ((h1.own o ho2).2 x e).1 (htv x hx)
/-- A row is let go. -/
theorem Pk.drop {o : Ow} (h : Pk base P m w0 w S bs (o :: os)) : Pk base P m w0 w S bs os := by
 obtain ⟨⟨A, h1⟩, h2⟩ := h
 exact ⟨⟨A, h1.mach, h1.box, h1.one, fun p hp => h1.own p (List.mem_cons_of_mem _ hp), (List.pairwise_cons.1 h1.two).2⟩, h2⟩
/-- A row of no cells. -/
theorem Pk.nil (h : Pk base P m w0 w S bs os) (T : TypeId) (k : Nat) : Pk base P m w0 w S bs (⟨.slice none 0 0, T, k, 0, []⟩ :: os) := by
 obtain ⟨⟨A, h1⟩, h2⟩ := h
 refine ⟨⟨A, h1.mach, h1.box, h1.one, fun p hp => ?_, List.pairwise_cons.2 ⟨(fun p hp x hx => by cases hx), h1.two⟩⟩, h2⟩
 rcases List.mem_cons.1 hp with rfl | hp
 · exact ⟨Own.nil _ _ _, (fun x hx => by cases hx)⟩
 · exact h1.own p hp
end

end Go.Proofs.YtlbomnbpahmphaaGreat
