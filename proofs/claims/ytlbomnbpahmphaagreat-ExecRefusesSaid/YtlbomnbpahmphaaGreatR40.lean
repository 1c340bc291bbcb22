/- Walks: 'Drive' over acts that neither spawn nor complete: each is refused. -/
import Derived.WalkMore
import Derived.Test.YtlbomnbpahmphaaGreatR12
namespace Go.Proofs.YtlbomnbpahmphaaGreat
open Go.RowKit

/-- An act, its arguments as they lie. -/
structure Ac where
 k : Int
 a : Int
 n : Int
 la : Option Addr
 ln : Nat
 lc : Nat
def Ac.cs (x : Ac) : List Value := [.int .i64 x.k, .int .i64 x.a, .int .i64 x.n, .slice x.la x.ln x.lc]
def acs (l : List Ac) : List Value := l.flatMap Ac.cs
theorem acs_cons (x : Ac) (l : List Ac) : acs (x :: l) = .int .i64 x.k :: .int .i64 x.a :: .int .i64 x.n :: .slice x.la x.ln x.lc :: acs l := rfl
theorem acs_get {l : List Ac} {i : Nat} {x : Ac} (h : l[i]? = some x) :
 (acs l)[i * 4]? = some (.int .i64 x.k) ∧ (acs l)[i * 4 + 1]? = some (.int .i64 x.a) ∧ (acs l)[i * 4 + 2]? = some (.int .i64 x.n) ∧ (acs l)[i * 4 + 3]? = some (.slice x.la x.ln x.lc) := by
 induction l generalizing i with
 | nil => simp at h
 | cons y l ih =>
  cases i with
  | zero => simp at h; subst h; simp [acs_cons]
  | succ i =>
   have := ih (by simpa using h)
   rw [acs_cons, show (i + 1) * 4 = i * 4 + 4 by omega]
   exact this
/-- The acts lie at the slice. -/
def Acts (w : World) (ao : Option Addr) (l : List Ac) : Prop := 0 < l.length → ∃ b o, ao = some ⟨b, o, none⟩ ∧ ∀ (j : Nat) (u : Value), (acs l)[j]? = some u → w.cell? ⟨b, o + j, none⟩ = some u
theorem Acts.fr {w w' : World} {ao : Option Addr} {l : List Ac} (h : Acts w ao l) (f : Fr Non w w') : Acts w' ao l := fun hl => by
 obtain ⟨b, o, e, hc⟩ := h hl
 exact ⟨b, o, e, fun j u hu => f.cell (hc j u hu) id⟩
def refuse (x : Ac) : Ev := ⟨1, if x.k = 2 then -1 else x.a, 0, 0⟩

theorem take_refuse {l : List Ac} {i : Nat} {x : Ac} (h : l[i]? = some x) : (l.take (i + 1)).map refuse = (l.take i).map refuse ++ [refuse x] := by
 rw [List.take_add_one, h]; simp

set_option maxRecDepth 100000 in
set_option maxHeartbeats 1000000 in
theorem drive_idle (w : World) (f0 f1 f2 f3 f4 : Value)
 (ao : Option Addr) (cap : Nat) (l : List Ac) (hl : Acts w ao l) (hn : l.length ≤ 1000) (hk : ∀ x ∈ l, ¬ x.k = 0 ∧ ¬ x.k = 5) (most : Int) :
 Calls Tryz.prog 58 #[.agg #[f0, f1, f2, f3, f4], .slice ao l.length cap, .int .i64 most] w fun e w' => ∃ tr, e = .returned tr ∧ Own w' tr 74 4 l.length (evs (l.map refuse)) ∧ (∀ g, tr.ownBlock = some g → w.heap.size ≤ g) ∧ Fr Non w w' := by
 have h0l : (0 : Int) ≤ (l.length : Int) := by omega
 go_enter Tryz.func58, Tryz.ntmps58
 go_wp2_with fail
 go_step3
 go_wp2_with fail
 go_step3
 go_wp2_with fail
 have hI : Idle ((w.alloc (.cells #[f0, f1, f2, f3, f4] 125)).alloc (.cells #[f0, f1, f2, f3, f4, .slice none 0 0, .slice none 0 0, .slice none 0 0, .bool false] 165)) (w.heap.size + 1) f0 f1 f2 f3 f4 (.slice none 0 0) := Row.new' (by simp)
 have hfw : Fr Non w ((w.alloc (.cells #[f0, f1, f2, f3, f4] 125)).alloc (.cells #[f0, f1, f2, f3, f4, .slice none 0 0, .slice none 0 0, .slice none 0 0, .bool false] 165)) := by exact (by repeat (first | exact .refl _ _ | assumption | apply Fr.drewN | apply Fr.drew | apply Fr.drewl | apply Fr.drewNl | apply Fr.alloc))
 generalize (w.alloc (.cells #[f0, f1, f2, f3, f4] 125)).alloc (.cells #[f0, f1, f2, f3, f4, .slice none 0 0, .slice none 0 0, .slice none 0 0, .bool false] 165) = w2 at *
 obtain ⟨d, hd⟩ : ∃ d, d = w.heap.size + 1 := ⟨_, rfl⟩
 rw [← hd] at hI
 rw [← hd]
 have hd2 := Lib.hid hd
 clear hd
 have hl2 : Acts w2 ao l := hl.fr hfw
 go_loopw [16] (fun v16 wr => ∃ i : Nat, i ≤ l.length ∧ v16 = .int .i64 i ∧ ∃ tr, Idle wr d f0 f1 f2 f3 f4 tr ∧ Own wr tr 74 4 i (evs ((l.take i).map refuse)) ∧ (∀ g, tr.ownBlock = some g → w.heap.size ≤ g) ∧ Fr Non w wr) (fun v16 _ => l.length - (intOf v16).toNat)
 case atStart => exact ⟨0, by omega, rfl, _, hI, Own.nil _ _ _, (fun g hg => by cases hg), hfw⟩
 case round =>
  obtain ⟨i, hi, rfl, tr, hIr, hOr, hgr, hfr⟩ := hrel
  by_cases hlt : i < l.length
  · obtain ⟨x, hx⟩ : ∃ x, l[i]? = some x := ⟨l[i], List.getElem?_eq_getElem hlt⟩
    obtain ⟨sb, so, rfl, hac⟩ := hl (by omega)
    obtain ⟨g0, g1, g2, g3⟩ := acs_get hx
    have e0 := hfr.cell (hac _ _ g0) id
    have e1 := hfr.cell (hac _ _ g1) id
    have e2 := hfr.cell (hac _ _ g2) id
    have e3 := hfr.cell (hac _ _ g3) id
    rw [← Nat.add_assoc] at e1 e2 e3
    obtain ⟨hk0, hk5⟩ := hk x (List.mem_of_getElem? hx)
    have hIlt := hIr.lt
    have hdne : ¬ wr.heap.size = d := by omega
    have HH := Lib.hid (And.intro hIr (And.intro hOr (And.intro hgr hfr)))
    clear hIr hOr hgr hfr hac g0 g1 g2 g3 hl2 hl
    have hkk : (x.k = 2 ∧ decide (x.k = 2) = true) ∨ ¬ x.k = 2 := by by_cases h : x.k = 2 <;> simp [h]
    rcases hkk with ⟨hk2, _⟩ | hk2
    · go_wp2_with fail
      all_goals refine (act_idle_next _ d f0 f1 f2 f3 f4 tr (by exact Row.alloc HH.out.1 _) i ((l.take i).map refuse) (by exact HH.out.2.1.fr (D := Non) (by exact (by repeat (first | exact .refl _ _ | assumption | apply Fr.drewN | apply Fr.drew | apply Fr.drewl | apply Fr.drewNl | apply Fr.alloc))) (fun _ _ => id)) (by omega) 2 x.a x.n _ (.slice x.la x.ln x.lc) rfl).mono ?_
      all_goals rintro e1 w1 ⟨rfl, tr1, hI1, hO1, hg1, hf1⟩
      all_goals have c8 := hI1.cell (o := 8) rfl
      all_goals have HH1 := Lib.hid (And.intro hI1 (And.intro hO1 (And.intro hg1 hf1)))
      all_goals clear hI1 hO1 hg1 hf1
      all_goals go_wp2_with fail
      all_goals obtain ⟨hI1, hO1, hg1, hf1⟩ := HH1.out
      all_goals obtain ⟨hIr, hOr, hgr, hfr⟩ := HH.out
      all_goals have hd := hd2.out
      all_goals refine ⟨⟨i + 1, by omega, by simp, tr1, hI1, ?_, fun g hg => (hg1 g hg).elim (hgr g) (fun h => by simp at h; have := hfr.size; omega), ?_⟩, by simp [intOf]; omega⟩
      any_goals (rw [take_refuse hx, show refuse x = ⟨1, -1, 0, 0⟩ by simp [refuse, hk2]]; exact hO1)
      all_goals exact Fr.then (D := Non) (E := fun y => y = d ∨ tr.ownBlock = some y) (by exact (by repeat (first | exact .refl _ _ | assumption | apply Fr.drewN | apply Fr.drew | apply Fr.drewl | apply Fr.drewNl | apply Fr.alloc))) hf1 (fun y hy hd' => absurd hy (by rcases hd' with rfl | hd'; (· omega); (· have := hgr y hd'; omega)))
    · go_wp2_with fail
      all_goals refine (act_idle_false _ d f0 f1 f2 f3 f4 tr (by exact Row.alloc HH.out.1 _) x.k x.a x.n _ (.slice x.la x.ln x.lc) hk0 hk2 hk5).mono ?_
      all_goals rintro e1 w1 ⟨rfl, hf1⟩
      all_goals have c8 := hf1.cell (b := d) (o := 8) (v := .bool false) (by exact (Row.alloc HH.out.1 _).cell rfl) id
      all_goals have b1 := hf1.new_cell (by simp [Non]) (o := 1) rfl
      all_goals have HH1 := Lib.hid hf1
      all_goals have hsz := hf1.size
      all_goals clear hf1
      all_goals go_wp2_with fail
      all_goals refine (tell_c _ d f0 f1 f2 f3 f4 (.slice none 0 0) (.slice none 0 0) tr (.bool false) i ((l.take i).map refuse) (by exact Row.alloc (HH1.out.row (Row.alloc HH.out.1 _) id) _) (by exact HH.out.2.1.fr (D := Non) (by exact ((Fr.refl Non wr).alloc _).trans (HH1.out.alloc _)) (fun _ _ => id)) w1.heap.size 0 1 1 [⟨1, x.a, 0, 0⟩] rfl (by omega) (by exact (Row.new' rfl).news) (by omega)).mono ?_
      all_goals rintro e1 w3 ⟨rfl, tr1, hI1, hO1, hg1, hf1⟩
      all_goals have HH2 := Lib.hid (And.intro hI1 (And.intro hO1 (And.intro hg1 hf1)))
      all_goals clear hI1 hO1 hg1 hf1
      all_goals go_wp2_with fail
      all_goals obtain ⟨hI1, hO1, hg1, hf1⟩ := HH2.out
      all_goals obtain ⟨hIr, hOr, hgr, hfr⟩ := HH.out
      all_goals have hd := hd2.out
      all_goals have hf0 := HH1.out
      all_goals simp only [World.size_alloc] at hsz hg1
      all_goals refine ⟨⟨i + 1, by omega, by simp, tr1, hI1, ?_, fun g hg => (hg1 g hg).elim (hgr g) (fun h => by have := hfr.size; omega), ?_⟩, by simp [intOf]; omega⟩
      any_goals (rw [take_refuse hx, show refuse x = ⟨1, x.a, 0, 0⟩ by simp [refuse, hk2]]; exact hO1)
      all_goals exact Fr.then (D := Non) (E := fun y => y = d ∨ tr.ownBlock = some y) (by exact (hfr.alloc _).trans (hf0.alloc _)) hf1 (fun y hy hd' => absurd hy (by rcases hd' with rfl | hd'; (· omega); (· have := hgr y hd'; omega)))
  · obtain rfl : i = l.length := by omega
    have c7 := hIr.cell (o := 7) rfl
    go_wp2_with fail
    rw [Exit.noGoto_ret]
    go_ret
    rw [List.take_length] at hOr
    exact ⟨tr, rfl, hOr, hgr, by exact (by repeat (first | exact .refl _ _ | assumption | apply Fr.drewN | apply Fr.drew | apply Fr.drewl | apply Fr.drewNl | apply Fr.alloc))⟩

end Go.Proofs.YtlbomnbpahmphaaGreat
