/- Walk: 'exec.Run': a script's trace, by code. Conditions: the program, the bools, and the acts, lie as they are read; acts and fuel are few. -/
import Derived.Test.YtlbomnbpahmphaaGreatR39
import Derived.Test.YtlbomnbpahmphaaGreatR36
import Derived.Test.YtlbomnbpahmphaaGreatR41
namespace Go.Proofs.YtlbomnbpahmphaaGreat
open Go.RowKit

/-- A script's trace, by code. -/
def runX (P : Pr) (opn : List Bool) (l : List Ax) (fuel words tasks : Int) : List Ev :=
 if validS P = true then (runD ⟨P, opn, fuel, max tasks 0⟩ (Dr.new words) (l.map Ax.sc)).trace else [⟨13, 0, 0, 30⟩]

theorem new_okx {base : Nat} {P : Pr} {w : World} {v : Value} (h : PrAt base P w v) (hb : base ≤ w.heap.size) (hv : validS P = true) (words : Int) :
 Calls Tryz.prog 8 #[v, .int .i64 words] w fun e w' => ∃ m A, e = .returned (.tuple #[.pointer (some ⟨m, 0, none⟩), .int .i64 0]) ∧ Fr Non w w' ∧ MInv base P A w' m (St.new words) ∧ ∀ x, A x → w.heap.size ≤ x :=
 (new_m h hb words).mono fun e w' ⟨hf, hm⟩ => by
  rw [if_pos hv] at hm
  obtain ⟨m, A, rfl, hI, hA⟩ := hm
  exact ⟨m, A, rfl, hf, hI, hA⟩
theorem perm5 {α : Type} (o f m p u : α) : List.Perm [o, f, m, p, u] [f, p, m, u, o] :=
 ((List.Perm.swap f o [m, p, u]).trans ((List.perm_append_comm (l₁ := [o]) (l₂ := [m, p, u])).cons f)).trans ((List.Perm.swap p m [u, o]).cons f)

set_option maxRecDepth 100000 in
set_option maxHeartbeats 1000000 in
theorem run_e (w : World) (P : Pr) (v : Value) (hP : PrAt w.heap.size P w v) (opn : List Bool) (oo : Option Addr) (oc : Nat) (hopn : BoolsAt w.heap.size w oo opn) (ao : Option Addr) (ac : Nat) (l : List Ax) (hl : AxAt w.heap.size w ao l) (hn : l.length ≤ 45) (fuel words tasks : Int) (hfu : fuel ≤ 3000) :
 Calls Tryz.prog 27 #[v, .slice oo opn.length oc, .slice ao l.length ac, .int .i64 fuel, .int .i64 words, .int .i64 tasks] w fun e w' =>
  ∃ tr, e = .returned tr ∧ Own w' tr 74 4 (runX P opn l fuel words tasks).length (evs (runX P opn l fuel words tasks)) ∧ (∀ g, tr.ownBlock = some g → w.heap.size ≤ g) ∧ Fr Non w w' := by
 obtain ⟨fo, fc, co, cc, rfl, hfu1, hco⟩ := hP.val
 by_cases hv : validS P = true
 · have hR : runX P opn l fuel words tasks = (runD ⟨P, opn, fuel, max tasks 0⟩ (Dr.new words) (l.map Ax.sc)).trace := by unfold runX; rw [if_pos hv]
   obtain ⟨R, hRe⟩ : ∃ R, R = runX P opn l fuel words tasks := ⟨_, rfl⟩
   rw [← hRe] at hR ⊢
   have HH := Lib.hid (And.intro hP (And.intro hopn (And.intro hl (And.intro hR (And.intro (valid_good hv hP.lab) (valid_args hv))))))
   clear hP hfu1 hco hopn hl hR hRe
   have hsf : ∀ (W : World) (a : Addr), (store a (.func (.func 57) #[] #[])).run Tryz.prog W = stored Tryz.prog W a (.func (.func 57) #[] #[]) .plain := fun W a => run_store _ W a _ _ rfl
   go_enter Tryz.func27, Tryz.ntmps27
   go_wp2_with fail
   refine (new_okx (base := w.heap.size) (HH.out.1.fr (E := Non) (by exact (by repeat (first | exact .refl _ _ | assumption | apply Fr.drewN | apply Fr.drew | apply Fr.drewl | apply Fr.drewNl | apply Fr.alloc))) (high_non _)) (by first | omega | (simp; omega) | (simp)) hv words).mono ?_
   rintro e1 w1 ⟨m, A, rfl, hf, hI, hA⟩
   have hf' : Hid (Fr Non w w1) := Lib.hid (Fr.trans (by exact (by repeat (first | exact .refl _ _ | assumption | apply Fr.drewN | apply Fr.drew | apply Fr.drewl | apply Fr.drewNl | apply Fr.alloc))) hf)
   have o1 : Row w1 (w.heap.size + 1) 64 [.slice oo opn.length oc] := hf.row (by exact Row.alloc (Row.new' (by simp)) _) id
   have u1 : Row w1 (w.heap.size + 2) 3 [.int .i64 fuel] := hf.row (by exact Row.new' (by simp)) id
   have hs := hf.size
   simp only [World.size_alloc] at hs hA
   have HM := Lib.hid (And.intro hI (And.intro hA (And.intro o1 u1)))
   clear hf hI hA o1 u1
   have h0 : Pk w.heap.size P m w w1 (St.new words) [(w.heap.size + 1, 64, [.slice oo opn.length oc]), (w.heap.size + 2, 3, [.int .i64 fuel])] [] := by
    refine Pk.init (s := w.heap.size + 3) HM.out.1 (fun x hx => by have := HM.out.2.1 x hx; omega) ?_ ?_ (hf'.out.mono fun _ _ h => h.elim)
    · intro e he
      simp only [List.mem_cons, List.not_mem_nil, or_false] at he
      rcases he with rfl | rfl
      · exact ⟨HM.out.2.2.1, by simp, by simp⟩
      · exact ⟨HM.out.2.2.2, by simp, by simp⟩
    · simp
   have h1 := ((h0.box [ptr m] 29).box [.slice none 0 0] 35).box [.func (.func 57) #[] #[]] 120
   simp only [World.size_alloc] at h1
   have h2 := h1.perm (perm5 _ _ _ _ _)
   have hE : (⟨P, opn, fuel, max tasks 0⟩ : En).most = max tasks 0 := rfl
   have hDr := Lib.hid (drive_e (E := ⟨P, opn, fuel, max tasks 0⟩) (Y := ⟨w1.heap.size + 1 + 1 + 1 + 1, m, w.heap.size + 1, w1.heap.size, w1.heap.size + 1, w.heap.size + 1 + 1, w1.heap.size + 1 + 1, oo, oc⟩) (by simp) words h2 HH.out.2.1 HH.out.2.2.2.2.1 hfu HH.out.2.2.2.2.2 tasks hE ao ac l HH.out.2.2.1 hn)
   rw [← HH.out.2.2.2.1] at hDr
   unfold Ey.f0 Ey.f1 Ey.f2 Ey.f3 Ey.f4 ptr at hDr
   simp only at hDr
   clear h0 h1 h2 hE
   go_wp2_with fail
   refine hDr.out.mono ?_
   rintro e2 w2 ⟨tr, rfl, ho, hg, hf2⟩
   have HO := Lib.hid (And.intro ho (And.intro hg hf2))
   clear ho hg hf2
   go_wp2_with fail
   go_ret
   obtain ⟨ho, hg, hf2⟩ := HO.out
   exact ⟨tr, rfl, ho, hg, hf2.mono fun x hx e => by omega⟩
 · have hR : runX P opn l fuel words tasks = [⟨13, 0, 0, 30⟩] := by unfold runX; rw [if_neg hv]
   rw [hR]
   refine run_bad w fo _ fc co _ cc oo _ oc ao _ ac fuel words tasks fun w1 f => ?_
   have hb : validS P = false := by simpa using hv
   rw [← hb]
   exact valid_c fo fc co cc (hfu1.fr f (high_non _)) (hco.fr f (high_non _)) hP.lab

end Go.Proofs.YtlbomnbpahmphaaGreat
