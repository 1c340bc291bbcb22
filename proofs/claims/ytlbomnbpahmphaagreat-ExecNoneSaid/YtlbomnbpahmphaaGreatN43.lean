/- Walk: 'exec.Run': a script's trace, by code. Conditions: the program, the bools, and the acts, lie as they are read; acts and fuel are few. -/
import Derived.Test.YtlbomnbpahmphaaGreatN40
import Derived.Test.YtlbomnbpahmphaaGreatN37
import Derived.Test.YtlbomnbpahmphaaGreatN42
namespace Go.Proofs.YtlbomnbpahmphaaGreat
open Go.RowKit

/-- A script's trace, by code. -/
def runX (P : Pr) (opn : List Bool) (l : List Ax) (fuel words tasks : Int) : List Ev :=
 if validS P = true then (runD ⟨P, opn, fuel, max tasks 0⟩ (Dr.new words) (l.map Ax.sc)).trace else [⟨13, 0, 0, 30⟩]

theorem new_okx {base : Nat} {P : Pr} {w : World} {v : Value} (h : PrAt base P w v) (hb : base ≤ w.heap.size) (hv : validS P = true) (words : Int) :
 Calls Tryz.prog 8 #[v, .int .i64 words] w fun e w' => ∃ m A, e = .returned (.tuple #[.pointer (some ⟨m, 0, none⟩), .int .i64 0]) ∧ Fr Non w w' ∧ MInv base P A w' m (St.new words) ∧ ∀ x, A x → w.heap.size ≤ x :=
 (new_m h hb words).mono fun e w' ⟨hf, hm⟩ => by
  rw [if_pos hv] at hm
  obtain ⟨m, A, rfl, hI, hA⟩ := hm
  exact ⟨m, A, rfl, hf, hI, hA⟩
theorem perm5 {α : Type} (o f m p u : α) : List.Perm [o, f, m, p, u] [f, p, m, u, o] :=
 ((List.Perm.swap f o [m, p, u]).trans ((List.perm_append_comm (l₁ := [o]) (l₂ := [m, p, u])).cons f)).trans ((List.Perm.swap p m [u, o]).cons f)

set_option maxRecDepth 100000 in
set_option maxHeartbeats 1000000 in
theorem run_e (w : World) (P : Pr) (v : Value) (hP : PrAt w.heap.size P w v) (opn : List Bool) (oo : Option Addr) (oc : Nat) (hopn : BoolsAt w.heap.size w oo opn) (ao : Option Addr) (ac : Nat) (l : List Ax) (hl : AxAt w.heap.size w ao l) (hn : l.length ≤ 45) (fuel words tasks : Int) (hfu : fuel ≤ 3000) :
 Calls Tryz.prog 27 #[v, .slice oo opn.length oc, .slice ao l.length ac, .int .i64 fuel, .int .i64 words, .int .i64 tasks] w fun e w' =>
  ∃ tr, e = .returned tr ∧ Own w' tr 74 4 (runX P opn l fuel words tasks).length (evs (runX P opn l fuel words tasks)) ∧ (∀ g, tr.ownBlock = some g → w.heap.size ≤ g) ∧ Fr Non w w' := by
 obtain ⟨fo, fc, co, cc, rfl, hfu1, hco⟩ := hP.val
 by_cases hv : validS P = true
 · have hR : runX P opn l fuel words tasks = (runD ⟨P, opn, fuel, max tasks 0⟩ (Dr.new words) (l.map Ax.sc)).trace := by unfold runX; rw [if_pos hv]
   obtain ⟨R, hRe⟩ : ∃ R, R = runX P opn l fuel words tasks := ⟨_, rfl⟩
   rw [← hRe] at hR ⊢
   have HH := Lib.hid (And.intro hP (And.intro hopn (And.intro hl (And.intro hR (And.intro (valid_good hv hP.lab) (valid_args hv))))))
   clear hP hfu1 hco hopn hl hR hRe
   have hsf : ∀ (W : World) (a : Addr), (store a (.func (.func 57) #[] #[])).run Tryz.prog W = stored Tryz.prog W a (.func (.func 57) #[] #[]) .plain := fun W a => run_store _ W a _ _ rfl
   go_enter Tryz.func27, Tryz.ntmps27
   go_wp2_with fail
   refine (new_okx (base := w.heap.size) (HH.out.1.fr (E := Non) (by exact (by repeat (first | exact .refl _ _ | assumption | apply Fr.drewN | apply Fr.drew | apply Fr.drewl | apply Fr.drewNl | apply Fr.alloc))) (high_non _)) (by first | omega | (simp; omega) | (simp)) hv words).mono ?_
   rintro e1 w1 ⟨m, A, rfl, hf, hI, hA⟩
   have hf' : Hid (Fr Non w w1) := Lib.hid (Fr.trans (by exact (by repeat (first | exact .refl _ _ | assumption | apply Fr.drewN | apply Fr.drew | apply Fr.drewl | apply Fr.drewNl | apply Fr.alloc))) hf)
   have o1 : Row w1 (w.heap.size + 1) 64 [.slice oo opn.length oc] := hf.row (by exact Row.alloc (Row.new' (by simp)) _) id
   have u1 : Row w1 (w.heap.size + 2) 3 [.int .i64 fuel] := hf.row (by exact Row.new' (by simp)) id
   have hs := hf.size
   simp only [World.size_alloc] at hs hA
   have HM := Lib.hid (And.intro hI (And.intro hA (And.intro o1 u1)))
   clear hf hI hA o1 u1
   have h0 : Pk w.heap.size P m w w1 (St.new words) [(w.heap.size + 1, 64, [.slice oo opn.length oc]), (w.heap.size + 2, 3, [.int .i64 fuel])] [] := by
    refine Pk.init (s := w.heap.size + 3) HM.out.1 (fun x hx => by have := HM.out.2.1 x hx; omega) ?_ ?_ (hf'.out.mono fun _ _ h => h.elim)
    · intro e he
      simp only [List.mem_cons, List.not_mem_nil, or_false] at he
      rcases he with rfl | rfl
      · exact ⟨HM.out.2.2.1, by simp, by simp⟩
      · exact ⟨HM.out.2.2.2, by simp, by simp⟩
    · simp
   have h1 := ((h0.box [ptr m] 29).box [.slice none 0 0] 35).box [.func (.func 57) #[] #[]] 120
   simp only [World.size_alloc] at h1
   have h2 := h1.perm (perm5 _ _ _ _ _)
   have hE : (⟨P, opn, fuel, max tasks 0⟩ : En).most = max tasks 0 := rfl
   have hDr := Lib.hid (drive_e (E := ⟨P, opn, fuel, max tasks 0⟩) (Y := ⟨w1.heap.size + 1 + 1 + 1 + 1, m, w.heap.size + 1, w1.heap.size, w1.heap.size + 1, w.heap.size + 1 + 1, w1.heap.size + 1 + 1, oo, oc⟩) (by simp) words h2 HH.out.2.1 HH.out.2.2.2.2.1 hfu HH.out.2.2.2.2.2 tasks hE ao ac l HH.out.2.2.1 hn)
   rw [← HH.out.2.2.2.1] at hDr
   unfold Ey.f0 Ey.f1 Ey.f2 Ey.f3 Ey.f4 ptr at hDr
   simp only at hDr
   clear h0 h1 h2 hE
   go_wp2_with fail
   refine hDr.out.mono ?_
   rintro e2 w2 ⟨tr, rfl, ho, hg, hf2⟩
   have HO := Lib.hid (And.intro ho (And.intro hg hf2))
   clear ho hg hf2
   go_wp2_with fail
   go_ret
   obtain ⟨ho, hg, hf2⟩ := HO.out
   exact ⟨tr, rfl, ho, hg, hf2.mono fun x hx e => by omega⟩
 · have hR : runX P opn l fuel words tasks = [⟨13, 0, 0, 30⟩] := by unfold runX; rw [if_neg hv]
   rw [hR]
   refine run_bad w fo _ fc co _ cc oo _ oc ao _ ac fuel words tasks fun w1 f => ?_
   have hb : validS P = false := by simpa using hv
   rw [← hb]
   exact valid_c fo fc co cc (hfu1.fr f (high_non _)) (hco.fr f (high_non _)) hP.lab

end Go.Proofs.YtlbomnbpahmphaaGreat

/- The plain law: without coroutines that may be spawned all but completing is refused. Condition: a task or more is allowed. -/
namespace Go.Proofs.YtlbomnbpahmphaaGreat

/-- What is told of a script then. -/
def noneE (l : List Sc) : List Ev := (l.filter fun a => a.k != 5).map fun a => ⟨1, if a.k = 2 then -1 else a.a, 0, 0⟩

section
variable {E : En}

theorem none_next {D : Dr} (ht : D.tasks = []) (hq : D.queue = []) (ho : D.over = false) (hE : E.opn = []) (hm : 1 ≤ E.most) (a : Sc) :
 (nextD E D a).tasks = [] ∧ (nextD E D a).queue = [] ∧ (nextD E D a).over = false ∧ (nextD E D a).trace = D.trace ++ noneE [a] := by
 have hk : ∀ n, D.known n = false := fun n => by
  unfold Dr.known
  rw [ht]
  by_cases h : 0 ≤ n
  · rw [decide_eq_false (p := n < _) (by simpa using h), Bool.and_false]
  · rw [decide_eq_false h, Bool.false_and]
 have hl : ∀ n, D.live n = false := fun n => by unfold Dr.live; rw [hk, Bool.false_and]
 have ho2 : ∀ n, isOpen E n = false := fun n => by
  unfold isOpen
  rw [hE]
  simp
 unfold nextD actD
 by_cases h0 : a.k = 0
 · have e : spawnD E D a.a a.args = D.tell [⟨1, a.a, 0, 0⟩] := by
    unfold spawnD startD
    rw [ht, ho2, if_neg (by simp; omega)]
    rfl
   simp only [if_pos h0, e]
   have : noneE [a] = [⟨1, a.a, 0, 0⟩] := by simp [noneE, h0]
   rw [this]
   have ho3 : (D.tell [⟨1, a.a, 0, 0⟩]).over = false := ho
   rw [ho3]
   exact ⟨ht, hq, ho, rfl⟩
 simp only [if_neg h0]
 by_cases h2 : a.k = 2
 · simp only [if_pos h2, hq]
   have : noneE [a] = [⟨1, -1, 0, 0⟩] := by simp [noneE, h2]
   rw [this]
   have ho3 : (D.tell [⟨1, -1, 0, 0⟩]).over = false := ho
   rw [ho3]
   exact ⟨ht, hq, ho, rfl⟩
 simp only [if_neg h2]
 by_cases h5 : a.k = 5
 · have e : completeD D a.a a.n = { D with S := completeS D.S a.a a.n } := by
    unfold completeD
    rw [ht]
    rfl
   simp only [if_pos h5, e]
   have : noneE [a] = [] := by simp [noneE, h5]
   rw [this, List.append_nil]
   rw [ho]
   exact ⟨ht, hq, rfl, rfl⟩
 simp only [if_neg h5]
 have hr : (if a.k = 6 then (if D.known a.a && (D.task a.a).done then (D.tell [⟨7, a.a, 0, (D.task a.a).n⟩], true) else (D, false))
  else if a.k = 1 then (if D.live a.a then pollD E D a.a else D, D.live a.a) else if a.k = 3 then (if D.live a.a then D.ready a.a else D, D.live a.a)
  else if a.k = 4 then (if D.live a.a then endsD E D a.a ⟨9, 0, 0, 0⟩ else D, D.live a.a) else (D, false)) = (D, false) := by
  rw [hk, hl]
  simp
 rw [hr]
 have : noneE [a] = [⟨1, a.a, 0, 0⟩] := by simp [noneE, h2, h5]
 rw [this]
 simp only [ho]
 exact ⟨ht, hq, ho, rfl⟩

theorem noneE_cons (a : Sc) (l : List Sc) : noneE (a :: l) = noneE [a] ++ noneE l := by
 unfold noneE
 rw [← List.map_append, ← List.filter_append]
 rfl

theorem none_run (hE : E.opn = []) (hm : 1 ≤ E.most) : ∀ (l : List Sc) (D : Dr), D.tasks = [] → D.queue = [] → D.over = false → (runD E D l).trace = D.trace ++ noneE l
 | [], D, _, _, _ => by simp [runD, noneE]
 | a :: l, D, ht, hq, ho => by
  obtain ⟨h1, h2, h3, h4⟩ := none_next ht hq ho hE hm a
  rw [runD, h3]
  simp only [Bool.false_eq_true, if_false]
  rw [none_run hE hm l _ h1 h2 h3, h4, noneE_cons a l, List.append_assoc]
end

theorem none_x {P : Pr} {fuel words tasks : Int} (hv : validS P = true) (ht : 1 ≤ tasks) (l : List Ax) : runX P [] l fuel words tasks = noneE (l.map Ax.sc) := by
 unfold runX
 rw [if_pos hv, none_run rfl (by show 1 ≤ max tasks 0; omega) _ _ rfl rfl rfl]
 rfl

end Go.Proofs.YtlbomnbpahmphaaGreat
