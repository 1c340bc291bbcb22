/- The plain law: each task is spawned once, and ends once at most. No condition. -/
import Derived.Test.YtlbomnbpahmphaaMa19
namespace Go.Proofs.Ytlbomnbpahmphaa

/-- What the law of layer 21 keeps of each task: is it over, is it done, and with what. -/
structure Ck where
  over : List Bool
  done : List Bool
  wit : List Int
def ckE (most : Int) (c : Ck) (e : Ev) : Option Ck :=
  if e.kind = 0 then (if e.task ≠ c.over.length ∨ most ≤ c.over.length then none else some ⟨c.over ++ [false], c.done ++ [false], c.wit ++ [0]⟩)
  else if e.kind = 4 ∨ e.kind = 6 ∨ e.kind = 8 ∨ e.kind = 9 then
    (if e.task < 0 ∨ (c.over.length : Int) ≤ e.task ∨ c.over.getD e.task.toNat false = true then none else some ⟨c.over.set e.task.toNat (e.kind == 8 || e.kind == 9), c.done, c.wit⟩)
  else if e.kind = 7 then
    (if e.task < 0 ∨ (c.over.length : Int) ≤ e.task ∨ (c.over.getD e.task.toNat false = true ∧ (c.done.getD e.task.toNat false = false ∨ c.wit.getD e.task.toNat 0 ≠ e.n)) then none
     else some ⟨c.over.set e.task.toNat true, c.done.set e.task.toNat true, c.wit.set e.task.toNat e.n⟩)
  else some c
def ckL (most : Int) : Ck → List Ev → Option Ck
  | c, [] => some c
  | c, e :: l => match ckE most c e with | none => none | some c' => ckL most c' l
def ofT (l : List Tk) : Ck := ⟨l.map fun t => !t.live, l.map fun t => t.done, l.map fun t => t.n⟩

theorem ckL_append (most : Int) : ∀ (l m : List Ev) (c : Ck), ckL most c (l ++ m) = match ckL most c l with | none => none | some c' => ckL most c' m
  | [], _, _ => rfl
  | e :: l, m, c => by
    rw [List.cons_append, ckL, ckL]
    cases ckE most c e with
    | none => rfl
    | some c' => exact ckL_append most l m c'
theorem ckL_skip (most : Int) (c : Ck) : ∀ (l : List Ev), (∀ e ∈ l, e.kind ≠ 0 ∧ e.kind ≠ 4 ∧ e.kind ≠ 6 ∧ e.kind ≠ 8 ∧ e.kind ≠ 9 ∧ e.kind ≠ 7) → ckL most c l = some c
  | [], _ => rfl
  | e :: l, h => by
    have he := h e List.mem_cons_self
    have : ckE most c e = some c := by
      unfold ckE
      rw [if_neg he.1, if_neg (by omega), if_neg he.2.2.2.2.2]
    rw [ckL, this]
    exact ckL_skip most c l fun x hx => h x (List.mem_cons_of_mem _ hx)
theorem set_same {α : Type} {l : List α} {i : Nat} {a : α} (h : l[i]? = some a) : l.set i a = l := by
  refine List.ext_getElem? fun j => ?_
  rw [List.getElem?_set]
  split
  · rename_i h2
    subst h2
    split
    · exact h.symm
    · rename_i h3
      rw [List.getElem?_eq_none (by omega)] at h
      cases h
  · rfl

/-- What the law keeps follows the tasks. -/
def Cor (most : Int) (D D' : Dr) : Prop := (∀ e ∈ D.S.told, mild e) → (∀ e ∈ D'.S.told, mild e) ∧ ∃ t, D'.trace = D.trace ++ t ∧ ckL most (ofT D.tasks) t = some (ofT D'.tasks)

section
variable {D D' D2 : Dr} {E : En} {n most : Int}

theorem Cor.trans (h : Cor most D D') (k : Cor most D' D2) : Cor most D D2 := fun hm => by
  obtain ⟨m1, t1, e1, c1⟩ := h hm
  obtain ⟨m2, t2, e2, c2⟩ := k m1
  refine ⟨m2, t1 ++ t2, by rw [e2, e1, List.append_assoc], ?_⟩
  rw [ckL_append, c1]
  exact c2
theorem Cor.same (hs : D'.S.told = D.S.told) (ht : D'.trace = D.trace) (hk : ofT D'.tasks = ofT D.tasks) : Cor most D D' := fun hm => ⟨by rw [hs]; exact hm, [], by rw [ht]; simp, by rw [hk]; rfl⟩
theorem Cor.refl (D : Dr) : Cor most D D := Cor.same rfl rfl rfl
theorem Cor.tell (D : Dr) {l : List Ev} (hl : ∀ e ∈ l, e.kind ≠ 0 ∧ e.kind ≠ 4 ∧ e.kind ≠ 6 ∧ e.kind ≠ 8 ∧ e.kind ≠ 9 ∧ e.kind ≠ 7) : Cor most D (D.tell l) := fun hm => ⟨hm, l, rfl, ckL_skip _ _ _ hl⟩
theorem Cor.tell1 (D : Dr) (k t a m : Int) (hk : k ≠ 0 ∧ k ≠ 4 ∧ k ≠ 6 ∧ k ≠ 8 ∧ k ≠ 9 ∧ k ≠ 7) : Cor most D (D.tell [⟨k, t, a, m⟩]) := Cor.tell D fun e he => by
  rw [List.mem_singleton] at he
  subst he
  exact hk
theorem Cor.stop (D : Dr) (k t a m : Int) (hk : k ≠ 0 ∧ k ≠ 4 ∧ k ≠ 6 ∧ k ≠ 8 ∧ k ≠ 9 ∧ k ≠ 7) : Cor most D (D.stop ⟨k, t, a, m⟩) := fun hm => ⟨hm, [⟨k, t, a, m⟩], rfl, ckL_skip _ _ _ fun e he => by
  rw [List.mem_singleton] at he
  subst he
  exact hk⟩
theorem Cor.took (D : Dr) : Cor most D D.took := fun hm => ⟨(fun e he => by cases he), D.S.told, rfl, ckL_skip _ _ _ fun e he => by
  have := hm e he
  unfold mild at this
  omega⟩
theorem Cor.marks (D : Dr) (o : Int × Int) : Cor most D (D.marks o) := by
  unfold Dr.marks
  split
  · exact Cor.stop _ _ _ _ _ (by decide)
  · split
    · exact Cor.stop _ _ _ _ _ (by decide)
    · split
      · exact Cor.stop _ _ _ _ _ (by decide)
      · exact Cor.refl _
theorem Cor.ready (D : Dr) (n : Int) : Cor most D (D.ready n) := by
  unfold Dr.ready
  split
  · exact Cor.refl _
  · exact Cor.same rfl rfl rfl
theorem Cor.out (D : Dr) (n : Int) : Cor most D (D.out n) := Cor.same rfl rfl rfl
theorem Cor.mach (D : Dr) {S : St} (h : (∀ e ∈ D.S.told, mild e) → ∀ e ∈ S.told, mild e) : Cor most D { D with S := S } := fun hm => ⟨h hm, [], by simp, rfl⟩

theorem task_get (hl : D.live n = true) : D.tasks[n.toNat]? = some (D.task n) := by
  have h := live_iff.1 hl
  unfold Dr.task
  rw [List.getD_eq_getElem?_getD, List.getElem?_eq_getElem (by omega)]
  rfl
theorem ofT_put {l : List Tk} {i : Nat} {t u : Tk} (h : l[i]? = some t) (h1 : u.live = t.live) (h2 : u.done = t.done) (h3 : u.n = t.n) : ofT (l.set i u) = ofT l := by
  have e : ∀ {β : Type} (f : Tk → β), f u = f t → (l.set i u).map f = l.map f := fun f hf => by
    rw [List.map_set, hf]
    exact set_same (by rw [List.getElem?_map, h]; rfl)
  unfold ofT
  rw [e _ (by rw [h1]), e _ h2, e _ h3]
/-- A task is changed that is not ended by it. -/
theorem Cor.put (D : Dr) {t : Tk} (hl : D.live n = true) (h1 : t.live = (D.task n).live) (h2 : t.done = (D.task n).done) (h3 : t.n = (D.task n).n) : Cor most D (D.put n t) :=
  Cor.same rfl rfl (ofT_put (task_get hl) h1 h2 h3)
theorem over_get (hl : D.live n = true) : (ofT D.tasks).over[n.toNat]? = some false := by
  show (D.tasks.map fun t => !t.live)[n.toNat]? = some false
  rw [List.getElem?_map, task_get hl]
  show some (!(D.task n).live) = _
  rw [(live_iff.1 hl).2]
  rfl
theorem over_len (D : Dr) : (ofT D.tasks).over.length = D.tasks.length := by simp [ofT]
/-- A yielding, or a waiting: nothing is over. -/
theorem Cor.yields (D : Dr) (hl : D.live n = true) (k a m : Int) (hk : k = 4 ∨ k = 6) : Cor most D (D.tell [⟨k, n, a, m⟩]) := fun hm => by
  refine ⟨hm, [⟨k, n, a, m⟩], rfl, ?_⟩
  have h := live_iff.1 hl
  have ho := over_get hl
  have hlen := over_len D
  have : ckE most (ofT D.tasks) ⟨k, n, a, m⟩ = some (ofT D.tasks) := by
    unfold ckE
    simp only
    rw [if_neg (by omega), if_pos (by omega), if_neg (by rw [List.getD_eq_getElem?_getD, ho, hlen]; simp; omega)]
    have hf : (k == 8 || k == 9) = false := by rcases hk with rfl | rfl <;> rfl
    rw [hf, set_same ho]
  rw [ckL, this]
  rfl
/-- A task's end. -/
theorem Cor.ends (D : Dr) (hl : D.live n = true) (k a m : Int) (hk : k = 7 ∨ k = 8 ∨ k = 9) (w : Bool) :
    Cor most D (((D.tell [⟨k, n, a, m⟩]).out n).put n (if k = 7 then { D.task n with live := false, waits := w, done := true, n := m } else { D.task n with live := false, waits := w })) := fun hm => by
  refine ⟨hm, [⟨k, n, a, m⟩], rfl, ?_⟩
  have h := live_iff.1 hl
  have ho := over_get hl
  have hlen := over_len D
  have hg := task_get hl
  have hset : ∀ (u : Tk), ofT (D.tasks.set n.toNat u) = ⟨(ofT D.tasks).over.set n.toNat (!u.live), (ofT D.tasks).done.set n.toNat u.done, (ofT D.tasks).wit.set n.toNat u.n⟩ := fun u => by
    unfold ofT
    simp only [List.map_set]
  have : ckE most (ofT D.tasks) ⟨k, n, a, m⟩ = some (ofT (D.tasks.set n.toNat (if k = 7 then { D.task n with live := false, waits := w, done := true, n := m } else { D.task n with live := false, waits := w }))) := by
    rw [hset]
    unfold ckE
    simp only
    have hn1 : ¬ (n < 0 ∨ ((ofT D.tasks).over.length : Int) ≤ n ∨ (ofT D.tasks).over.getD n.toNat false = true) := by rw [List.getD_eq_getElem?_getD, ho, hlen]; simp; omega
    have hn2 : ¬ (n < 0 ∨ ((ofT D.tasks).over.length : Int) ≤ n ∨ (ofT D.tasks).over.getD n.toNat false = true ∧ ((ofT D.tasks).done.getD n.toNat false = false ∨ (ofT D.tasks).wit.getD n.toNat 0 ≠ m)) := fun e => hn1 (e.imp id (Or.imp id And.left))
    rcases hk with rfl | hk
    · rw [if_neg (by decide), if_neg (by decide), if_pos rfl, if_neg hn2]
      rfl
    · rw [if_neg (by omega), if_pos (by omega), if_neg hn1, if_neg (by omega)]
      have hf : (k == 8 || k == 9) = true := by rcases hk with rfl | rfl <;> rfl
      rw [hf]
      have hd : (ofT D.tasks).done.set n.toNat (D.task n).done = (ofT D.tasks).done := set_same (by unfold ofT; rw [List.getElem?_map, hg]; rfl)
      have hw : (ofT D.tasks).wit.set n.toNat (D.task n).n = (ofT D.tasks).wit := set_same (by unfold ofT; rw [List.getElem?_map, hg]; rfl)
      simp only [hd, hw]
      rfl
  rw [ckL, this]
  rfl
/-- A joining of what is done. -/
theorem Cor.join (D : Dr) (hD : DOk D) (hk : D.known n = true) (hd : (D.task n).done = true) : Cor most D (D.tell [⟨7, n, 0, (D.task n).n⟩]) := fun hm => by
  refine ⟨hm, [⟨7, n, 0, (D.task n).n⟩], rfl, ?_⟩
  unfold Dr.known at hk
  simp only [Bool.and_eq_true, decide_eq_true_eq] at hk
  have hg : D.tasks[n.toNat]? = some (D.task n) := by
    unfold Dr.task
    rw [List.getD_eq_getElem?_getD, List.getElem?_eq_getElem (by omega)]
    rfl
  have hlv := hD.d _ (task_mem hk.1 hk.2) hd
  have ho : (ofT D.tasks).over[n.toNat]? = some true := by
    show (D.tasks.map fun t => !t.live)[n.toNat]? = some true
    rw [List.getElem?_map, hg]
    show some (!(D.task n).live) = _
    rw [hlv]
    rfl
  have hdn : (ofT D.tasks).done[n.toNat]? = some true := by
    show (D.tasks.map fun t => t.done)[n.toNat]? = some true
    rw [List.getElem?_map, hg]
    show some (D.task n).done = _
    rw [hd]
  have hw : (ofT D.tasks).wit[n.toNat]? = some (D.task n).n := by
    show (D.tasks.map fun t => t.n)[n.toNat]? = _
    rw [List.getElem?_map, hg]
    rfl
  have hlen := over_len D
  have : ckE most (ofT D.tasks) ⟨7, n, 0, (D.task n).n⟩ = some (ofT D.tasks) := by
    unfold ckE
    simp only
    rw [if_neg (by decide), if_neg (by decide), if_pos trivial, if_neg (by simp only [List.getD_eq_getElem?_getD, ho, hdn, hw, hlen]; simp; omega)]
    rw [set_same ho, set_same hdn, set_same hw]
  rw [ckL, this]
  rfl

theorem endsD_cor (D : Dr) (hl : D.live n = true) (k a m : Int) (hk : k = 7 ∨ k = 8 ∨ k = 9) : Cor most D (endsD E D n ⟨k, 0, a, m⟩) := by
  unfold endsD
  simp only
  have h1 : Cor most D (({ D with S := (cancelS E.P D.S (D.frame n) n E.fuel).2 } : Dr).took.marks (cancelS E.P D.S (D.frame n) n E.fuel).1) := ((Cor.mach D (cancel_mild _ _ _ _ _)).trans (Cor.took _)).trans (Cor.marks _ _)
  have hmt := marks_tasks ({ D with S := (cancelS E.P D.S (D.frame n) n E.fuel).2 } : Dr).took (cancelS E.P D.S (D.frame n) n E.fuel).1
  have hl1 : (({ D with S := (cancelS E.P D.S (D.frame n) n E.fuel).2 } : Dr).took.marks (cancelS E.P D.S (D.frame n) n E.fuel).1).live n = true := (live_same hmt.1 n).trans hl
  generalize (({ D with S := (cancelS E.P D.S (D.frame n) n E.fuel).2 } : Dr).took.marks (cancelS E.P D.S (D.frame n) n E.fuel).1) = D1 at *
  split
  · exact h1
  · exact h1.trans (Cor.ends D1 hl1 k a m hk false)
theorem pollD_cor (D : Dr) (hl : D.live n = true) : Cor most D (pollD E D n) := by
  unfold pollD
  simp only
  have hli := live_iff.1 hl
  have h0 : Cor most D ((D.out n).put n { D.task n with waits := false }) := (Cor.out D n).trans (Cor.put (D.out n) (show (D.out n).live n = true from hl) rfl rfl rfl)
  have hl0 : ((D.out n).put n { D.task n with waits := false }).live n = true := by
    rw [live_put _ _ _ _ hli.1.1, if_pos ⟨rfl, hli.1.2⟩]
    exact hli.2
  generalize (D.out n).put n { D.task n with waits := false } = D0 at *
  have h1 : Cor most D (({ D0 with S := (pollS E.P D0.S (D0.frame n) n E.fuel).2 } : Dr).took.marks (pollS E.P D0.S (D0.frame n) n E.fuel).1) := h0.trans (((Cor.mach D0 (poll_mild _ _ _ _ _)).trans (Cor.took _)).trans (Cor.marks _ _))
  have hmt := marks_tasks ({ D0 with S := (pollS E.P D0.S (D0.frame n) n E.fuel).2 } : Dr).took (pollS E.P D0.S (D0.frame n) n E.fuel).1
  have hl1 : (({ D0 with S := (pollS E.P D0.S (D0.frame n) n E.fuel).2 } : Dr).took.marks (pollS E.P D0.S (D0.frame n) n E.fuel).1).live n = true := (live_same hmt.1 n).trans hl0
  generalize (({ D0 with S := (pollS E.P D0.S (D0.frame n) n E.fuel).2 } : Dr).took.marks (pollS E.P D0.S (D0.frame n) n E.fuel).1) = D1 at *
  split
  · exact h1
  · split
    · exact (h1.trans (Cor.yields D1 hl1 _ _ _ (Or.inl rfl))).trans (Cor.ready _ _)
    · split
      · exact (h1.trans (Cor.yields D1 hl1 _ _ _ (Or.inr rfl))).trans (Cor.put _ (show (D1.tell _).live n = true from hl1) rfl rfl rfl)
      · split
        · exact h1.trans (endsD_cor D1 hl1 _ _ _ (Or.inl rfl))
        · split
          · exact h1.trans (endsD_cor D1 hl1 _ _ _ (Or.inr (Or.inl rfl)))
          · exact h1
theorem wakeD_cor (event : Int) : ∀ (k i : Nat) (D : Dr), Cor most D (wakeD event D k i)
  | 0, _, D => Cor.refl D
  | k + 1, i, D => by
    rw [wakeD]
    split
    · rename_i hc
      simp only [Bool.and_eq_true] at hc
      refine Cor.trans (Cor.trans (D' := D.put i { D.task i with waits := false }) ?_ (Cor.ready _ _)) (wakeD_cor event k (i + 1) _)
      by_cases hi : (i : Int) < D.tasks.length
      · exact Cor.put D (live_iff.2 ⟨⟨by omega, hi⟩, hc.1.1⟩) rfl rfl rfl
      · refine Cor.same rfl rfl ?_
        have : (D.put i { D.task i with waits := false }).tasks = D.tasks := List.set_eq_of_length_le (by omega)
        rw [this]
    · exact wakeD_cor event k (i + 1) _
theorem completeD_cor (D : Dr) (event k : Int) : Cor most D (completeD D event k) := (Cor.mach D (by rw [completeS_told]; exact fun h => h)).trans (wakeD_cor _ _ _ _)
theorem startD_cor (D : Dr) (co : Int) (l : List Int) : Cor most D (startD E D co l).1 := by
  unfold startD
  split
  · split
    · exact Cor.same (startS_told _ _ _ _) rfl rfl
    · exact Cor.same (startS_told _ _ _ _) rfl rfl
  · exact Cor.refl _
theorem startD_tasks (D : Dr) (co : Int) (l : List Int) : (startD E D co l).1.tasks = D.tasks := by
  unfold startD
  split
  · split <;> rfl
  · rfl
theorem spawnD_cor (D : Dr) (co : Int) (l : List Int) : Cor E.most D (spawnD E D co l) := by
  unfold spawnD
  split
  · exact Cor.stop _ _ _ _ _ (by decide)
  · rename_i hmost
    simp only
    have h1 := startD_cor (E := E) (most := E.most) D co l
    have ht := startD_tasks (E := E) D co l
    generalize startD E D co l = r at *
    split
    · exact h1.trans (Cor.stop _ _ _ _ _ (by decide))
    · split
      · refine h1.trans fun hm => ?_
        have hr : ∀ (D : Dr) (n : Int), (D.ready n).S = D.S ∧ (D.ready n).trace = D.trace ∧ (D.ready n).tasks = D.tasks := fun D n => by unfold Dr.ready; split <;> exact ⟨rfl, rfl, rfl⟩
        obtain ⟨r1, r2, r3⟩ := hr { r.1 with tasks := r.1.tasks ++ [⟨r.2.1, true, false, 0, false, 0⟩] } r.1.tasks.length
        refine ⟨?_, [⟨0, r.1.tasks.length, 0, 0⟩], ?_, ?_⟩
        · show ∀ e ∈ (Dr.ready _ _).S.told, mild e
          rw [r1]
          exact hm
        · show (Dr.ready _ _).trace ++ _ = _
          rw [r2]
        · show _ = some (ofT (Dr.ready _ _).tasks)
          rw [r3]
          have : ckE E.most (ofT r.1.tasks) ⟨0, r.1.tasks.length, 0, 0⟩ = some (ofT (r.1.tasks ++ [⟨r.2.1, true, false, 0, false, 0⟩])) := by
            unfold ckE
            simp only
            rw [if_pos trivial, if_neg (by rw [over_len]; rw [ht]; omega)]
            simp [ofT]
          rw [ckL, this]
          rfl
      · exact h1.trans (Cor.tell1 _ _ _ _ _ (by decide))
theorem actD_cor (D : Dr) (hD : DOk D) (a : Sc) : Cor E.most D (actD E D a).1 := by
  unfold actD
  split
  · exact spawnD_cor _ _ _
  · split
    · simp only
      split
      · exact Cor.tell1 _ _ _ _ _ (by decide)
      · rename_i n q hq
        exact pollD_cor _ (hD.q n (by rw [hq]; exact List.mem_cons_self))
    · split
      · exact completeD_cor _ _ _
      · split
        · split
          · rename_i hc
            simp only [Bool.and_eq_true] at hc
            exact Cor.join D hD hc.1 hc.2
          · exact Cor.refl _
        · split
          · simp only
            split
            · rename_i hl; exact pollD_cor _ hl
            · exact Cor.refl _
          · split
            · simp only
              split
              · exact Cor.ready _ _
              · exact Cor.refl _
            · split
              · simp only
                split
                · rename_i hl; exact endsD_cor _ hl _ _ _ (Or.inr (Or.inr rfl))
                · exact Cor.refl _
              · exact Cor.refl _
theorem nextD_cor (D : Dr) (hD : DOk D) (a : Sc) : Cor E.most D (nextD E D a) := by
  unfold nextD
  split
  · exact actD_cor D hD a
  · split
    · exact actD_cor D hD a
    · exact (actD_cor D hD a).trans (Cor.tell1 _ _ _ _ _ (by decide))
theorem runD_cor : ∀ (l : List Sc) (D : Dr), DOk D → Cor E.most D (runD E D l)
  | [], D, _ => Cor.refl D
  | a :: l, D, hD => by
    rw [runD]
    split
    · exact nextD_cor D hD a
    · exact (nextD_cor D hD a).trans (runD_cor l _ (nextD_ok hD a))
/-- **Each task is spawned once, and ends once at most.** -/
theorem once (words : Int) (l : List Sc) : ∃ c, ckL E.most ⟨[], [], []⟩ (runD E (Dr.new words) l).trace = some c := by
  obtain ⟨_, t, e, hc⟩ := runD_cor (E := E) l (Dr.new words) (newD_ok words) (fun e he => by cases he)
  refine ⟨ofT (runD E (Dr.new words) l).tasks, ?_⟩
  rw [e]
  exact hc
end

end Go.Proofs.Ytlbomnbpahmphaa
