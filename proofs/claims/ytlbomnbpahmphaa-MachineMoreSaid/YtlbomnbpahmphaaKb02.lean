/- The plain law: more fuel, or more room, changes nothing but what comes out as no fuel, or no room. Condition: the program is checked. -/
import Derived.Test.YtlbomnbpahmphaaKa33
namespace Go.Proofs.Ytlbomnbpahmphaa

/-- The same memory, with another room; the same machine, with another room and other fuel. -/
def Mem.as (M : Mem) (r : Int) : Mem := ⟨r, M.blocks⟩
def St.as (S : St) (r f : Int) : St := { S with mem := S.mem.as r, fuel := f }

section
variable {P : Pr} {kinds : List Int} {M : Mem} {S : St} {r f : Int}

theorem load_as (M : Mem) (r : Int) (p : Wd) : (M.as r).load p = M.load p := rfl
theorem store_as (M : Mem) (r : Int) (p x : Wd) : (M.as r).store p x = ((M.store p x).1.as r, (M.store p x).2) := by
  show (if M.errp p 1 ≠ 0 then (M.as r, M.errp p 1) else _) = _
  unfold Mem.store
  split <;> rfl
theorem free_as (M : Mem) (r : Int) (p : Wd) : (M.as r).free p = ((M.free p).1.as r, (M.free p).2) := by
  show (if M.errb p ≠ 0 then (M.as r, M.errb p) else if p.n ≠ 0 then (M.as r, 13) else _) = _
  unfold Mem.free
  split
  · rfl
  · split <;> rfl
theorem clear_as (M : Mem) (r : Int) (p : Wd) (n : Int) : (M.as r).clear p n = ((M.clear p n).1.as r, (M.clear p n).2) := by
  show (if n < 0 then (M.as r, 1) else if M.errp p n ≠ 0 then (M.as r, M.errp p n) else _) = _
  unfold Mem.clear
  split
  · rfl
  · split <;> rfl
theorem reads_as (M : Mem) (r : Int) (p : Wd) (k : Nat) : (M.as r).reads p k = M.reads p k := by
  induction k with
  | zero => rfl
  | succ k ih => rw [Mem.reads, Mem.reads, ih, load_as]
theorem copy_as (M : Mem) (r : Int) (p q : Wd) (n : Int) : (M.as r).copy p q n = ((M.copy p q n).1.as r, (M.copy p q n).2) := by
  unfold Mem.copy
  rw [reads_as]
  split
  · rfl
  · split
    · rfl
    · show (if M.errp p n ≠ 0 then (M.as r, M.errp p n) else _) = _
      split <;> rfl
theorem alloc_as {n : Int} (hr : M.room ≤ r) (h : (M.alloc n).2.2 ≠ 10) : (M.as r).alloc n = ((M.alloc n).1.as r, (M.alloc n).2) := by
  unfold Mem.alloc at h ⊢
  split
  · rfl
  · rename_i h0
    rw [if_neg h0] at h
    split at h
    · exact absurd rfl h
    · rename_i h1
      rw [if_neg h1, if_neg (by simp only [Mem.as]; omega)]
      rfl
theorem frame_as {co : Int} (hr : M.room ≤ r) (h : (frameS P M co).2.2 ≠ 10) : frameS P (M.as r) co = ((frameS P M co).1.as r, (frameS P M co).2) := by
  unfold frameS at h ⊢
  split at h
  · rename_i h1
    rw [alloc_as hr h]
    simp only [if_pos h1]
  · rename_i h1
    have h2 : (M.alloc (P.co co).words).2.2 ≠ 10 := fun e => h1 (by rw [e]; decide)
    rw [alloc_as hr h2]
    simp only [if_neg h1, store_as]
theorem args_as (p : Wd) (r : Int) : ∀ (l : List Int) (i : Nat) (M : Mem), argsS (M.as r) p i l = (argsS M p i l).as r
  | [], _, _ => rfl
  | n :: l, i, M => by rw [argsS, argsS, store_as, args_as p r l]

theorem errS_5 {e : Int} (h : ((errS e).getD (0, 0)).1 ≠ 5) : e ≠ 10 := by
  rintro rfl
  exact h rfl
theorem start_as {co : Int} {l : List Int} (hr : S.mem.room ≤ r) (h : (startS P S co l).2.2.1 ≠ 5) : startS P (S.as r f) co l = ((startS P S co l).1.as r f, (startS P S co l).2) := by
  unfold startS at h ⊢
  split
  · rfl
  · rename_i h0
    rw [if_neg h0] at h
    split at h
    · rename_i h1
      have h2 := errS_5 h
      show (if (frameS P (S.mem.as r) co).2.2 ≠ 0 then _ else _) = _
      rw [frame_as hr h2, if_pos h1, if_pos h1]
      simp only [St.as, frame_as hr h2]
    · rename_i h1
      have h2 : (frameS P S.mem co).2.2 ≠ 10 := fun e => h1 (by rw [e]; decide)
      show (if (frameS P (S.mem.as r) co).2.2 ≠ 0 then _ else _) = _
      rw [frame_as hr h2, if_neg h1, if_neg h1]
      simp only [St.as, frame_as hr h2, args_as]

/-- What comes out, of the machine with another room. -/
def asO (x : Out × St) (r f : Int) : Out × St := (x.1, x.2.as r f)

theorem done_as (S : St) (c : Cl) (r f : Int) : doneS (S.as r f) c = asO (doneS S c) r f := by
  show (if S.stack = [] then _ else _) = _
  unfold doneS
  split
  · rfl
  · split <;> rfl
theorem aborted_as (S : St) (c : Cl) (r f : Int) : abortedS (S.as r f) c = asO (abortedS S c) r f := by
  show (if S.stack = [] then _ else _) = _
  unfold abortedS
  split <;> rfl
theorem goOn_as (P : Pr) (S : St) (p : Wd) (c : Cl) (r f : Int) : goOnS P (S.as r f) p c = asO (goOnS P S p c) r f := by
  show (if (stateS P S.mem p).2.2 ≠ 0 then (errS (stateS P S.mem p).2.2, S.as r f) else if (stateS P S.mem p).1 = -1 then doneS (S.as r f) { c with frame := p } else if (stateS P S.mem p).1 = -2 then abortedS (S.as r f) { c with frame := p } else _) = _
  unfold goOnS
  split
  · rfl
  · split
    · exact done_as _ _ _ _
    · split
      · exact aborted_as _ _ _ _
      · rfl
theorem susp_as (k n : Int) (r f : Int) : ∀ (l : List Cl) (S : St), suspS k n (S.as r f) l = asO (suspS k n S l) r f
  | [], _ => rfl
  | c :: l, S => by
    unfold suspS
    split
    · exact susp_as k n r f l S
    · by_cases hk : k = 0
      · simp only [if_pos hk]
        rfl
      · simp only [if_neg hk]
        rfl
theorem freed_as (S : St) (p : Wd) (r f : Int) : freedS (S.as r f) p = asO (freedS S p) r f := by
  unfold freedS
  have h : (S.as r f).mem.free p = ((S.mem.free p).1.as r, (S.mem.free p).2) := free_as _ _ _
  rw [h]
  show (if (S.mem.free p).2 ≠ 0 then _ else if S.stack = [] then _ else _) = _
  split
  · rfl
  · split <;> rfl
theorem stop_as (P : Pr) (S : St) (p : Wd) (r f : Int) : stopS P (S.as r f) p = asO (stopS P S p) r f := by
  show (if (stateS P S.mem p).2.2 ≠ 0 then (errS (stateS P S.mem p).2.2, S.as r f) else if (stateS P S.mem p).1 < 0 then freedS (S.as r f) p else _) = _
  unfold stopS
  split
  · rfl
  · split
    · exact freed_as _ _ _ _
    · rfl
theorem ends_as (S : St) (x : In) (r f : Int) : endsS (S.as r f) x = asO (endsS S x) r f := by
  unfold endsS
  generalize num (if x.op = 28 then -2 else -1) = v
  have h : (S.as r f).mem.store (offS (S.as r f).top.frame 0) v = ((S.mem.store (offS S.top.frame 0) v).1.as r, (S.mem.store (offS S.top.frame 0) v).2) := store_as _ _ _ _
  simp only [h]
  split
  · rfl
  · split
    · exact aborted_as { S with mem := _, stack := S.stack.tail } S.top r f
    · exact done_as { S with mem := _, stack := S.stack.tail } S.top r f
theorem calls_as (P : Pr) (S : St) (c : Cl) (x : In) (r f : Int) : callsS P (S.as r f) c x = asO (callsS P S c x) r f := by
  unfold callsS
  split
  · exact goOn_as _ _ _ _ _ _
  · split
    · exact goOn_as _ _ _ _ _ _
    · split
      · exact stop_as _ _ _ _ _
      · split
        · rfl
        · split
          · exact ends_as _ _ _ _
          · split
            · exact freed_as { S with stack := S.stack.tail } _ _ _
            · rfl
theorem outside_as (S : St) (c : Cl) (x : In) (r f : Int) : outsideS (S.as r f) c x = asO (outsideS S c x) r f := by
  unfold outsideS
  generalize (if x.op = 21 then x.b else x.a) = i0
  split
  · rfl
  · split
    · rfl
    · split
      · rfl
      · split
        · exact susp_as _ _ _ _ _ _
        · show (match evOf S.ev (c.reg x.b).n with | none => _ | some n => _) = _
          cases evOf S.ev (c.reg x.b).n with
          | none => exact susp_as _ _ _ _ _ _
          | some n => rfl
theorem words_as {c : Cl} {x : In} (hr : M.room ≤ r) (h : (wordsS P M c x).2.2 ≠ 10) : wordsS P (M.as r) c x = ((wordsS P M c x).1.as r, (wordsS P M c x).2) := by
  unfold wordsS at h ⊢
  by_cases h0 : x.op = 0
  · simp only [if_pos h0]
  simp only [if_neg h0] at h ⊢
  by_cases h1 : x.op = 1
  · simp only [if_pos h1]
  simp only [if_neg h1] at h ⊢
  by_cases h2 : x.op = 2
  · simp only [if_pos h2]
  simp only [if_neg h2] at h ⊢
  by_cases h3 : x.op = 3
  · simp only [if_pos h3, load_as]
  simp only [if_neg h3] at h ⊢
  by_cases h4 : x.op = 4
  · simp only [if_pos h4, store_as]
  simp only [if_neg h4] at h ⊢
  by_cases h5 : x.op = 5
  · simp only [if_pos h5, copy_as]
  simp only [if_neg h5] at h ⊢
  by_cases h6 : x.op = 6
  · simp only [if_pos h6, copy_as, clear_as]
    split <;> rfl
  simp only [if_neg h6] at h ⊢
  by_cases h7 : x.op = 7
  · simp only [if_pos h7, clear_as]
  simp only [if_neg h7] at h ⊢
  by_cases h8 : x.op = 16
  · simp only [if_pos h8] at h ⊢
    rw [alloc_as hr h]
  simp only [if_neg h8] at h ⊢
  by_cases h9 : x.op = 17
  · simp only [if_pos h9, free_as]
  simp only [if_neg h9] at h ⊢
  by_cases h10 : x.op = 22
  · simp only [if_pos h10] at h ⊢
    rw [frame_as hr h]
  simp only [if_neg h10]

theorem step_as (hr : S.mem.room ≤ r) (h : ∀ n, (stepS P S).1 ≠ some (5, n)) : stepS P (S.as r f) = asO (stepS P S) r f := by
  unfold stepS at h ⊢
  simp only at h ⊢
  have ht : (S.as r f).top = S.top := rfl
  rw [ht]
  split at h
  · rename_i hc
    rw [if_pos hc, if_pos hc]
    have h2 : (wordsS P S.mem { S.top with at_ := S.top.at_ + 1 } (S.top.fn.getD S.top.at_.toNat In.zero)).2.2 ≠ 10 := fun e => h 0 (by simp only [e]; rfl)
    have h3 := words_as (r := r) hr h2
    have h4 : (S.as r f).mem = S.mem.as r := rfl
    rw [h4, h3]
    rfl
  · rename_i hc
    rw [if_neg hc, if_neg hc]
    split
    · rfl
    · split
      · exact outside_as (S.setTop _) _ _ _ _
      · exact calls_as _ (S.setTop _) _ _ _ _

theorem store_room (M : Mem) (p x : Wd) : (M.store p x).1.room = M.room := by
  unfold Mem.store
  split <;> rfl
theorem free_room (M : Mem) (p : Wd) : (M.free p).1.room = M.room := by
  unfold Mem.free
  split
  · rfl
  · split <;> rfl
theorem clear_room (M : Mem) (p : Wd) (n : Int) : (M.clear p n).1.room = M.room := by
  unfold Mem.clear
  split
  · rfl
  · split <;> rfl
theorem copy_room (M : Mem) (p q : Wd) (n : Int) : (M.copy p q n).1.room = M.room := by
  unfold Mem.copy
  split
  · rfl
  · split
    · rfl
    · split <;> rfl
theorem alloc_room (M : Mem) (n : Int) : (M.alloc n).1.room = M.room := by
  unfold Mem.alloc
  split
  · rfl
  · split <;> rfl
theorem frame_room (P : Pr) (M : Mem) (co : Int) : (frameS P M co).1.room = M.room := by
  unfold frameS
  split
  · exact alloc_room _ _
  · simp only [store_room, alloc_room]
theorem args_room (p : Wd) : ∀ (l : List Int) (i : Nat) (M : Mem), (argsS M p i l).room = M.room
  | [], _, _ => rfl
  | n :: l, i, M => by rw [argsS, args_room p l, store_room]
theorem start_room (co : Int) (l : List Int) : (startS P S co l).1.mem.room = S.mem.room := by
  unfold startS
  split
  · rfl
  · split
    · exact frame_room _ _ _
    · simp only [args_room, frame_room]
theorem done_room (S : St) (c : Cl) : (doneS S c).2.mem.room = S.mem.room := by
  unfold doneS
  split
  · rfl
  · split <;> rfl
theorem aborted_room (S : St) (c : Cl) : (abortedS S c).2.mem.room = S.mem.room := by
  unfold abortedS
  split <;> rfl
theorem goOn_room (P : Pr) (S : St) (p : Wd) (c : Cl) : (goOnS P S p c).2.mem.room = S.mem.room := by
  unfold goOnS
  split
  · rfl
  · split
    · exact done_room _ _
    · split
      · exact aborted_room _ _
      · rfl
theorem susp_room (k n : Int) : ∀ (l : List Cl) (S : St), (suspS k n S l).2.mem.room = S.mem.room
  | [], _ => rfl
  | c :: l, S => by
    unfold suspS
    split
    · exact susp_room k n l S
    · by_cases hk : k = 0
      · simp only [if_pos hk]; rfl
      · simp only [if_neg hk]; rfl
theorem freed_room (S : St) (p : Wd) : (freedS S p).2.mem.room = S.mem.room := by
  unfold freedS
  split
  · exact free_room _ _
  · split <;> exact free_room _ _
theorem stop_room (P : Pr) (S : St) (p : Wd) : (stopS P S p).2.mem.room = S.mem.room := by
  unfold stopS
  split
  · rfl
  · split
    · exact freed_room _ _
    · rfl
theorem ends_room (S : St) (x : In) : (endsS S x).2.mem.room = S.mem.room := by
  unfold endsS
  generalize num (if x.op = 28 then -2 else -1) = v
  simp only
  split
  · exact store_room _ _ _
  · split
    · rw [aborted_room]; exact store_room _ _ _
    · rw [done_room]; exact store_room _ _ _
theorem calls_room (P : Pr) (S : St) (c : Cl) (x : In) : (callsS P S c x).2.mem.room = S.mem.room := by
  unfold callsS
  split
  · exact goOn_room _ _ _ _
  · split
    · exact goOn_room _ _ _ _
    · split
      · exact stop_room _ _ _
      · split
        · rfl
        · split
          · exact ends_room _ _
          · split
            · exact freed_room { S with stack := S.stack.tail } _
            · rfl
theorem outside_room (S : St) (c : Cl) (x : In) : (outsideS S c x).2.mem.room = S.mem.room := by
  unfold outsideS
  generalize (if x.op = 21 then x.b else x.a) = i0
  split
  · rfl
  · split
    · rfl
    · split
      · rfl
      · split
        · exact susp_room _ _ _ _
        · split
          · exact susp_room _ _ _ _
          · rfl
theorem words_room (P : Pr) (M : Mem) (c : Cl) (x : In) : (wordsS P M c x).1.room = M.room := by
  unfold wordsS
  by_cases h0 : x.op = 0
  · simp only [if_pos h0]
  simp only [if_neg h0]
  by_cases h1 : x.op = 1
  · simp only [if_pos h1]
  simp only [if_neg h1]
  by_cases h2 : x.op = 2
  · simp only [if_pos h2]
  simp only [if_neg h2]
  by_cases h3 : x.op = 3
  · simp only [if_pos h3]
  simp only [if_neg h3]
  by_cases h4 : x.op = 4
  · simp only [if_pos h4, store_room]
  simp only [if_neg h4]
  by_cases h5 : x.op = 5
  · simp only [if_pos h5, copy_room]
  simp only [if_neg h5]
  by_cases h6 : x.op = 6
  · simp only [if_pos h6]
    split
    · exact copy_room _ _ _ _
    · simp only [clear_room, copy_room]
  simp only [if_neg h6]
  by_cases h7 : x.op = 7
  · simp only [if_pos h7, clear_room]
  simp only [if_neg h7]
  by_cases h8 : x.op = 16
  · simp only [if_pos h8, alloc_room]
  simp only [if_neg h8]
  by_cases h9 : x.op = 17
  · simp only [if_pos h9, free_room]
  simp only [if_neg h9]
  by_cases h10 : x.op = 22
  · simp only [if_pos h10, frame_room]
  simp only [if_neg h10]
theorem step_room (P : Pr) (S : St) : (stepS P S).2.mem.room = S.mem.room := by
  unfold stepS
  simp only
  split
  · exact words_room _ _ _ _
  · split
    · rfl
    · split
      · exact outside_room (S.setTop _) _ _
      · exact calls_room _ (S.setTop _) _ _

theorem run_as (hP : PrGood P kinds) (d : Nat) : ∀ (k : Nat) (o : Out) (S : St) (d' : Int), S.mem.room ≤ r → (o = none → d' = d) → (o = none → S.stack ≠ [] ∧ GoodL P kinds S.stack) → (runS P k o S).1.1 ≠ 4 → (runS P k o S).1.1 ≠ 5 →
    runS P (k + d) o (S.as r (S.fuel + d')) = ((runS P k o S).1, (runS P k o S).2.as r ((runS P k o S).2.fuel + d'))
  | k, some x, S, d', _, _, _, _, _ => by
    have h1 : ∀ j S, runS P j (some x) S = (x, S) := fun j S => by cases j <;> rfl
    rw [h1, h1]
  | 0, none, S, d', _, _, _, h4, _ => absurd rfl h4
  | k + 1, none, S, d', hr, hd, hg, h4, h5 => by
    obtain ⟨g1, g2⟩ := hg rfl
    obtain ⟨c, l, hs⟩ := List.exists_cons_of_ne_nil g1
    have hk := stepS_ok (P := P) (kinds := kinds) (S := { S with fuel := (k : Int) }) hP (c := c) (l := l) hs g2
    obtain rfl := hd rfl
    rw [runS] at h4 h5 ⊢
    have hs5 : ∀ n, (stepS P { S with fuel := (k : Int) }).1 ≠ some (5, n) := fun n e => by
      apply h5
      rw [e]
      cases k <;> rfl
    have e1 := step_as (P := P) (S := { S with fuel := (k : Int) }) (f := (k : Int) + d) hr hs5
    have e2 : k + 1 + d = (k + d) + 1 := by omega
    rw [e2, runS]
    have e3 : ({ S.as r (S.fuel + (d : Int)) with fuel := ((k + d : Nat) : Int) } : St) = ({ S with fuel := (k : Int) } : St).as r ((k : Int) + d) := by simp [St.as]
    rw [e3, e1]
    have hf : (stepS P { S with fuel := (k : Int) }).2.fuel = k := hk.1.4
    have ih := run_as hP d k (stepS P { S with fuel := (k : Int) }).1 (stepS P { S with fuel := (k : Int) }).2 d (by rw [step_room]; exact hr) (fun _ => rfl) hk.2 h4 h5
    rw [hf] at ih
    exact ih

theorem run_room (P : Pr) : ∀ (k : Nat) (o : Out) (S : St), (runS P k o S).2.mem.room = S.mem.room
  | k, some x, S => by cases k <;> rfl
  | 0, none, S => rfl
  | k + 1, none, S => by rw [runS, run_room P k, step_room]

theorem poll_room (P : Pr) (S : St) (p : Wd) (task fuel : Int) : (pollS P S p task fuel).2.mem.room = S.mem.room := by
  unfold pollS
  simp only
  split
  · split <;> rw [run_room, goOn_room] <;> rfl
  · rw [run_room, goOn_room]; rfl
theorem cancel_room (P : Pr) (S : St) (p : Wd) (task fuel : Int) : (cancelS P S p task fuel).2.mem.room = S.mem.room := by
  unfold cancelS
  rw [run_room, stop_room]; rfl
theorem complete_room (S : St) (k n : Int) : (completeS S k n).mem.room = S.mem.room := by
  unfold completeS
  split <;> rfl
theorem complete_as (S : St) (k n r f : Int) : completeS (S.as r f) k n = (completeS S k n).as r f := by
  show (if (evOf S.ev k).isSome then _ else _) = _
  unfold completeS
  split <;> rfl

/-- The end of a poll. -/
def pollEnd (p : Wd) (r : (Int × Int) × St) : (Int × Int) × St :=
  if r.1.1 = 2 then (if (r.2.mem.word (offS p 1)).2 ≠ 0 then ((errS (r.2.mem.word (offS p 1)).2).getD (0, 0), r.2) else ((2, (r.2.mem.word (offS p 1)).1), r.2)) else r
theorem pollS_end (P : Pr) (S : St) (p : Wd) (task fuel : Int) : pollS P S p task fuel = pollEnd p (runS P fuel.toNat (goOnS P (S.begin task fuel) p (Cl.new Wd.zero 0 0 0)).1 (goOnS P (S.begin task fuel) p (Cl.new Wd.zero 0 0 0)).2) := rfl
theorem pollEnd_st (p : Wd) (x : Int × Int) (S : St) : (pollEnd p (x, S)).2 = S := by
  unfold pollEnd
  simp only
  split
  · split <;> rfl
  · rfl
theorem pollEnd_as (p : Wd) (x : Int × Int) (S : St) (r f : Int) : pollEnd p (x, S.as r f) = ((pollEnd p (x, S)).1, S.as r f) := by
  have hw : (S.as r f).mem.word (offS p 1) = S.mem.word (offS p 1) := rfl
  unfold pollEnd
  simp only [hw]
  split
  · split <;> rfl
  · rfl

/-- The machine with more room, gone on with by more fuel. -/
theorem poll_as (hP : PrGood P kinds) (p : Wd) (task fuel : Int) (more : Nat) (hr : S.mem.room ≤ r) (h4 : (pollS P S p task fuel).1.1 ≠ 4) (h5 : (pollS P S p task fuel).1.1 ≠ 5) :
    pollS P (S.as r f) p task (max fuel 0 + more) = ((pollS P S p task fuel).1, (pollS P S p task fuel).2.as r ((pollS P S p task fuel).2.fuel + (max fuel 0 + more - fuel))) := by
  have hg : GoodL P kinds (S.begin task fuel).stack := trivial
  have h1 := goOnS_ok (S := S.begin task fuel) hP hg p (Cl.new Wd.zero 0 0 0) rfl (Or.inl rfl) (fun e => by simp [Cl.new] at e) (fun d l e => by simp [St.begin] at e)
  have eb : (S.as r f).begin task (max fuel 0 + more) = (S.begin task fuel).as r (max fuel 0 + more) := rfl
  have et : (max fuel 0 + (more : Int)).toNat = fuel.toNat + more := by omega
  have hfu : (goOnS P (S.begin task fuel) p (Cl.new Wd.zero 0 0 0)).2.fuel = fuel := h1.1.4
  have key : (runS P fuel.toNat (goOnS P (S.begin task fuel) p (Cl.new Wd.zero 0 0 0)).1 (goOnS P (S.begin task fuel) p (Cl.new Wd.zero 0 0 0)).2).1.1 ≠ 4 ∧ (runS P fuel.toNat (goOnS P (S.begin task fuel) p (Cl.new Wd.zero 0 0 0)).1 (goOnS P (S.begin task fuel) p (Cl.new Wd.zero 0 0 0)).2).1.1 ≠ 5 := by
    unfold pollS at h4 h5
    simp only at h4 h5
    refine ⟨fun e => ?_, fun e => ?_⟩
    · rw [if_neg (by rw [e]; decide)] at h4
      exact h4 e
    · rw [if_neg (by rw [e]; decide)] at h5
      exact h5 e
  have hrun := run_as (r := r) hP more fuel.toNat (goOnS P (S.begin task fuel) p (Cl.new Wd.zero 0 0 0)).1 (goOnS P (S.begin task fuel) p (Cl.new Wd.zero 0 0 0)).2 (max fuel 0 + more - fuel) (by rw [goOn_room]; exact hr) ?_ h1.2 key.1 key.2
  · rw [pollS_end, pollS_end, eb, goOn_as, et]
    simp only [asO]
    have e2 : (goOnS P (S.begin task fuel) p (Cl.new Wd.zero 0 0 0)).2.fuel + (max fuel 0 + (more : Int) - fuel) = max fuel 0 + more := by rw [hfu]; omega
    rw [e2] at hrun
    rw [hrun]
    generalize runS P fuel.toNat (goOnS P (S.begin task fuel) p (Cl.new Wd.zero 0 0 0)).1 (goOnS P (S.begin task fuel) p (Cl.new Wd.zero 0 0 0)).2 = rr
    obtain ⟨x, S1⟩ := rr
    rw [pollEnd_as, pollEnd_st]
  · intro e
    by_cases hf0 : 0 < fuel
    · omega
    · exfalso
      have : fuel.toNat = 0 := by omega
      apply key.1
      rw [this, e]
      rfl

theorem cancel_as (hP : PrGood P kinds) (p : Wd) (task fuel : Int) (more : Nat) (hr : S.mem.room ≤ r) (h4 : (cancelS P S p task fuel).1.1 ≠ 4) (h5 : (cancelS P S p task fuel).1.1 ≠ 5) :
    cancelS P (S.as r f) p task (max fuel 0 + more) = ((cancelS P S p task fuel).1, (cancelS P S p task fuel).2.as r ((cancelS P S p task fuel).2.fuel + (max fuel 0 + more - fuel))) := by
  have hg : GoodL P kinds (S.begin task fuel).stack := trivial
  have h1 := stopS_ok (S := S.begin task fuel) hP hg p
  have eb : (S.as r f).begin task (max fuel 0 + more) = (S.begin task fuel).as r (max fuel 0 + more) := rfl
  have et : (max fuel 0 + (more : Int)).toNat = fuel.toNat + more := by omega
  have hfu : (stopS P (S.begin task fuel) p).2.fuel = fuel := h1.1.4
  have hrun := run_as (r := r) hP more fuel.toNat (stopS P (S.begin task fuel) p).1 (stopS P (S.begin task fuel) p).2 (max fuel 0 + more - fuel) (by rw [stop_room]; exact hr) ?_ h1.2 h4 h5
  · unfold cancelS
    simp only
    rw [eb, stop_as, et]
    simp only [asO]
    have e2 : (stopS P (S.begin task fuel) p).2.fuel + (max fuel 0 + (more : Int) - fuel) = max fuel 0 + more := by rw [hfu]; omega
    rw [e2] at hrun
    exact hrun
  · intro e
    by_cases hf0 : 0 < fuel
    · omega
    · exfalso
      have : fuel.toNat = 0 := by omega
      apply h4
      unfold cancelS
      simp only
      rw [this, e]
      rfl
end

end Go.Proofs.Ytlbomnbpahmphaa
