/- The driver stands well: what each of its functions leaves. No condition. -/
import Derived.Test.YtlbomnbpahmphaaGreatN16
import Derived.Test.YtlbomnbpahmphaaGreatN17
namespace Go.Proofs.YtlbomnbpahmphaaGreat

/-- Where the driver stands well. -/
structure DOk (D : Dr) : Prop where
 q : ∀ n ∈ D.queue, D.live n = true
 f : ∀ t ∈ D.tasks, 0 ≤ t.frame ∧ t.frame < D.frames.length
 d : ∀ t ∈ D.tasks, t.done = true → t.live = false

section
variable {D : Dr} {E : En} {n m : Int} {t : Tk} {e : Ev} {l : List Ev}

theorem live_iff : D.live n = true ↔ (0 ≤ n ∧ n < D.tasks.length) ∧ (D.task n).live = true := by
 unfold Dr.live Dr.known
 simp [Bool.and_eq_true, and_assoc]
theorem task_mem (h0 : 0 ≤ n) (h1 : n < D.tasks.length) : D.task n ∈ D.tasks := by
 unfold Dr.task
 rw [List.getD_eq_getElem?_getD, List.getElem?_eq_getElem (by omega)]
 exact List.getElem_mem _
theorem task_put (D : Dr) (n m : Int) (t : Tk) (h0 : 0 ≤ n) (hm : 0 ≤ m) : (D.put n t).task m = if m = n ∧ n < D.tasks.length then t else D.task m := by
 unfold Dr.put Dr.task
 simp only [List.getD_eq_getElem?_getD, List.getElem?_set]
 by_cases h : m = n ∧ n < D.tasks.length
 · rw [if_pos h, if_pos (by omega), if_pos (by omega)]
   rfl
 · rw [if_neg h]
   by_cases h2 : n.toNat = m.toNat
   · rw [if_pos h2]
     have : ¬ n.toNat < D.tasks.length := by omega
     rw [if_neg this, List.getElem?_eq_none (by omega)]
   · rw [if_neg h2]
theorem live_put (D : Dr) (n m : Int) (t : Tk) (h0 : 0 ≤ n) : (D.put n t).live m = if m = n ∧ n < D.tasks.length then t.live else D.live m := by
 have hl : (D.put n t).tasks.length = D.tasks.length := by simp [Dr.put]
 unfold Dr.live Dr.known
 rw [hl]
 by_cases hm : 0 ≤ m
 · rw [task_put D n m t h0 hm]
   by_cases h : m = n ∧ n < D.tasks.length
   · rw [if_pos h, if_pos h]
     have : m < D.tasks.length := by omega
     simp [hm, this]
   · rw [if_neg h, if_neg h]
 · have h : ¬ (m = n ∧ n < D.tasks.length) := by omega
   rw [if_neg h]
   simp [hm]
theorem mem_put {u : Tk} (h : t ∈ (D.put n u).tasks) : t = u ∨ t ∈ D.tasks := by
 unfold Dr.put at h
 rcases List.mem_or_eq_of_mem_set h with h | h
 · exact Or.inr h
 · exact Or.inl h

theorem DOk.same {D' : Dr} (h : DOk D) (hq : D'.queue = D.queue) (ht : D'.tasks = D.tasks) (hf : D'.frames = D.frames) : DOk D' := by
 obtain ⟨h1, h2, h3⟩ := h
 refine ⟨fun n hn => ?_, fun t hm => ?_, fun t hm => ?_⟩
 · have := h1 n (by rw [← hq]; exact hn)
   unfold Dr.live Dr.known Dr.task at *
   rw [ht]
   exact this
 · rw [hf]
   exact h2 t (by rw [← ht]; exact hm)
 · exact h3 t (by rw [← ht]; exact hm)
theorem DOk.tell (h : DOk D) (l : List Ev) : DOk (D.tell l) := h.same rfl rfl rfl
theorem DOk.stop (h : DOk D) (e : Ev) : DOk (D.stop e) := h.same rfl rfl rfl
theorem DOk.took (h : DOk D) : DOk D.took := h.same rfl rfl rfl
theorem DOk.mach (h : DOk D) (S : St) : DOk { D with S := S } := h.same rfl rfl rfl
theorem DOk.marks (h : DOk D) (o : Int × Int) : DOk (D.marks o) := by
 unfold Dr.marks
 split
 · exact h.stop _
 · split
   · exact h.stop _
   · split
     · exact h.stop _
     · exact h
theorem DOk.ready (h : DOk D) (hn : D.live n = true) : DOk (D.ready n) := by
 unfold Dr.ready
 split
 · exact h
 · refine ⟨fun k hk => ?_, h.f, h.d⟩
   rcases List.mem_append.1 hk with hk | hk
   · exact h.q k hk
   · rw [List.mem_singleton] at hk
     rw [hk]
     exact hn
theorem DOk.out (h : DOk D) (n : Int) : DOk (D.out n) := ⟨fun k hk => h.q k (List.mem_filter.1 hk).1, h.f, h.d⟩
/-- A task is changed that is not ended by it. -/
theorem DOk.put (h : DOk D) (hn : 0 ≤ n) (hf : n < D.tasks.length → 0 ≤ t.frame ∧ t.frame < D.frames.length) (hd : n < D.tasks.length → t.done = true → t.live = false) (hl : n ∈ D.queue → n < D.tasks.length → t.live = true) : DOk (D.put n t) := by
 refine ⟨fun k hk => ?_, fun u hu => ?_, fun u hu => ?_⟩
 · rw [live_put D n k t hn]
   split
   · rename_i h2
     exact hl (h2.1 ▸ hk) h2.2
   · exact h.q k hk
 · by_cases hlt : n < D.tasks.length
   · rcases mem_put hu with rfl | hu
     · exact hf hlt
     · exact h.f u hu
   · have : (D.put n t).tasks = D.tasks := by
      unfold Dr.put
      exact List.set_eq_of_length_le (by omega)
     rw [this] at hu
     exact h.f u hu
 · by_cases hlt : n < D.tasks.length
   · rcases mem_put hu with rfl | hu
     · exact hd hlt
     · exact h.d u hu
   · have : (D.put n t).tasks = D.tasks := by
      unfold Dr.put
      exact List.set_eq_of_length_le (by omega)
     rw [this] at hu
     exact h.d u hu
theorem DOk.live_frame (h : DOk D) (hn : D.live n = true) : 0 ≤ (D.task n).frame ∧ (D.task n).frame < D.frames.length :=
 h.f _ (task_mem (live_iff.1 hn).1.1 (live_iff.1 hn).1.2)

theorem marks_tasks (D : Dr) (o : Int × Int) : (D.marks o).tasks = D.tasks ∧ (D.marks o).frames = D.frames ∧ (D.marks o).queue = D.queue := by
 unfold Dr.marks
 split
 · exact ⟨rfl, rfl, rfl⟩
 · split
   · exact ⟨rfl, rfl, rfl⟩
   · split <;> exact ⟨rfl, rfl, rfl⟩
theorem live_same {D' : Dr} (ht : D'.tasks = D.tasks) (n : Int) : D'.live n = D.live n := by
 unfold Dr.live Dr.known Dr.task
 rw [ht]

theorem endsD_ok (h : DOk D) (hn : D.live n = true) (e : Ev) : DOk (endsD E D n e) := by
 unfold endsD
 simp only
 have hm := ((h.mach (cancelS E.P D.S (D.frame n) n E.fuel).2).took).marks (cancelS E.P D.S (D.frame n) n E.fuel).1
 have hmt := marks_tasks ({ D with S := (cancelS E.P D.S (D.frame n) n E.fuel).2 } : Dr).took (cancelS E.P D.S (D.frame n) n E.fuel).1
 generalize (({ D with S := (cancelS E.P D.S (D.frame n) n E.fuel).2 } : Dr).took.marks (cancelS E.P D.S (D.frame n) n E.fuel).1) = D1 at *
 split
 · exact hm
 · have hl := live_iff.1 hn
   have ht : D1.tasks = D.tasks := hmt.1
   have hf : D1.frames = D.frames := hmt.2.1
   have h2 := (hm.tell [⟨e.kind, n, e.a, e.n⟩]).out n
   have htn : ((D1.tell [⟨e.kind, n, e.a, e.n⟩]).out n).task n = D.task n := by
    show D1.tasks.getD n.toNat Tk.none = _
    rw [ht]
    rfl
   have hfr := h.live_frame hn
   refine h2.put hl.1.1 (fun _ => ?_) (fun _ _ => ?_) (fun hq _ => ?_)
   · show 0 ≤ _ ∧ _ < (D1.frames.length : Int)
     rw [hf, htn]
     split <;> exact hfr
   · split <;> rfl
   · exfalso
     have := (List.mem_filter.1 hq).2
     simp at this

theorem pollD_ok (h : DOk D) (hn : D.live n = true) : DOk (pollD E D n) := by
 unfold pollD
 simp only
 have hl := live_iff.1 hn
 have hfr := h.live_frame hn
 have h0 : DOk ((D.out n).put n { D.task n with waits := false }) := by
  refine (h.out n).put hl.1.1 (fun _ => hfr) (fun _ hd => ?_) (fun hq _ => ?_)
  · have := h.d _ (task_mem hl.1.1 hl.1.2) hd
    exact this
  · exfalso
    have := (List.mem_filter.1 hq).2
    simp at this
 have hl0 : ((D.out n).put n { D.task n with waits := false }).live n = true := by
  rw [live_put _ _ _ _ hl.1.1]
  rw [if_pos ⟨rfl, hl.1.2⟩]
  exact hl.2
 generalize (D.out n).put n { D.task n with waits := false } = D0 at *
 have hm := ((h0.mach (pollS E.P D0.S (D0.frame n) n E.fuel).2).took).marks (pollS E.P D0.S (D0.frame n) n E.fuel).1
 have hmt := marks_tasks ({ D0 with S := (pollS E.P D0.S (D0.frame n) n E.fuel).2 } : Dr).took (pollS E.P D0.S (D0.frame n) n E.fuel).1
 have hl1 : (({ D0 with S := (pollS E.P D0.S (D0.frame n) n E.fuel).2 } : Dr).took.marks (pollS E.P D0.S (D0.frame n) n E.fuel).1).live n = true := (live_same hmt.1 n).trans hl0
 generalize (({ D0 with S := (pollS E.P D0.S (D0.frame n) n E.fuel).2 } : Dr).took.marks (pollS E.P D0.S (D0.frame n) n E.fuel).1) = D1 at *
 split
 · exact hm
 · split
   · exact (hm.tell _).ready hl1
   · split
     · have hk := live_iff.1 hl1
       have hf := hm.live_frame hl1
       refine (hm.tell _).put hk.1.1 (fun _ => hf) (fun _ hd => ?_) (fun _ _ => hk.2)
       have := hm.d _ (task_mem hk.1.1 hk.1.2) hd
       exact this
     · split
       · exact endsD_ok hm hl1 _
       · split
         · exact endsD_ok hm hl1 _
         · exact hm

theorem wakeD_ok (event : Int) : ∀ (k i : Nat) (D : Dr), DOk D → DOk (wakeD event D k i)
 | 0, _, _, h => h
 | k + 1, i, D, h => by
  rw [wakeD]
  refine wakeD_ok event k (i + 1) _ ?_
  split
  · rename_i hc
    simp only [Bool.and_eq_true] at hc
    by_cases hi : (i : Int) < D.tasks.length
    · have hl : D.live i = true := live_iff.2 ⟨⟨by omega, hi⟩, hc.1.1⟩
      have hp : DOk (D.put i { D.task i with waits := false }) := h.put (by omega) (fun _ => h.live_frame hl) (fun _ hd => h.d (D.task i) (task_mem (by omega) hi) hd) (fun _ _ => hc.1.1)
      refine hp.ready ?_
      rw [live_put _ _ _ _ (by omega), if_pos ⟨rfl, hi⟩]
      exact hc.1.1
    · exfalso
      have : D.task (i : Int) = Tk.none := by
       unfold Dr.task
       rw [List.getD_eq_getElem?_getD, List.getElem?_eq_none (by omega)]
       rfl
      rw [this] at hc
      simp [Tk.none] at hc
  · exact h
theorem completeD_ok (h : DOk D) (event k : Int) : DOk (completeD D event k) := wakeD_ok _ _ _ _ (h.mach _)

theorem startD_ok (h : DOk D) (co : Int) (l : List Int) : DOk (startD E D co l).1 ∧ (startD E D co l).1.tasks = D.tasks ∧ (startD E D co l).1.queue = D.queue ∧ ((startD E D co l).2.2.1 = 2 → 0 ≤ (startD E D co l).2.1 ∧ (startD E D co l).2.1 < (startD E D co l).1.frames.length) := by
 unfold startD
 split
 · split
   · refine ⟨⟨h.q, fun t ht => ?_, h.d⟩, rfl, rfl, fun _ => ?_⟩
     · have := h.f t ht
       simp only [List.length_append, List.length_cons, List.length_nil]
       omega
     · simp only [List.length_append, List.length_cons, List.length_nil]
       omega
   · rename_i h2
     refine ⟨h.mach _, rfl, rfl, fun e => ?_⟩
     exfalso
     simp only at e
     split at e
     · omega
     · exact h2 e
 · exact ⟨h, rfl, rfl, fun e => by simp at e⟩

theorem spawnD_ok (h : DOk D) (co : Int) (l : List Int) : DOk (spawnD E D co l) := by
 unfold spawnD
 split
 · exact h.stop _
 · simp only
   obtain ⟨h1, h2, h3, h4⟩ := startD_ok (E := E) h co l
   generalize startD E D co l = r at *
   split
   · exact h1.stop _
   · split
     · rename_i hk
       have hfr := h4 hk
       have hA : DOk { r.1 with tasks := r.1.tasks ++ [⟨r.2.1, true, false, 0, false, 0⟩] } := by
        refine ⟨fun k hk => ?_, fun t ht => ?_, fun t ht => ?_⟩
        · have := live_iff.1 (h1.q k hk)
          refine live_iff.2 ⟨⟨this.1.1, ?_⟩, ?_⟩
          · simp only [List.length_append, List.length_cons, List.length_nil]
            omega
          · have e : (({ r.1 with tasks := r.1.tasks ++ [⟨r.2.1, true, false, 0, false, 0⟩] } : Dr).task k) = r.1.task k := by
             unfold Dr.task
             simp only [List.getD_eq_getElem?_getD]
             rw [List.getElem?_append_left (by omega)]
            rw [e]
            exact this.2
        · rcases List.mem_append.1 ht with ht | ht
          · exact h1.f t ht
          · rw [List.mem_singleton] at ht
            subst ht
            exact hfr
        · rcases List.mem_append.1 ht with ht | ht
          · exact h1.d t ht
          · rw [List.mem_singleton] at ht
            subst ht
            intro hd
            cases hd
       refine (hA.ready ?_).tell _
       refine live_iff.2 ⟨⟨by omega, ?_⟩, ?_⟩
       · simp only [List.length_append, List.length_cons, List.length_nil]
         omega
       · unfold Dr.task
         simp only [List.getD_eq_getElem?_getD, Int.toNat_natCast]
         rw [List.getElem?_append_right (by omega)]
         simp
     · exact h1.tell _

theorem actD_ok (h : DOk D) (a : Sc) : DOk (actD E D a).1 := by
 unfold actD
 split
 · exact spawnD_ok h _ _
 · split
   · simp only
     split
     · exact h.tell _
     · rename_i n q hq
       exact pollD_ok h (h.q n (by rw [hq]; exact List.mem_cons_self))
   · split
     · exact completeD_ok h _ _
     · split
       · split
         · exact h.tell _
         · exact h
       · split
         · simp only
           split
           · rename_i hl; exact pollD_ok h hl
           · exact h
         · split
           · simp only
             split
             · rename_i hl; exact h.ready hl
             · exact h
           · split
             · simp only
               split
               · rename_i hl; exact endsD_ok h hl _
               · exact h
             · exact h
theorem newD_ok (words : Int) : DOk (Dr.new words) := ⟨(fun n hn => by cases hn), (fun t ht => by cases ht), (fun t ht => by cases ht)⟩
end

end Go.Proofs.YtlbomnbpahmphaaGreat

/- The plain law: a script's beginning has the trace's beginning. No condition. -/
namespace Go.Proofs.YtlbomnbpahmphaaGreat

section
variable {D D' D2 : Dr} {E : En} {n : Int}

end

end Go.Proofs.YtlbomnbpahmphaaGreat
