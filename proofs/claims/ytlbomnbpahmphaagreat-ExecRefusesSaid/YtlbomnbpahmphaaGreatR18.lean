/- The driver stands well: what each of its functions leaves. No condition. -/
import Derived.Test.YtlbomnbpahmphaaGreatR16
import Derived.Test.YtlbomnbpahmphaaGreatR17
namespace Go.Proofs.YtlbomnbpahmphaaGreat

/-- Where the driver stands well. -/
structure DOk (D : Dr) : Prop where
 q : ∀ n ∈ D.queue, D.live n = true
 f : ∀ t ∈ D.tasks, 0 ≤ t.frame ∧ t.frame < D.frames.length
 d : ∀ t ∈ D.tasks, t.done = true → t.live = false

section
variable {D : Dr} {E : En} {n m : Int} {t : Tk} {e : Ev} {l : List Ev}

theorem live_iff : D.live n = true ↔ (0 ≤ n ∧ n < D.tasks.length) ∧ (D.task n).live = true := by
 unfold Dr.live Dr.known
 simp [Bool.and_eq_true, and_assoc]
theorem task_mem (h0 : 0 ≤ n) (h1 : n < D.tasks.length) : D.task n ∈ D.tasks := by
 unfold Dr.task
 rw [List.getD_eq_getElem?_getD, List.getElem?_eq_getElem (by omega)]
 exact List.getElem_mem _
theorem task_put (D : Dr) (n m : Int) (t : Tk) (h0 : 0 ≤ n) (hm : 0 ≤ m) : (D.put n t).task m = if m = n ∧ n < D.tasks.length then t else D.task m := by
 unfold Dr.put Dr.task
 simp only [List.getD_eq_getElem?_getD, List.getElem?_set]
 by_cases h : m = n ∧ n < D.tasks.length
 · rw [if_pos h, if_pos (by omega), if_pos (by omega)]
   rfl
 · rw [if_neg h]
   by_cases h2 : n.toNat = m.toNat
   · rw [if_pos h2]
     have : ¬ n.toNat < D.tasks.length := by omega
     rw [if_neg this, List.getElem?_eq_none (by omega)]
   · rw [if_neg h2]
theorem live_put (D : Dr) (n m : Int) (t : Tk) (h0 : 0 ≤ n) : (D.put n t).live m = if m = n ∧ n < D.tasks.length then t.live else D.live m := by
 have hl : (D.put n t).tasks.length = D.tasks.length := by simp [Dr.put]
 unfold Dr.live Dr.known
 rw [hl]
 by_cases hm : 0 ≤ m
 · rw [task_put D n m t h0 hm]
   by_cases h : m = n ∧ n < D.tasks.length
   · rw [if_pos h, if_pos h]
     have : m < D.tasks.length := by omega
     simp [hm, this]
   · rw [if_neg h, if_neg h]
 · have h : ¬ (m = n ∧ n < D.tasks.length) := by omega
   rw [if_neg h]
   simp [hm]
theorem mem_put {u : Tk} (h : t ∈ (D.put n u).tasks) : t = u ∨ t ∈ D.tasks := by
 unfold Dr.put at h
 rcases List.mem_or_eq_of_mem_set h with h | h
 · exact Or.inr h
 · exact Or.inl h

theorem DOk.same {D' : Dr} (h : DOk D) (hq : D'.queue = D.queue) (ht : D'.tasks = D.tasks) (hf : D'.frames = D.frames) : DOk D' := by
 obtain ⟨h1, h2, h3⟩ := h
 refine ⟨fun n hn => ?_, fun t hm => ?_, fun t hm => ?_⟩
 · have := h1 n (by rw [← hq]; exact hn)
   unfold Dr.live Dr.known Dr.task at *
   rw [ht]
   exact this
 · rw [hf]
   exact h2 t (by rw [← ht]; exact hm)
 · exact h3 t (by rw [← ht]; exact hm)
theorem DOk.tell (h : DOk D) (l : List Ev) : DOk (D.tell l) := h.same rfl rfl rfl
theorem DOk.stop (h : DOk D) (e : Ev) : DOk (D.stop e) := h.same rfl rfl rfl
theorem DOk.took (h : DOk D) : DOk D.took := h.same rfl rfl rfl
theorem DOk.mach (h : DOk D) (S : St) : DOk { D with S := S } := h.same rfl rfl rfl
theorem DOk.marks (h : DOk D) (o : Int × Int) : DOk (D.marks o) := by
 unfold Dr.marks
 split
 · exact h.stop _
 · split
   · exact h.stop _
   · split
     · exact h.stop _
     · exact h
theorem DOk.ready (h : DOk D) (hn : D.live n = true) : DOk (D.ready n) := by
 unfold Dr.ready
 split
 · exact h
 · refine ⟨fun k hk => ?_, h.f, h.d⟩
   rcases List.mem_append.1 hk with hk | hk
   · exact h.q k hk
   · rw [List.mem_singleton] at hk
     rw [hk]
     exact hn
theorem DOk.out (h : DOk D) (n : Int) : DOk (D.out n) := ⟨fun k hk => h.q k (List.mem_filter.1 hk).1, h.f, h.d⟩
/-- A task is changed that is not ended by it. -/
theorem DOk.put (h : DOk D) (hn : 0 ≤ n) (hf : n < D.tasks.length → 0 ≤ t.frame ∧ t.frame < D.frames.length) (hd : n < D.tasks.length → t.done = true → t.live = false) (hl : n ∈ D.queue → n < D.tasks.length → t.live = true) : DOk (D.put n t) := by
 refine ⟨fun k hk => ?_, fun u hu => ?_, fun u hu => ?_⟩
 · rw [live_put D n k t hn]
   split
   · rename_i h2
     exact hl (h2.1 ▸ hk) h2.2
   · exact h.q k hk
 · by_cases hlt : n < D.tasks.length
   · rcases mem_put hu with rfl | hu
     · exact hf hlt
     · exact h.f u hu
   · have : (D.put n t).tasks = D.tasks := by
      unfold Dr.put
      exact List.set_eq_of_length_le (by omega)
     rw [this] at hu
     exact h.f u hu
 · by_cases hlt : n < D.tasks.length
   · rcases mem_put hu with rfl | hu
     · exact hd hlt
     · exact h.d u hu
   · have : (D.put n t).tasks = D.tasks := by
      unfold Dr.put
      exact List.set_eq_of_length_le (by omega)
     rw [this] at hu
     exact h.d u hu
theorem DOk.live_frame (h : DOk D) (hn : D.live n = true) : 0 ≤ (D.task n).frame ∧ (D.task n).frame < D.frames.length :=
 h.f _ (task_mem (live_iff.1 hn).1.1 (live_iff.1 hn).1.2)

theorem marks_tasks (D : Dr) (o : Int × Int) : (D.marks o).tasks = D.tasks ∧ (D.marks o).frames = D.frames ∧ (D.marks o).queue = D.queue := by
 unfold Dr.marks
 split
 · exact ⟨rfl, rfl, rfl⟩
 · split
   · exact ⟨rfl, rfl, rfl⟩
   · split <;> exact ⟨rfl, rfl, rfl⟩
theorem live_same {D' : Dr} (ht : D'.tasks = D.tasks) (n : Int) : D'.live n = D.live n := by
 unfold Dr.live Dr.known Dr.task
 rw [ht]

theorem endsD_ok (h : DOk D) (hn : D.live n = true) (e : Ev) : DOk (endsD E D n e) := by
 unfold endsD
 simp only
 have hm := ((h.mach (cancelS E.P D.S (D.frame n) n E.fuel).2).took).marks (cancelS E.P D.S (D.frame n) n E.fuel).1
 have hmt := marks_tasks ({ D with S := (cancelS E.P D.S (D.frame n) n E.fuel).2 } : Dr).took (cancelS E.P D.S (D.frame n) n E.fuel).1
 generalize (({ D with S := (cancelS E.P D.S (D.frame n) n E.fuel).2 } : Dr).took.marks (cancelS E.P D.S (D.frame n) n E.fuel).1) = D1 at *
 split
 · exact hm
 · have hl := live_iff.1 hn
   have ht : D1.tasks = D.tasks := hmt.1
   have hf : D1.frames = D.frames := hmt.2.1
   have h2 := (hm.tell [⟨e.kind, n, e.a, e.n⟩]).out n
   have htn : ((D1.tell [⟨e.kind, n, e.a, e.n⟩]).out n).task n = D.task n := by
    show D1.tasks.getD n.toNat Tk.none = _
    rw [ht]
    rfl
   have hfr := h.live_frame hn
   refine h2.put hl.1.1 (fun _ => ?_) (fun _ _ => ?_) (fun hq _ => ?_)
   · show 0 ≤ _ ∧ _ < (D1.frames.length : Int)
     rw [hf, htn]
     split <;> exact hfr
   · split <;> rfl
   · exfalso
     have := (List.mem_filter.1 hq).2
     simp at this

theorem pollD_ok (h : DOk D) (hn : D.live n = true) : DOk (pollD E D n) := by
 unfold pollD
 simp only
 have hl := live_iff.1 hn
 have hfr := h.live_frame hn
 have h0 : DOk ((D.out n).put n { D.task n with waits := false }) := by
  refine (h.out n).put hl.1.1 (fun _ => hfr) (fun _ hd => ?_) (fun hq _ => ?_)
  · have := h.d _ (task_mem hl.1.1 hl.1.2) hd
    exact this
  · exfalso
    have := (List.mem_filter.1 hq).2
    simp at this
 have hl0 : ((D.out n).put n { D.task n with waits := false }).live n = true := by
  rw [live_put _ _ _ _ hl.1.1]
  rw [if_pos ⟨rfl, hl.1.2⟩]
  exact hl.2
 generalize (D.out n).put n { D.task n with waits := false } = D0 at *
 have hm := ((h0.mach (pollS E.P D0.S (D0.frame n) n E.fuel).2).took).marks (pollS E.P D0.S (D0.frame n) n E.fuel).1
 have hmt := marks_tasks ({ D0 with S := (pollS E.P D0.S (D0.frame n) n E.fuel).2 } : Dr).took (pollS E.P D0.S (D0.frame n) n E.fuel).1
 have hl1 : (({ D0 with S := (pollS E.P D0.S (D0.frame n) n E.fuel).2 } : Dr).took.marks (pollS E.P D0.S (D0.frame n) n E.fuel).1).live n = true := (live_same hmt.1 n).trans hl0
 generalize (({ D0 with S := (pollS E.P D0.S (D0.frame n) n E.fuel).2 } : Dr).took.marks (pollS E.P D0.S (D0.frame n) n E.fuel).1) = D1 at *
 split
 · exact hm
 · split
   · exact (hm.tell _).ready hl1
   · split
     · have hk := live_iff.1 hl1
       have hf := hm.live_frame hl1
       refine (hm.tell _).put hk.1.1 (fun _ => hf) (fun _ hd => ?_) (fun _ _ => hk.2)
       have := hm.d _ (task_mem hk.1.1 hk.1.2) hd
       exact this
     · split
       · exact endsD_ok hm hl1 _
       · split
         · exact endsD_ok hm hl1 _
         · exact hm

theorem wakeD_ok (event : Int) : ∀ (k i : Nat) (D : Dr), DOk D → DOk (wakeD event D k i)
 | 0, _, _, h => h
 | k + 1, i, D, h => by
  rw [wakeD]
  refine wakeD_ok event k (i + 1) _ ?_
  split
  · rename_i hc
    simp only [Bool.and_eq_true] at hc
    by_cases hi : (i : Int) < D.tasks.length
    · have hl : D.live i = true := live_iff.2 ⟨⟨by omega, hi⟩, hc.1.1⟩
      have hp : DOk (D.put i { D.task i with waits := false }) := h.put (by omega) (fun _ => h.live_frame hl) (fun _ hd => h.d (D.task i) (task_mem (by omega) hi) hd) (fun _ _ => hc.1.1)
      refine hp.ready ?_
      rw [live_put _ _ _ _ (by omega), if_pos ⟨rfl, hi⟩]
      exact hc.1.1
    · exfalso
      have : D.task (i : Int) = Tk.none := by
       unfold Dr.task
       rw [List.getD_eq_getElem?_getD, List.getElem?_eq_none (by omega)]
       rfl
      rw [this] at hc
      simp [Tk.none] at hc
  · exact h
theorem completeD_ok (h : DOk D) (event k : Int) : DOk (completeD D event k) := wakeD_ok _ _ _ _ (h.mach _)

theorem startD_ok (h : DOk D) (co : Int) (l : List Int) : DOk (startD E D co l).1 ∧ (startD E D co l).1.tasks = D.tasks ∧ (startD E D co l).1.queue = D.queue ∧ ((startD E D co l).2.2.1 = 2 → 0 ≤ (startD E D co l).2.1 ∧ (startD E D co l).2.1 < (startD E D co l).1.frames.length) := by
 unfold startD
 split
 · split
   · refine ⟨⟨h.q, fun t ht => ?_, h.d⟩, rfl, rfl, fun _ => ?_⟩
     · have := h.f t ht
       simp only [List.length_append, List.length_cons, List.length_nil]
       omega
     · simp only [List.length_append, List.length_cons, List.length_nil]
       omega
   · rename_i h2
     refine ⟨h.mach _, rfl, rfl, fun e => ?_⟩
     exfalso
     simp only at e
     split at e
     · omega
     · exact h2 e
 · exact ⟨h, rfl, rfl, fun e => by simp at e⟩

theorem spawnD_ok (h : DOk D) (co : Int) (l : List Int) : DOk (spawnD E D co l) := by
 unfold spawnD
 split
 · exact h.stop _
 · simp only
   obtain ⟨h1, h2, h3, h4⟩ := startD_ok (E := E) h co l
   generalize startD E D co l = r at *
   split
   · exact h1.stop _
   · split
     · rename_i hk
       have hfr := h4 hk
       have hA : DOk { r.1 with tasks := r.1.tasks ++ [⟨r.2.1, true, false, 0, false, 0⟩] } := by
        refine ⟨fun k hk => ?_, fun t ht => ?_, fun t ht => ?_⟩
        · have := live_iff.1 (h1.q k hk)
          refine live_iff.2 ⟨⟨this.1.1, ?_⟩, ?_⟩
          · simp only [List.length_append, List.length_cons, List.length_nil]
            omega
          · have e : (({ r.1 with tasks := r.1.tasks ++ [⟨r.2.1, true, false, 0, false, 0⟩] } : Dr).task k) = r.1.task k := by
             unfold Dr.task
             simp only [List.getD_eq_getElem?_getD]
             rw [List.getElem?_append_left (by omega)]
            rw [e]
            exact this.2
        · rcases List.mem_append.1 ht with ht | ht
          · exact h1.f t ht
          · rw [List.mem_singleton] at ht
            subst ht
            exact hfr
        · rcases List.mem_append.1 ht with ht | ht
          · exact h1.d t ht
          · rw [List.mem_singleton] at ht
            subst ht
            intro hd
            cases hd
       refine (hA.ready ?_).tell _
       refine live_iff.2 ⟨⟨by omega, ?_⟩, ?_⟩
       · simp only [List.length_append, List.length_cons, List.length_nil]
         omega
       · unfold Dr.task
         simp only [List.getD_eq_getElem?_getD, Int.toNat_natCast]
         rw [List.getElem?_append_right (by omega)]
         simp
     · exact h1.tell _

theorem actD_ok (h : DOk D) (a : Sc) : DOk (actD E D a).1 := by
 unfold actD
 split
 · exact spawnD_ok h _ _
 · split
   · simp only
     split
     · exact h.tell _
     · rename_i n q hq
       exact pollD_ok h (h.q n (by rw [hq]; exact List.mem_cons_self))
   · split
     · exact completeD_ok h _ _
     · split
       · split
         · exact h.tell _
         · exact h
       · split
         · simp only
           split
           · rename_i hl; exact pollD_ok h hl
           · exact h
         · split
           · simp only
             split
             · rename_i hl; exact h.ready hl
             · exact h
           · split
             · simp only
               split
               · rename_i hl; exact endsD_ok h hl _
               · exact h
             · exact h
theorem newD_ok (words : Int) : DOk (Dr.new words) := ⟨(fun n hn => by cases hn), (fun t ht => by cases ht), (fun t ht => by cases ht)⟩
end

end Go.Proofs.YtlbomnbpahmphaaGreat

/- The plain law: a script's beginning has the trace's beginning. No condition. -/
namespace Go.Proofs.YtlbomnbpahmphaaGreat

/-- An event that ends a trace. -/
def marked (e : Ev) : Prop := e.kind = 10 ∨ e.kind = 11 ∨ e.kind = 12 ∨ e.kind = 13
theorem mild_marked {e : Ev} (h : mild e) : ¬ marked e := by
 unfold mild at h
 unfold marked
 omega
/-- The trace grows; it is over, or nothing that ends a trace is told. -/
def Ext (D D' : Dr) : Prop := (D.over = true → D'.over = true) ∧ ((∀ e ∈ D.S.told, mild e) → (∀ e ∈ D'.S.told, mild e) ∧ ∃ t, D'.trace = D.trace ++ t ∧ (D'.over = false → ∀ e ∈ t, ¬ marked e))

section
variable {D D' D2 : Dr} {E : En} {n : Int}

theorem Ext.refl (D : Dr) : Ext D D := ⟨fun h => h, fun h => ⟨h, [], by simp, fun _ e he => by cases he⟩⟩
theorem Ext.trans (h : Ext D D') (k : Ext D' D2) : Ext D D2 := by
 refine ⟨fun e => k.1 (h.1 e), fun hm => ?_⟩
 obtain ⟨m1, t1, e1, c1⟩ := h.2 hm
 obtain ⟨m2, t2, e2, c2⟩ := k.2 m1
 refine ⟨m2, t1 ++ t2, by rw [e2, e1, List.append_assoc], fun ho e he => ?_⟩
 rcases List.mem_append.1 he with he | he
 · refine c1 ?_ e he
   cases hd : D'.over with
   | false => rfl
   | true => rw [k.1 hd] at ho; cases ho
 · exact c2 ho e he
theorem Ext.same (ho : D'.over = D.over) (hs : D'.S.told = D.S.told) (ht : D'.trace = D.trace) : Ext D D' :=
 ⟨fun e => ho.trans e, fun hm => ⟨by rw [hs]; exact hm, [], by rw [ht]; simp, fun _ e he => by cases he⟩⟩
theorem Ext.tell (D : Dr) {l : List Ev} (hl : ∀ e ∈ l, ¬ marked e) : Ext D (D.tell l) := ⟨fun e => e, fun hm => ⟨hm, l, rfl, fun _ => hl⟩⟩
theorem Ext.tell1 (D : Dr) (k t a m : Int) (hk : k ≠ 10 ∧ k ≠ 11 ∧ k ≠ 12 ∧ k ≠ 13) : Ext D (D.tell [⟨k, t, a, m⟩]) := Ext.tell D fun e he => by
 rw [List.mem_singleton] at he
 subst he
 unfold marked
 simp only
 omega
theorem Ext.stop (D : Dr) (e : Ev) : Ext D (D.stop e) := ⟨fun _ => rfl, fun hm => ⟨hm, [e], rfl, fun h => by cases h⟩⟩
theorem Ext.took (D : Dr) : Ext D D.took := ⟨fun e => e, fun hm => ⟨(fun e he => by cases he), D.S.told, rfl, fun _ e he => mild_marked (hm e he)⟩⟩
theorem Ext.marks (D : Dr) (o : Int × Int) : Ext D (D.marks o) := by
 unfold Dr.marks
 split
 · exact Ext.stop _ _
 · split
   · exact Ext.stop _ _
   · split
     · exact Ext.stop _ _
     · exact Ext.refl _
theorem Ext.ready (D : Dr) (n : Int) : Ext D (D.ready n) := by
 unfold Dr.ready
 split
 · exact Ext.refl _
 · exact Ext.same rfl rfl rfl
theorem Ext.out (D : Dr) (n : Int) : Ext D (D.out n) := Ext.same rfl rfl rfl
theorem Ext.put (D : Dr) (n : Int) (t : Tk) : Ext D (D.put n t) := Ext.same rfl rfl rfl
theorem Ext.mach (D : Dr) {S : St} (h : (∀ e ∈ D.S.told, mild e) → ∀ e ∈ S.told, mild e) : Ext D { D with S := S } := ⟨fun e => e, fun hm => ⟨h hm, [], by simp, fun _ e he => by cases he⟩⟩

theorem endsD_ext (D : Dr) (n : Int) (e : Ev) (hk : e.kind ≠ 10 ∧ e.kind ≠ 11 ∧ e.kind ≠ 12 ∧ e.kind ≠ 13) : Ext D (endsD E D n e) := by
 unfold endsD
 simp only
 have h1 : Ext D (({ D with S := (cancelS E.P D.S (D.frame n) n E.fuel).2 } : Dr).took.marks (cancelS E.P D.S (D.frame n) n E.fuel).1) := ((Ext.mach D (cancel_mild _ _ _ _ _)).trans (Ext.took _)).trans (Ext.marks _ _)
 split
 · exact h1
 · exact ((h1.trans (Ext.tell1 _ _ _ _ _ hk)).trans (Ext.out _ _)).trans (Ext.put _ _ _)
theorem pollD_ext (D : Dr) (n : Int) : Ext D (pollD E D n) := by
 unfold pollD
 simp only
 have h0 : Ext D ((D.out n).put n { D.task n with waits := false }) := (Ext.out _ _).trans (Ext.put _ _ _)
 generalize (D.out n).put n { D.task n with waits := false } = D0 at *
 have h1 : Ext D (({ D0 with S := (pollS E.P D0.S (D0.frame n) n E.fuel).2 } : Dr).took.marks (pollS E.P D0.S (D0.frame n) n E.fuel).1) := h0.trans (((Ext.mach D0 (poll_mild _ _ _ _ _)).trans (Ext.took _)).trans (Ext.marks _ _))
 generalize (({ D0 with S := (pollS E.P D0.S (D0.frame n) n E.fuel).2 } : Dr).took.marks (pollS E.P D0.S (D0.frame n) n E.fuel).1) = D1 at *
 split
 · exact h1
 · split
   · exact (h1.trans (Ext.tell1 _ _ _ _ _ (by decide))).trans (Ext.ready _ _)
   · split
     · exact (h1.trans (Ext.tell1 _ _ _ _ _ (by decide))).trans (Ext.put _ _ _)
     · split
       · exact h1.trans (endsD_ext _ _ _ (by simp))
       · split
         · exact h1.trans (endsD_ext _ _ _ (by simp))
         · exact h1
theorem wakeD_ext (event : Int) : ∀ (k i : Nat) (D : Dr), Ext D (wakeD event D k i)
 | 0, _, D => Ext.refl D
 | k + 1, i, D => by
  rw [wakeD]
  split
  · exact ((Ext.put D _ _).trans (Ext.ready _ _)).trans (wakeD_ext event k (i + 1) _)
  · exact wakeD_ext event k (i + 1) _
theorem completeD_ext (D : Dr) (event k : Int) : Ext D (completeD D event k) := (Ext.mach D (by rw [completeS_told]; exact fun h => h)).trans (wakeD_ext _ _ _ _)
theorem startD_ext (D : Dr) (co : Int) (l : List Int) : Ext D (startD E D co l).1 := by
 unfold startD
 split
 · split
   · exact Ext.same rfl (startS_told _ _ _ _) rfl
   · exact Ext.same rfl (startS_told _ _ _ _) rfl
 · exact Ext.refl _
theorem spawnD_ext (D : Dr) (co : Int) (l : List Int) : Ext D (spawnD E D co l) := by
 unfold spawnD
 split
 · exact Ext.stop _ _
 · simp only
   have h1 := startD_ext (E := E) D co l
   generalize startD E D co l = r at *
   split
   · exact h1.trans (Ext.stop _ _)
   · split
     · have h2 : Ext r.1 { r.1 with tasks := r.1.tasks ++ [⟨r.2.1, true, false, 0, false, 0⟩] } := Ext.same rfl rfl rfl
       exact ((h1.trans h2).trans (Ext.ready _ _)).trans (Ext.tell1 _ _ _ _ _ (by decide))
     · exact h1.trans (Ext.tell1 _ _ _ _ _ (by decide))
theorem actD_ext (D : Dr) (a : Sc) : Ext D (actD E D a).1 := by
 unfold actD
 split
 · exact spawnD_ext _ _ _
 · split
   · simp only
     split
     · exact Ext.tell1 _ _ _ _ _ (by decide)
     · exact pollD_ext _ _
   · split
     · exact completeD_ext _ _ _
     · split
       · split
         · exact Ext.tell1 _ _ _ _ _ (by decide)
         · exact Ext.refl _
       · split
         · simp only
           split
           · exact pollD_ext _ _
           · exact Ext.refl _
         · split
           · simp only
             split
             · exact Ext.ready _ _
             · exact Ext.refl _
           · split
             · simp only
               split
               · exact endsD_ext _ _ _ (by simp)
               · exact Ext.refl _
             · exact Ext.refl _
theorem nextD_ext (D : Dr) (a : Sc) : Ext D (nextD E D a) := by
 unfold nextD
 split
 · exact actD_ext D a
 · split
   · exact actD_ext D a
   · exact (actD_ext D a).trans (Ext.tell1 _ _ _ _ _ (by decide))
theorem runD_ext : ∀ (l : List Sc) (D : Dr), Ext D (runD E D l)
 | [], D => Ext.refl D
 | a :: l, D => by
  rw [runD]
  split
  · exact nextD_ext D a
  · exact (nextD_ext D a).trans (runD_ext l _)
theorem runD_append : ∀ (l m : List Sc) (D : Dr), D.over = false → runD E D (l ++ m) = if (runD E D l).over then runD E D l else runD E (runD E D l) m
 | [], m, D, h => by simp [runD, h]
 | a :: l, m, D, h => by
  rw [List.cons_append, runD, runD]
  cases ho : (nextD E D a).over with
  | true => simp [ho]
  | false =>
   simp only [Bool.false_eq_true, if_false]
   exact runD_append l m _ ho

/-- Does a trace end ahead of its script's end? -/
def endsL (l : List Ev) : Prop := ∃ e, l.getLast? = some e ∧ marked e
/-- **A script's beginning has the trace's beginning.** -/
theorem begins (D : Dr) (hm : ∀ e ∈ D.S.told, mild e) (ho : D.over = false) (hc : ∀ e ∈ D.trace, ¬ marked e) (l m : List Sc) :
 (∃ t, (runD E D (l ++ m)).trace = (runD E D l).trace ++ t) ∧ (endsL (runD E D l).trace → (runD E D (l ++ m)).trace = (runD E D l).trace) := by
 rw [runD_append l m D ho]
 obtain ⟨m1, t1, e1, c1⟩ := (runD_ext (E := E) l D).2 hm
 split
 · exact ⟨⟨[], by simp⟩, fun _ => rfl⟩
 · rename_i h
   have h : (runD E D l).over = false := by simpa using h
   obtain ⟨_, t2, e2, _⟩ := (runD_ext (E := E) m (runD E D l)).2 m1
   refine ⟨⟨t2, e2⟩, fun ⟨e, he, hk⟩ => ?_⟩
   exfalso
   have hmem := List.mem_of_getLast? he
   rw [e1] at hmem
   rcases List.mem_append.1 hmem with k | k
   · exact hc e k hk
   · exact c1 h e k hk
end

end Go.Proofs.YtlbomnbpahmphaaGreat

/- The plain law: a task that is woken twice stands in the queue once. No condition. -/
namespace Go.Proofs.YtlbomnbpahmphaaGreat

/-- The driver, with a trace ahead of its own. -/
def Dr.pre (D : Dr) (t : List Ev) : Dr := { D with trace := t ++ D.trace }

section
variable {D : Dr} {E : En}

theorem pre_tell (D : Dr) (t l : List Ev) : (D.pre t).tell l = (D.tell l).pre t := by simp [Dr.pre, Dr.tell]
theorem pre_stop (D : Dr) (t : List Ev) (e : Ev) : (D.pre t).stop e = (D.stop e).pre t := by simp [Dr.pre, Dr.stop]
theorem pre_ready (D : Dr) (t : List Ev) (n : Int) : (D.pre t).ready n = (D.ready n).pre t := by
 show (if n ∈ D.queue then _ else _) = _
 unfold Dr.ready
 split <;> rfl
theorem pre_took (D : Dr) (t : List Ev) : (D.pre t).took = D.took.pre t := by simp [Dr.pre, Dr.took]
theorem pre_marks (D : Dr) (t : List Ev) (o : Int × Int) : (D.pre t).marks o = (D.marks o).pre t := by
 unfold Dr.marks
 split
 · exact pre_stop _ _ _
 · split
   · exact pre_stop _ _ _
   · split
     · exact pre_stop _ _ _
     · rfl
theorem pre_ends (D : Dr) (t : List Ev) (n : Int) (e : Ev) : endsD E (D.pre t) n e = (endsD E D n e).pre t := by
 unfold endsD
 simp only
 have h : (({ D.pre t with S := (cancelS E.P (D.pre t).S ((D.pre t).frame n) n E.fuel).2 } : Dr).took.marks (cancelS E.P (D.pre t).S ((D.pre t).frame n) n E.fuel).1) = (({ D with S := (cancelS E.P D.S (D.frame n) n E.fuel).2 } : Dr).took.marks (cancelS E.P D.S (D.frame n) n E.fuel).1).pre t := by
  rw [← pre_marks, ← pre_took]
  rfl
 rw [h]
 generalize (({ D with S := (cancelS E.P D.S (D.frame n) n E.fuel).2 } : Dr).took.marks (cancelS E.P D.S (D.frame n) n E.fuel).1) = D1
 show (if D1.over = true then _ else _) = _
 split
 · rfl
 · rw [pre_tell]
   rfl
theorem pre_poll (D : Dr) (t : List Ev) (n : Int) : pollD E (D.pre t) n = (pollD E D n).pre t := by
 unfold pollD
 simp only
 have h0 : ((D.pre t).out n).put n { (D.pre t).task n with waits := false } = ((D.out n).put n { D.task n with waits := false }).pre t := rfl
 rw [h0]
 generalize (D.out n).put n { D.task n with waits := false } = D0
 have h : (({ D0.pre t with S := (pollS E.P (D0.pre t).S ((D0.pre t).frame n) n E.fuel).2 } : Dr).took.marks (pollS E.P (D0.pre t).S ((D0.pre t).frame n) n E.fuel).1) = (({ D0 with S := (pollS E.P D0.S (D0.frame n) n E.fuel).2 } : Dr).took.marks (pollS E.P D0.S (D0.frame n) n E.fuel).1).pre t := by
  rw [← pre_marks, ← pre_took]
  rfl
 rw [h]
 have hr : pollS E.P (D0.pre t).S ((D0.pre t).frame n) n E.fuel = pollS E.P D0.S (D0.frame n) n E.fuel := rfl
 rw [hr]
 generalize (({ D0 with S := (pollS E.P D0.S (D0.frame n) n E.fuel).2 } : Dr).took.marks (pollS E.P D0.S (D0.frame n) n E.fuel).1) = D1
 show (if D1.over = true then _ else _) = _
 split
 · rfl
 · split
   · rw [pre_tell, pre_ready]
   · split
     · rw [pre_tell]; rfl
     · split
       · exact pre_ends _ _ _ _
       · split
         · exact pre_ends _ _ _ _
         · rfl
theorem pre_wake (event : Int) (t : List Ev) : ∀ (k i : Nat) (D : Dr), wakeD event (D.pre t) k i = (wakeD event D k i).pre t
 | 0, _, _ => rfl
 | k + 1, i, D => by
  rw [wakeD, wakeD, ← pre_wake event t k (i + 1)]
  congr 1
  show (if (D.task i).live && (D.task i).waits && ((D.task i).event == event) then ((D.pre t).put i { D.task i with waits := false }).ready i else D.pre t) = _
  split
  · exact pre_ready (D.put i { D.task i with waits := false }) t i
  · rfl
theorem pre_complete (D : Dr) (t : List Ev) (event n : Int) : completeD (D.pre t) event n = (completeD D event n).pre t := pre_wake event t D.tasks.length 0 { D with S := completeS D.S event n }
theorem pre_start (D : Dr) (t : List Ev) (co : Int) (l : List Int) : startD E (D.pre t) co l = ((startD E D co l).1.pre t, (startD E D co l).2) := by
 unfold startD
 split
 · show (if (startS E.P D.S co l).2.2.1 = 2 then _ else _) = _
   split <;> rfl
 · rfl
theorem pre_spawn (D : Dr) (t : List Ev) (co : Int) (l : List Int) : spawnD E (D.pre t) co l = (spawnD E D co l).pre t := by
 unfold spawnD
 simp only [pre_start]
 show (if E.most ≤ (D.tasks.length : Int) then _ else _) = _
 split
 · exact pre_stop _ _ _
 · generalize startD E D co l = r
   split
   · exact pre_stop _ _ _
   · split
     · rw [← pre_tell, ← pre_ready]
       rfl
     · exact pre_tell _ _ _
theorem pre_act (D : Dr) (t : List Ev) (a : Sc) : actD E (D.pre t) a = ((actD E D a).1.pre t, (actD E D a).2) := by
 unfold actD
 by_cases h0 : a.k = 0
 · simp only [if_pos h0, pre_spawn]
 simp only [if_neg h0]
 by_cases h2 : a.k = 2
 · simp only [if_pos h2]
   show ((match D.queue with | [] => (D.pre t).tell [⟨1, -1, 0, 0⟩] | n :: _ => pollD E (D.pre t) n), true) = _
   cases D.queue with
   | nil => simp only [pre_tell]
   | cons n q => simp only [pre_poll]
 simp only [if_neg h2]
 by_cases h5 : a.k = 5
 · simp only [if_pos h5, pre_complete]
 simp only [if_neg h5]
 by_cases h6 : a.k = 6
 · simp only [if_pos h6]
   show (if D.known a.a && (D.task a.a).done then ((D.pre t).tell _, true) else _) = _
   split
   · rw [pre_tell]; rfl
   · rfl
 simp only [if_neg h6]
 have hl : (D.pre t).live a.a = D.live a.a := rfl
 simp only [hl]
 by_cases h1 : a.k = 1
 · simp only [if_pos h1]
   split
   · rw [pre_poll]
   · rfl
 simp only [if_neg h1]
 by_cases h3 : a.k = 3
 · simp only [if_pos h3]
   split
   · rw [pre_ready]
   · rfl
 simp only [if_neg h3]
 by_cases h4 : a.k = 4
 · simp only [if_pos h4]
   split
   · rw [pre_ends]
   · rfl
 simp only [if_neg h4]
theorem pre_next (D : Dr) (t : List Ev) (a : Sc) : nextD E (D.pre t) a = (nextD E D a).pre t := by
 unfold nextD
 rw [pre_act]
 show (if (actD E D a).1.over then _ else _) = _
 split
 · rfl
 · show (if (actD E D a).2 then _ else _) = _
   split
   · rfl
   · exact pre_tell _ _ _
theorem pre_run (t : List Ev) : ∀ (l : List Sc) (D : Dr), runD E (D.pre t) l = (runD E D l).pre t
 | [], _ => rfl
 | a :: l, D => by
  rw [runD, runD, pre_next]
  show (if (nextD E D a).over then _ else _) = _
  split
  · rfl
  · exact pre_run t l _

end

end Go.Proofs.YtlbomnbpahmphaaGreat
