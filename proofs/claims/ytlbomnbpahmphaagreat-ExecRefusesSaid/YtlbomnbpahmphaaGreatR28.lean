/- Walk: the driver's 'ends'. Conditions: the driver lies there; the task and its frame are there; all is few. -/
import Derived.Test.YtlbomnbpahmphaaGreatR27
import Derived.Test.YtlbomnbpahmphaaGreatR24
import Derived.Test.YtlbomnbpahmphaaGreatR03
namespace Go.Proofs.YtlbomnbpahmphaaGreat
open Go.RowKit

theorem task_of {D : Dr} {n : Nat} {t : Tk} (ht : D.tasks[n]? = some t) : D.task n = t := by
 unfold Dr.task
 rw [Int.toNat_natCast, List.getD_eq_getElem?_getD, ht]
 rfl
theorem frame_of {D : Dr} {n i : Nat} {t : Tk} {f : Wd} (ht : D.tasks[n]? = some t) (hfi : t.frame = (i : Int)) (hf : D.frames[i]? = some f) : D.frame n = f ∧ D.task n = t := by
 have h1 : D.task (n : Int) = t := by
  unfold Dr.task
  rw [Int.toNat_natCast, List.getD_eq_getElem?_getD, ht]
  rfl
 refine ⟨?_, h1⟩
 unfold Dr.frame
 rw [h1, hfi, Int.toNat_natCast, List.getD_eq_getElem?_getD, hf]
 rfl
theorem marks_rest (D : Dr) (o : Int × Int) : (D.marks o).tasks = D.tasks ∧ (D.marks o).queue = D.queue ∧ (D.marks o).frames = D.frames ∧ (D.marks o).trace.length ≤ D.trace.length + 1 := by
 unfold Dr.marks
 split
 · exact ⟨rfl, rfl, rfl, by simp [Dr.stop]⟩
 split
 · exact ⟨rfl, rfl, rfl, by simp [Dr.stop]⟩
 split
 · exact ⟨rfl, rfl, rfl, by simp [Dr.stop]⟩
 exact ⟨rfl, rfl, rfl, by omega⟩

/-- What 'ends' does once the frame is cancelled. -/
def ends2 (D1 : Dr) (n : Int) (e : Ev) : Dr :=
 if D1.over then D1
 else ((D1.tell [⟨e.kind, n, e.a, e.n⟩]).out n).put n (if e.kind = 7 then { ((D1.tell [⟨e.kind, n, e.a, e.n⟩]).out n).task n with live := false, waits := false, done := true, n := e.n } else { ((D1.tell [⟨e.kind, n, e.a, e.n⟩]).out n).task n with live := false, waits := false })
theorem endsD_eq (E : En) (D : Dr) (n : Int) (e : Ev) : endsD E D n e = ends2 (({ D with S := (cancelS E.P D.S (D.frame n) n E.fuel).2 } : Dr).took.marks (cancelS E.P D.S (D.frame n) n E.fuel).1) n e := rfl

section
variable {base : Nat} {E : En} {Y : Ey} {tb : List Nat} {w0 w w' : World} {X : Ex} {D : Dr} {ex : List Bb} {kinds : List Int}

set_option maxRecDepth 100000 in
set_option maxHeartbeats 400000 in
theorem ends_e (h : DI base E Y tb w0 w X D ex) (hP : PrGood E.P kinds) (hfew : FewB D.S E.fuel) {n i : Nat} {t : Tk} {f : Wd} (ht : D.tasks[n]? = some t) (hfi : t.frame = (i : Int)) (hf : D.frames[i]? = some f) (hT : D.tasks.length ≤ 1000000) (hQ : D.queue.length ≤ 1000000) (hE : D.trace.length + (cancelS E.P D.S f n E.fuel).2.told.length ≤ 100000000) (ek et ea en : Int) :
 Calls Tryz.prog 116 #[.pointer (some ⟨Y.d, 0, none⟩), .int .i64 n, .agg #[.int .i64 ek, .int .i64 et, .int .i64 ea, .int .i64 en]] w fun e w' =>
  e = .returned (.tuple #[]) ∧ DAft base E Y tb w0 w w' (endsD E D n ⟨ek, et, ea, en⟩) ex := by
 obtain ⟨xp, xa, xn⟩ := f
 obtain ⟨R0, hR0⟩ : ∃ R0, R0 = endsD E D n ⟨ek, et, ea, en⟩ := ⟨_, rfl⟩
 rw [← hR0]
 rw [endsD_eq, (frame_of ht hfi hf).1] at hR0
 have hI := h.box [.int .i64 ek, .int .i64 et, .int .i64 ea, .int .i64 en] 74
 have hd := hI.drow
 have he := hI.exrow List.mem_cons_self
 obtain ⟨b, hb, hbr, hbu⟩ := hI.task ht
 clear hbu
 have hn : n < D.tasks.length := (List.getElem?_eq_some_iff.1 ht).1
 obtain ⟨tx, tc, htv, htc, htm, htg, hta⟩ := hI.oT.form
 clear hta
 obtain ⟨tg, rfl⟩ := htg (by omega)
 have hoT := hI.oT
 rw [htv] at hoT
 have ct := hoT.cell rfl (show (tb.map ptr)[n]? = some (ptr b) by simp [hb])
 unfold ptr at ct
 have c2 := hd.cell (o := 2) rfl
 have c5 := hd.cell (o := 5) rfl
 rw [htv] at c5
 have b0 := hbr.cell (o := 0) rfl
 rw [hfi] at b0
 have dl := h.drow.lt
 obtain ⟨b', hb', hbr', hbu⟩ := h.task ht
 clear hbu
 obtain rfl : b' = b := by rw [hb] at hb'; exact (Option.some.inj hb').symm
 have bl := hbr'.lt
 have hW : (w.alloc (.cells #[.int .i64 ek, .int .i64 et, .int .i64 ea, .int .i64 en] 74)).heap.size = w.heap.size + 1 := by simp
 have hS := Lib.hid fun wz ex' (hJ : DI base E Y tb w0 wz X D ex') => cancelE_e hJ hP hfew hf (n : Int)
 generalize cancelS E.P D.S ⟨xp, xa, xn⟩ n E.fuel = R at *
 obtain ⟨⟨rk, rn⟩, S'⟩ := R
 simp only at hE hS hR0
 obtain ⟨D1, hE1⟩ : ∃ D1 : Dr, D1 = { D with S := S' } := ⟨_, rfl⟩
 have hE1f : D1.trace = D.trace ∧ D1.tasks = D.tasks ∧ D1.queue = D.queue ∧ D1.S.told = S'.told := by rw [hE1]; exact ⟨rfl, rfl, rfl, rfl⟩
 rw [← hE1] at hS hR0
 clear hE1
 generalize hws : w.heap.size = ws at *
 have HR := Lib.hid hR0
 have HI := Lib.hid hI
 have HH := Lib.hid (And.intro ht (And.intro hE (And.intro hQ (And.intro hT (And.intro hb hE1f)))))
 have hn0 : (0 : Int) ≤ (n : Int) := by omega
 have hn1 : (n : Int) < (D.tasks.length : Int) := by omega
 clear hE1f hR0 h hI hd he hoT hbr hbr' hb hb' ht hE hQ hT hf hfi hfew hP htv htg
 go_enter Tryz.func116, Tryz.ntmps116
 go_wp2_with fail
 generalize (w.alloc (.cells #[.int .i64 ek, .int .i64 et, .int .i64 ea, .int .i64 en] 74)) = W at *
 refine Mix.once1 (α := World) (F := fun br wz => (∃ X, DI base E Y tb w0 wz X D1 ((br, 119, [.int .i64 rk, .int .i64 rn]) :: (ws, 74, [.int .i64 ek, .int .i64 et, .int .i64 ea, .int .i64 en]) :: ex)) ∧ w.heap.size ≤ wz.heap.size ∧ ws < br) (G := ?G) (fun hk => ?way) ?rest
 case way =>
  have cW := @Mix.cls_drew W [Y.d, b']
  refine Mix.wp_region_tree [4, 8] (.two [(0,0),(0,1),(0,2),(0,3),(1,4),(0,5),(0,6),(0,7),(1,8),(0,9)] 10 (.fin [(2,11),(2,12)]) 11 (.fin [(3,10),(2,12)])) (fun U => ∃ g, U = Mix.upon W [Y.d, b'] g) (by kernel_rfl) (by kernel_rfl) cW ?_
  clear cW
  refine Mix.T_two ?_
  repeat (first | ((first | refine Mix.S_pure rfl rfl ?_ | refine Mix.S_load rfl rfl ?_); intro K hK; simp only [nA, nB, nC]; go_big_quiet_op; go_big_quiet_on) | refine Mix.S_skip0 rfl rfl ?_ | refine Mix.S_skip1 rfl rfl ?_)
  refine Mix.S_done ⟨?_, ?_⟩
  · refine Mix.T_late (C := fun U => ∃ g, U = Mix.upon W [Y.d, b'] g) (o := _) (by kernel_rfl) rfl rfl ?_
    intro K hK
    simp only [nA, nB, nC]
    go_simp
    refine (hS.out _ _ (HI.out.frN (by exact (Fr.refl _ _).drew))).mono ?_
    rintro e1 w2 ⟨rfl, ⟨X1, hD1⟩, hs1⟩
    simp only [World.size_drew] at hs1
    refine hK _ _ ?_
    clear hK K
    refine Mix.T_fin ?_
    simp only [Act.put, List.setIfInBounds_toArray, List.set_cons_succ, List.set_cons_zero]
    refine Mix.S_eff (o := _) rfl rfl ?_
    intro K hK
    simp only [nA, nB, nC]
    go_simp
    refine hK _ _ ⟨Mix.cls_fr (D := Non) (by exact (by repeat (first | exact .refl _ _ | assumption | apply Fr.drewN | apply Fr.drew | apply Fr.drewl | apply Fr.drewNl | apply Fr.alloc))) (by simp [Non]; omega), ?_⟩
    clear hK K
    have hD2 := hD1.box [.int .i64 0, .int .i64 0] 119
    have kr := hD2.exrow List.mem_cons_self
    obtain ⟨kr0, kr1, krz⟩ := row2 kr
    have hs2 : (w2.alloc (.cells #[.int .i64 0, .int .i64 0] 119)).heap.size = w2.heap.size + 1 := by simp
    generalize hbb : w2.heap.size = br at *
    generalize (w2.alloc (.cells #[.int .i64 0, .int .i64 0] 119)) = w3 at *
    (try simp only [Act.put, List.setIfInBounds_toArray, List.set_cons_succ, List.set_cons_zero])
    refine Mix.S_eff (o := _) rfl rfl ?_
    intro K hK
    simp only [nA, nB, nC]
    go_simp
    refine hK _ _ ⟨Mix.cls_fr (D := fun x => x = br) (by exact (Fr.set1 _ _ _ _).trans (Fr.set1 _ _ _ _)) (by simp; omega), ?_⟩
    clear hK K
    refine Mix.S_done ?_
    have hset := hD2.exset (c' := [.int .i64 rk, .int .i64 rn]) (by exact (kr.set_same 0 _).set_same 1 _) (by exact (Fr.set1 _ _ _ _).trans (Fr.set1 _ _ _ _))
    have hs5 : ((w3.setCell ⟨br, 0, none⟩ (.int .i64 rk)).setCell ⟨br, 1, none⟩ (.int .i64 rn)).heap.size = w3.heap.size := by simp
    generalize ((w3.setCell ⟨br, 0, none⟩ (.int .i64 rk)).setCell ⟨br, 1, none⟩ (.int .i64 rn)) = wz at *
    exact hk br wz ⟨⟨_, hset⟩, by omega, by omega⟩
  · refine Mix.T_eff (C := fun U => ∃ g, U = Mix.upon W [Y.d, b'] g) (o := _) rfl rfl ?_
    intro K hK
    simp only [nA, nB, nC]
    go_simp
    refine hK _ _ ⟨Mix.cls_fr (D := Non) (by exact (by repeat (first | exact .refl _ _ | assumption | apply Fr.drewN | apply Fr.drew | apply Fr.drewl | apply Fr.drewNl | apply Fr.alloc))) (by simp [Non]; omega), ?_⟩
    clear hK K
    refine Mix.T_fin ?_
    have hD0 := (HI.out.box [.int .i64 0, .int .i64 0] 119).frN (by exact (Fr.refl _ _).drew)
    simp only [hW] at hD0
    have hs0 : (W.alloc (.cells #[.int .i64 0, .int .i64 0] 119)).drew.heap.size = ws + 2 := by simp; omega
    generalize (W.alloc (.cells #[.int .i64 0, .int .i64 0] 119)).drew = w1 at *
    (try simp only [Act.put, List.setIfInBounds_toArray, List.set_cons_succ, List.set_cons_zero])
    refine Mix.S_late (o := _) rfl rfl ?_
    intro K hK
    simp only [nA, nB, nC]
    (try simp only [Ey.f2])
    go_simp
    refine (hS.out _ _ hD0).mono ?_
    rintro e1 w2 ⟨rfl, ⟨X1, hD1⟩, hs1⟩
    refine hK _ _ ?_
    clear hK K hD0
    (try simp only [Act.put, List.setIfInBounds_toArray, List.set_cons_succ, List.set_cons_zero])
    have kr := hD1.exrow List.mem_cons_self
    obtain ⟨kr0, kr1, krz⟩ := row2 kr
    refine Mix.S_eff (o := _) rfl rfl ?_
    intro K hK
    simp only [nA, nB, nC]
    go_simp
    refine hK _ _ ⟨Mix.cls_fr (D := fun x => x = ws + 1) (by exact (Fr.set1 _ _ _ _).trans (Fr.set1 _ _ _ _)) (by simp; omega), ?_⟩
    clear hK K
    refine Mix.S_done ?_
    have hset := hD1.exset (c' := [.int .i64 rk, .int .i64 rn]) (by exact (kr.set_same 0 _).set_same 1 _) (by exact (Fr.set1 _ _ _ _).trans (Fr.set1 _ _ _ _))
    have hs5 : ((w2.setCell ⟨ws + 1, 0, none⟩ (.int .i64 rk)).setCell ⟨ws + 1, 1, none⟩ (.int .i64 rn)).heap.size = w2.heap.size := by simp
    generalize ((w2.setCell ⟨ws + 1, 0, none⟩ (.int .i64 rk)).setCell ⟨ws + 1, 1, none⟩ (.int .i64 rn)) = wz at *
    exact hk (ws + 1) wz ⟨⟨_, hset⟩, by omega, by omega⟩
 case rest =>
  intro br wz ⟨⟨X1, hD1⟩, hs1, hb1⟩
  obtain ⟨ht, hE, hQ, hT, hb, g1, g2, g3, g4⟩ := HH.out
  have hd1 := hD1.drow
  have d4 := hd1.cell (o := 4) rfl
  unfold Ey.f4 ptr at d4
  have hTd := Lib.hid (told_e hD1)
  clear hd1 hD1 ct c2 c5 b0 ht hE hQ hT hb g1 g2 g3 g4
  go_wp2_with fail
  refine hTd.out.mono ?_
  rintro e1 w1 ⟨tO, tc1, rfl, hD2, hL, hs2⟩
  obtain ⟨D2, hE2⟩ : ∃ D2 : Dr, D2 = { D1 with S := { D1.S with told := [] } } := ⟨_, rfl⟩
  rw [← hE2] at hD2
  have hTs := Lib.hid (tells_e hD2 tO tc1 D1.S.told hL (by
   obtain ⟨ht, hE, hQ, hT, hb, g1, g2, g3, g4⟩ := HH.out
   rw [show D2.trace = D.trace by rw [hE2]; exact g1, g4]
   omega))
  have HE2 := Lib.hid hE2
  clear hD2 hL hE2
  go_wp2_with fail
  refine hTs.out.mono ?_
  rintro e2 w2 ⟨rfl, ⟨X3, hD3⟩, hs3⟩
  have kb := hD3.exrow List.mem_cons_self
  obtain ⟨kb0, kb1, kbz⟩ := row2 kb
  obtain ⟨D3, hE3⟩ : ∃ D3 : Dr, D3 = D2.tell D1.S.told := ⟨_, rfl⟩
  rw [← hE3] at hD3
  have hE3' : D3 = D1.took := by rw [hE3, HE2.out]; rfl
  have hM := Lib.hid (marks_e hD3 (by
   obtain ⟨ht, hE, hQ, hT, hb, g1, g2, g3, g4⟩ := HH.out
   rw [hE3']
   show (D1.trace ++ D1.S.told).length ≤ _
   rw [List.length_append, g1, g4]
   omega) rk rn)
  have HE3 := Lib.hid hE3'
  clear kb hD3 hE3 hE3'
  go_wp2_with fail
  refine hM.out.mono ?_
  rintro e3 w3 ⟨rfl, ⟨X4, hD4⟩, hs4⟩
  have hR0 := HR.out
  have hmr := marks_rest D3 (rk, rn)
  rw [← HE3.out] at hR0
  generalize D3.marks (rk, rn) = D4 at *
  unfold ends2 at hR0
  have HX := Lib.hid (And.intro hR0 (And.intro hD4 hmr))
  have hwl := (hD4.exrow (List.mem_cons_of_mem _ List.mem_cons_self)).lt
  clear hR0 hmr
  have hl2 : List.Sublist ex ((br, 119, [.int .i64 rk, .int .i64 rn]) :: (ws, 74, [.int .i64 ek, .int .i64 et, .int .i64 ea, .int .i64 en]) :: ex) := (List.sublist_cons_self _ _).trans (List.sublist_cons_self _ _)
  by_cases ho : D4.over = true
  · clear hD4
    rw [ho]
    go_wp2_with fail
    refine bodyPost_ret (results_none rfl _ _ _) rfl ?_
    obtain ⟨hR0, hD4, hmr⟩ := HX.out
    rw [hR0, if_pos ho]
    exact ⟨rfl, ⟨_, (hD4.less hl2).frN (by exact (by repeat (first | exact .refl _ _ | assumption | apply Fr.drewN | apply Fr.drew | apply Fr.drewl | apply Fr.drewNl | apply Fr.alloc)))⟩, by first | omega | (simp; omega)⟩
  · have ho : D4.over = false := by simpa using ho
    have hD4' := hD4.less (List.sublist_cons_self _ _)
    have ke := hD4'.exrow List.mem_cons_self
    have k0 := ke.cell (o := 0) rfl
    have k1 := ke.cell (o := 1) rfl
    have k2 := ke.cell (o := 2) rfl
    have k3 := ke.cell (o := 3) rfl
    have kz := ke.frozen
    have hD5 := hD4'.exset (c' := [.int .i64 ek, .int .i64 n, .int .i64 ea, .int .i64 en]) (by exact ke.set_same 1 _) (by exact Fr.set1 _ _ _ _)
    have hT5 := Lib.hid (tell_e (hD5.frN ((Fr.refl Non _).alloc (.cells #[.int .i64 ek, .int .i64 n, .int .i64 ea, .int .i64 en] 74))) w3.heap.size 0 1 1 [⟨ek, n, ea, en⟩] rfl (by omega) (by exact (Row.new' (by simp)).news) (by
     obtain ⟨ht, hE, hQ, hT, hb, g1, g2, g3, g4⟩ := HH.out
     have h1 := HX.out.2.2.2.2.2
     rw [HE3.out] at h1
     have h2 : (D1.took).trace.length = D.trace.length + S'.told.length := by
      show (D1.trace ++ D1.S.told).length = _
      rw [List.length_append, g1, g4]
     omega))
    clear hD4 hD4' ke hD5
    rw [ho]
    go_wp2_with fail
    refine hT5.out.mono ?_
    rintro e4 w4 ⟨rfl, ⟨X5, hD6⟩, hs5⟩
    obtain ⟨D5, hE5⟩ : ∃ D5 : Dr, D5 = D4.tell [⟨ek, n, ea, en⟩] := ⟨_, rfl⟩
    rw [← hE5] at hD6
    have hO := Lib.hid (out_e hD6 (by
     obtain ⟨ht, hE, hQ, hT, hb, g1, g2, g3, g4⟩ := HH.out
     have h1 := HX.out.2.2.2.1
     rw [HE3.out] at h1
     rw [hE5, show (D4.tell [⟨ek, n, ea, en⟩]).queue = D4.queue from rfl, h1, show D1.took.queue = D1.queue from rfl, g3]
     omega) (n : Int))
    have HE5 := Lib.hid hE5
    clear hD6 hE5
    go_wp2_with fail
    refine hO.out.mono ?_
    rintro e5 w5 ⟨rfl, ⟨X6, hD7⟩, hs6⟩
    obtain ⟨D6, hE6⟩ : ∃ D6 : Dr, D6 = D5.out n := ⟨_, rfl⟩
    rw [← hE6] at hD7
    have ht6 : D6.tasks[n]? = some t := by
     obtain ⟨ht, hE, hQ, hT, hb, g1, g2, g3, g4⟩ := HH.out
     have h1 := HX.out.2.2.1
     rw [HE3.out] at h1
     rw [hE6, show (D5.out n).tasks = D5.tasks from rfl, HE5.out, show (D4.tell [⟨ek, n, ea, en⟩]).tasks = D4.tasks from rfl, h1, show D1.took.tasks = D1.tasks from rfl, g2]
     exact ht
    obtain ⟨b2, hb2, hr2, hbu⟩ := hD7.task ht6
    obtain rfl : b2 = b' := by
     have := HH.out.2.2.2.2.1
     rw [this] at hb2
     exact (Option.some.inj hb2).symm
    have q1 := hr2.cell (o := 1) rfl
    have q4 := hr2.cell (o := 4) rfl
    have qz := hr2.frozen
    have ql := hr2.lt
    have ke := hD7.exrow List.mem_cons_self
    have y0 := ke.cell (o := 0) rfl
    have y3 := ke.cell (o := 3) rfl
    have yz := ke.frozen
    have yl := ke.lt
    have hne : ws ≠ b2 := fun e => by omega
    have hR9 : R0 = D6.put n (if ek = 7 then { t with live := false, waits := false, done := true, n := en } else { t with live := false, waits := false }) := by
     rw [HX.out.1, if_neg (by rw [ho]; decide)]
     rw [← HE5.out, ← hE6, task_of ht6]
    have HY := Lib.hid (And.intro hbu (And.intro hR9 (And.intro hr2 ke)))
    clear hbu hR9 hr2 ke hD7 hb2 ht6
    by_cases e7 : ek = 7
    · have d7 : (ek == 7) = true := by simp [e7]
      go_wp2_with fail
      obtain ⟨hbu, hR9, hr2, ke⟩ := HY.out
      have hr3 : Row ((w5.setCell ⟨b2, 1, none⟩ (.bool false)).setCell ⟨b2, 4, none⟩ (.bool false)) b2 180 [.int .i64 t.frame, .bool false, .bool t.done, .int .i64 t.n, .bool false, .int .i64 t.event] := by exact (hr2.set_same 1 _).set_same 4 _
      have ke3 : Row ((w5.setCell ⟨b2, 1, none⟩ (.bool false)).setCell ⟨b2, 4, none⟩ (.bool false)) ws 74 [.int .i64 ek, .int .i64 n, .int .i64 ea, .int .i64 en] := by exact (ke.set_ne hne _).set_ne hne _
      have hf3 : Fr (fun x => x = b2) w5 ((w5.setCell ⟨b2, 1, none⟩ (.bool false)).setCell ⟨b2, 4, none⟩ (.bool false)) := by exact (Fr.set1 _ _ _ _).trans (Fr.set1 _ _ _ _)
      have hs9 : ((w5.setCell ⟨b2, 1, none⟩ (.bool false)).setCell ⟨b2, 4, none⟩ (.bool false)).heap.size = w5.heap.size := by simp
      clear q1 q4 qz y0 y3 yz hbu hR9 hr2 ke
      generalize ((w5.setCell ⟨b2, 1, none⟩ (.bool false)).setCell ⟨b2, 4, none⟩ (.bool false)) = W9 at *
      have z3 := ke3.cell (o := 3) rfl
      have q2 := hr3.cell (o := 2) rfl
      have q3 := hr3.cell (o := 3) rfl
      have qz := hr3.frozen
      have HZ := Lib.hid (And.intro hr3 hf3)
      clear hr3 ke3 hf3
      have cW := @Mix.cls_drew W9 [ws]
      refine Mix.wp_region_mix [3] [(0, 0), (0, 1), (0, 2), (1, 3), (0, 4), (0, 5), (2, 6), (0, 7), (0, 8), (2, 9)] (fun U => ∃ g, U = Mix.upon W9 [ws] g) (by kernel_rfl) (by kernel_rfl) cW ?_
      clear cW
      repeat (first | ((first | refine Mix.S_pure rfl rfl ?_ | refine Mix.S_load rfl rfl ?_); intro K hK; simp only [nA, nB, nC]; go_big_quiet_op; go_big_quiet_on) | refine Mix.S_skip0 rfl rfl ?_ | refine Mix.S_skip1 rfl rfl ?_)
      refine Mix.S_eff (o := _) rfl rfl ?_
      intro K hK
      simp only [nA, nB, nC]
      go_simp
      refine hK _ _ ⟨Mix.cls_fr (D := fun x => x = b2) (by exact Fr.set1 _ _ _ _) (by simp; omega), ?_⟩
      clear hK K
      (try simp only [Act.put, List.setIfInBounds_toArray, List.set_cons_succ, List.set_cons_zero])
      repeat (first | ((first | refine Mix.S_pure rfl rfl ?_ | refine Mix.S_load rfl rfl ?_); intro K hK; simp only [nA, nB, nC]; go_big_quiet_op; go_big_quiet_on) | refine Mix.S_skip0 rfl rfl ?_ | refine Mix.S_skip1 rfl rfl ?_)
      refine Mix.S_eff (o := _) rfl rfl ?_
      intro K hK
      simp only [nA, nB, nC]
      go_simp
      refine hK _ _ ⟨Mix.cls_fr (D := fun x => x = b2) (by exact Fr.set1 _ _ _ _) (by simp; omega), ?_⟩
      clear hK K
      refine Mix.S_done ?_
      go_wp2_with fail
      refine bodyPost_end (results_none rfl _ _ _) rfl ?_
      obtain ⟨hbu, hR9, hr2, ke⟩ := HY.out
      rw [hR9, if_pos e7]
      exact ⟨rfl, ⟨_, (((hbu _ { t with live := false, waits := false, done := true, n := en } (by exact (HZ.out.1.set_same 2 _).set_same 3 _) (by exact HZ.out.2.trans ((Fr.set1 _ _ _ _).trans (Fr.set1 _ _ _ _)))).less (List.sublist_cons_self _ _)).frN (by exact (Fr.refl _ _).drew))⟩, by first | omega | (simp; omega)⟩
    · have d7 : (ek == 7) = false := by simp [e7]
      go_wp2_with fail
      obtain ⟨hbu, hR9, hr2, ke⟩ := HY.out
      refine bodyPost_end (results_none rfl _ _ _) rfl ?_
      rw [hR9, if_neg e7]
      exact ⟨rfl, ⟨_, (((hbu _ { t with live := false, waits := false } (by exact (hr2.set_same 1 _).set_same 4 _) (by exact (Fr.set1 _ _ _ _).trans (Fr.set1 _ _ _ _))).less (List.sublist_cons_self _ _)).frN (by exact (by repeat (first | exact .refl _ _ | assumption | apply Fr.drewN | apply Fr.drew | apply Fr.drewl | apply Fr.drewNl | apply Fr.alloc))))⟩, by first | omega | (simp; omega)⟩
end

end Go.Proofs.YtlbomnbpahmphaaGreat

/- Walk: the driver's 'poll'. Conditions: the driver lies there; the task and its frame are there; all is few. Printed by genpoll.py. -/
namespace Go.Proofs.YtlbomnbpahmphaaGreat
open Go.RowKit

def poll0 (D : Dr) (n : Int) : Dr := (D.out n).put n { D.task n with waits := false }
/-- What 'poll' does once the frame is polled. -/
def poll2 (E : En) (D1 : Dr) (n : Int) (r : Int × Int) : Dr :=
 if D1.over then D1
 else if r.1 = 0 then (D1.tell [⟨4, n, 0, r.2⟩]).ready n
 else if r.1 = 1 then (D1.tell [⟨6, n, 0, r.2⟩]).put n { D1.task n with waits := true, event := r.2 }
 else if r.1 = 2 then endsD E D1 n ⟨7, 0, 0, r.2⟩
 else if r.1 = 3 then endsD E D1 n ⟨8, 0, 0, 0⟩
 else D1
theorem pollD_eq (E : En) (D : Dr) (n : Int) : pollD E D n = poll2 E (({ poll0 D n with S := (pollS E.P (poll0 D n).S ((poll0 D n).frame n) n E.fuel).2 } : Dr).took.marks (pollS E.P (poll0 D n).S ((poll0 D n).frame n) n E.fuel).1) n (pollS E.P (poll0 D n).S ((poll0 D n).frame n) n E.fuel).1 := rfl
theorem poll0_rest (D : Dr) {n : Nat} {t : Tk} (ht : D.tasks[n]? = some t) : (poll0 D n).S = D.S ∧ (poll0 D n).frames = D.frames ∧ (poll0 D n).trace = D.trace ∧ (poll0 D n).tasks = D.tasks.set n { t with waits := false } ∧ (poll0 D n).queue.length ≤ D.queue.length := by
 unfold poll0
 rw [task_of ht]
 refine ⟨rfl, rfl, rfl, ?_, List.length_filter_le _ _⟩
 unfold Dr.put
 rw [Int.toNat_natCast]
 rfl

section
variable {base : Nat} {E : En} {Y : Ey} {tb : List Nat} {w0 w w' : World} {X : Ex} {D : Dr} {ex : List Bb} {kinds : List Int}

set_option maxRecDepth 100000 in
set_option maxHeartbeats 600000 in
theorem poll_e (h : DI base E Y tb w0 w X D ex) (hP : PrGood E.P kinds) (hfew : FewB D.S E.fuel) {n i : Nat} {t : Tk} {f : Wd} (ht : D.tasks[n]? = some t) (hfi : t.frame = (i : Int)) (hf : D.frames[i]? = some f) (hT : D.tasks.length ≤ 1000000) (hQ : D.queue.length ≤ 1000000)
 (hfew2 : FewB { (pollS E.P D.S f n E.fuel).2 with told := [] } E.fuel) (hE : D.trace.length + (pollS E.P D.S f n E.fuel).2.told.length + 1 + (cancelS E.P { (pollS E.P D.S f n E.fuel).2 with told := [] } f n E.fuel).2.told.length ≤ 100000000) :
 Calls Tryz.prog 113 #[.pointer (some ⟨Y.d, 0, none⟩), .int .i64 n] w fun e w' =>
  e = .returned (.tuple #[]) ∧ DAft base E Y tb w0 w w' (pollD E D n) ex := by
 obtain ⟨xp, xa, xn⟩ := f
 obtain ⟨R0, hR0⟩ : ∃ R0, R0 = pollD E D n := ⟨_, rfl⟩
 rw [← hR0]
 obtain ⟨p1, p2, p3, p4, p5⟩ := poll0_rest D ht
 have hn : n < D.tasks.length := (List.getElem?_eq_some_iff.1 ht).1
 have ht0 : (poll0 D n).tasks[n]? = some { t with waits := false } := by rw [p4, List.getElem?_set_self hn]
 have hf0 : (poll0 D n).frames[i]? = some ⟨xp, xa, xn⟩ := by rw [p2]; exact hf
 rw [pollD_eq, (frame_of ht0 hfi hf0).1, p1] at hR0
 obtain ⟨D0, hE0⟩ : ∃ D0, D0 = poll0 D n := ⟨_, rfl⟩
 rw [← hE0] at hR0 p1 p2 p3 p4 p5 ht0 hf0
 have hd := h.drow
 obtain ⟨b, hb, hbr, hbu⟩ := h.task ht
 clear hbu
 obtain ⟨tx, tc, htv, htc, htm, htg, hta⟩ := h.oT.form
 clear hta
 obtain ⟨tg, rfl⟩ := htg (by omega)
 have hoT := h.oT
 rw [htv] at hoT
 have ct := hoT.cell rfl (show (tb.map ptr)[n]? = some (ptr b) by simp [hb])
 unfold ptr at ct
 have c5 := hd.cell (o := 5) rfl
 rw [htv] at c5
 have dl := h.drow.lt
 have bl := hbr.lt
 have hO := Lib.hid (out_e h (by omega) (n : Int))
 have hS := Lib.hid fun wz Xz ex' (hJ : DI base E Y tb w0 wz Xz D0 ex') => pollE_e hJ hP (by rw [p1]; exact hfew) hf0 (n : Int)
 have HP := Lib.hid hP
 rw [p1] at hS
 generalize pollS E.P D.S ⟨xp, xa, xn⟩ n E.fuel = R at *
 obtain ⟨⟨rk, rn⟩, S'⟩ := R
 simp only at hE hS hR0 hfew2
 obtain ⟨D1, hE1⟩ : ∃ D1 : Dr, D1 = { D0 with S := S' } := ⟨_, rfl⟩
 have hE1f : D1.trace = D0.trace ∧ D1.tasks = D0.tasks ∧ D1.queue = D0.queue ∧ D1.S = S' ∧ D1.frames = D0.frames := by rw [hE1]; exact ⟨rfl, rfl, rfl, rfl, rfl⟩
 rw [← hE1] at hS hR0
 clear hE1
 have HF := Lib.hid hE1f
 have hn0 : (0 : Int) ≤ (n : Int) := by omega
 have hn1 : (n : Int) < (D.tasks.length : Int) := by omega
 have HH := Lib.hid (And.intro hfew2 (And.intro hE (And.intro ht (And.intro ht0 (And.intro hf0 (And.intro hfi (And.intro hQ (And.intro hT (And.intro hb (And.intro p3 (And.intro p5 (And.intro p4 hE0))))))))))))
 have HR := Lib.hid hR0
 clear hE1f hfew2 hE ht ht0 hf0 hf hfi hQ hT hb p1 p2 p3 p4 p5 hE0 hR0 h hd hoT hbr htv htg hP hfew
 go_enter Tryz.func113, Tryz.ntmps113
 go_wp2_with fail
 refine hO.out.mono ?_
 rintro e1 w1 ⟨rfl, ⟨X1, hD1⟩, hs1⟩
 have ht1 : (D.out n).tasks[n]? = some t := HH.out.2.2.1
 obtain ⟨b2, hb2, hr2, hbu⟩ := hD1.task ht1
 obtain rfl : b2 = b := by
  have := HH.out.2.2.2.2.2.2.2.2.1
  rw [this] at hb2
  exact (Option.some.inj hb2).symm
 have q4 := hr2.cell (o := 4) rfl
 have qz := hr2.frozen
 have ql := hr2.lt
 have HY := Lib.hid (And.intro hbu hr2)
 clear hbu hr2 hD1 hb2 ht1
 go_wp2_with fail
 have hD0e : ({ D.out n with tasks := (D.out n).tasks.set n { t with waits := false } } : Dr) = D0 := by
  obtain ⟨_, _, ht, _, _, _, _, _, _, _, _, _, hE0⟩ := HH.out
  rw [hE0]
  unfold poll0 Dr.put
  rw [task_of ht, Int.toNat_natCast]
 have hD2 := HY.out.1 (w1.setCell ⟨b2, 4, none⟩ (.bool false)) { t with waits := false } (by exact HY.out.2.set_same 4 _) (by exact Fr.set1 _ _ _ _)
 rw [hD0e] at hD2
 have hsW : (w1.setCell ⟨b2, 4, none⟩ (.bool false)).heap.size = w1.heap.size := by simp
 clear q4 qz hD0e ct c5
 generalize (w1.setCell ⟨b2, 4, none⟩ (.bool false)) = W at *
 have c1 := hD2.drow.cell (o := 1) rfl
 obtain ⟨b3, hb3, hr3, hbu⟩ := hD2.task HH.out.2.2.2.1
 obtain rfl : b3 = b2 := by
  have := HH.out.2.2.2.2.2.2.2.2.1
  rw [this] at hb3
  exact (Option.some.inj hb3).symm
 have b0 := hr3.cell (o := 0) rfl
 simp only at b0
 rw [HH.out.2.2.2.2.2.1] at b0
 have HI := Lib.hid hD2
 clear hbu hr3 hb3 hD2 HY
 have dlW : Y.d < W.heap.size := by omega
 have blW : b3 < W.heap.size := by omega
 have hsW2 := Nat.le_of_eq hsW.symm
 clear hsW
 generalize hW : W.heap.size = ws at *
 refine Mix.once1 (α := World) (F := fun br wz => (∃ X, DI base E Y tb w0 wz X D1 ((br, 119, [.int .i64 rk, .int .i64 rn]) :: ex)) ∧ w.heap.size ≤ wz.heap.size ∧ ws ≤ br) (G := ?G) (fun hk => ?way) ?rest
 case way =>
  have cW := @Mix.cls_drew W [Y.d, b3]
  refine Mix.wp_region_tree [4, 8] (.two [(0,0),(0,1),(0,2),(0,3),(1,4),(0,5),(0,6),(0,7),(1,8),(0,9)] 10 (.fin [(2,11),(2,12)]) 11 (.fin [(3,10),(2,12)])) (fun U => ∃ g, U = Mix.upon W [Y.d, b3] g) (by kernel_rfl) (by kernel_rfl) cW ?_
  clear cW
  refine Mix.T_two ?_
  repeat (first | ((first | refine Mix.S_pure rfl rfl ?_ | refine Mix.S_load rfl rfl ?_); intro K hK; simp only [nA, nB, nC]; go_big_quiet_op; go_big_quiet_on) | refine Mix.S_skip0 rfl rfl ?_ | refine Mix.S_skip1 rfl rfl ?_)
  refine Mix.S_done ⟨?_, ?_⟩
  · refine Mix.T_late (C := fun U => ∃ g, U = Mix.upon W [Y.d, b3] g) (o := _) (by kernel_rfl) rfl rfl ?_
    intro K hK
    simp only [nA, nB, nC]
    go_simp
    refine (hS.out _ _ _ (HI.out.frN (by exact (Fr.refl _ _).drew))).mono ?_
    rintro e1 w2 ⟨rfl, ⟨X1, hD1⟩, hs1⟩
    simp only [World.size_drew] at hs1
    refine hK _ _ ?_
    clear hK K
    refine Mix.T_fin ?_
    simp only [Act.put, List.setIfInBounds_toArray, List.set_cons_succ, List.set_cons_zero]
    refine Mix.S_eff (o := _) rfl rfl ?_
    intro K hK
    simp only [nA, nB, nC]
    go_simp
    refine hK _ _ ⟨Mix.cls_fr (D := Non) (by exact (by repeat (first | exact .refl _ _ | assumption | apply Fr.drewN | apply Fr.drew | apply Fr.drewl | apply Fr.drewNl | apply Fr.alloc))) (by simp [Non]; omega), ?_⟩
    clear hK K
    have hD2 := hD1.box [.int .i64 0, .int .i64 0] 119
    have kr := hD2.exrow List.mem_cons_self
    obtain ⟨kr0, kr1, krz⟩ := row2 kr
    have hs2 : (w2.alloc (.cells #[.int .i64 0, .int .i64 0] 119)).heap.size = w2.heap.size + 1 := by simp
    generalize hbb : w2.heap.size = br at *
    generalize (w2.alloc (.cells #[.int .i64 0, .int .i64 0] 119)) = w3 at *
    (try simp only [Act.put, List.setIfInBounds_toArray, List.set_cons_succ, List.set_cons_zero])
    refine Mix.S_eff (o := _) rfl rfl ?_
    intro K hK
    simp only [nA, nB, nC]
    go_simp
    refine hK _ _ ⟨Mix.cls_fr (D := fun x => x = br) (by exact (Fr.set1 _ _ _ _).trans (Fr.set1 _ _ _ _)) (by simp; omega), ?_⟩
    clear hK K
    refine Mix.S_done ?_
    have hset := hD2.exset (c' := [.int .i64 rk, .int .i64 rn]) (by exact (kr.set_same 0 _).set_same 1 _) (by exact (Fr.set1 _ _ _ _).trans (Fr.set1 _ _ _ _))
    have hs5 : ((w3.setCell ⟨br, 0, none⟩ (.int .i64 rk)).setCell ⟨br, 1, none⟩ (.int .i64 rn)).heap.size = w3.heap.size := by simp
    generalize ((w3.setCell ⟨br, 0, none⟩ (.int .i64 rk)).setCell ⟨br, 1, none⟩ (.int .i64 rn)) = wz at *
    exact hk br wz ⟨⟨_, hset⟩, by omega, by omega⟩
  · refine Mix.T_eff (C := fun U => ∃ g, U = Mix.upon W [Y.d, b3] g) (o := _) rfl rfl ?_
    intro K hK
    simp only [nA, nB, nC]
    go_simp
    refine hK _ _ ⟨Mix.cls_fr (D := Non) (by exact (by repeat (first | exact .refl _ _ | assumption | apply Fr.drewN | apply Fr.drew | apply Fr.drewl | apply Fr.drewNl | apply Fr.alloc))) (by simp [Non]; omega), ?_⟩
    clear hK K
    refine Mix.T_fin ?_
    have hD0 := (HI.out.box [.int .i64 0, .int .i64 0] 119).frN (by exact (Fr.refl _ _).drew)
    simp only [hW] at hD0
    have hs0 : (W.alloc (.cells #[.int .i64 0, .int .i64 0] 119)).drew.heap.size = ws + 1 := by simp; omega
    generalize (W.alloc (.cells #[.int .i64 0, .int .i64 0] 119)).drew = w1 at *
    (try simp only [Act.put, List.setIfInBounds_toArray, List.set_cons_succ, List.set_cons_zero])
    refine Mix.S_late (o := _) rfl rfl ?_
    intro K hK
    simp only [nA, nB, nC]
    (try simp only [Ey.f1])
    go_simp
    refine (hS.out _ _ _ hD0).mono ?_
    rintro e1 w2 ⟨rfl, ⟨X1, hD1⟩, hs1⟩
    refine hK _ _ ?_
    clear hK K hD0
    (try simp only [Act.put, List.setIfInBounds_toArray, List.set_cons_succ, List.set_cons_zero])
    have kr := hD1.exrow List.mem_cons_self
    obtain ⟨kr0, kr1, krz⟩ := row2 kr
    refine Mix.S_eff (o := _) rfl rfl ?_
    intro K hK
    simp only [nA, nB, nC]
    go_simp
    refine hK _ _ ⟨Mix.cls_fr (D := fun x => x = ws) (by exact (Fr.set1 _ _ _ _).trans (Fr.set1 _ _ _ _)) (by simp; omega), ?_⟩
    clear hK K
    refine Mix.S_done ?_
    have hset := hD1.exset (c' := [.int .i64 rk, .int .i64 rn]) (by exact (kr.set_same 0 _).set_same 1 _) (by exact (Fr.set1 _ _ _ _).trans (Fr.set1 _ _ _ _))
    have hs5 : ((w2.setCell ⟨ws, 0, none⟩ (.int .i64 rk)).setCell ⟨ws, 1, none⟩ (.int .i64 rn)).heap.size = w2.heap.size := by simp
    generalize ((w2.setCell ⟨ws, 0, none⟩ (.int .i64 rk)).setCell ⟨ws, 1, none⟩ (.int .i64 rn)) = wz at *
    exact hk (ws) wz ⟨⟨_, hset⟩, by omega, by omega⟩
 case rest =>
  intro br wz ⟨⟨X1, hD1⟩, hs1, hb1⟩
  have hd1 := hD1.drow
  have d4 := hd1.cell (o := 4) rfl
  unfold Ey.f4 ptr at d4
  have hTd := Lib.hid (told_e hD1)
  clear hd1 hD1 c1 b0
  go_wp2_with fail
  refine hTd.out.mono ?_
  rintro e1 w1 ⟨tO, tc1, rfl, hD2, hL, hs2⟩
  obtain ⟨D2, hE2⟩ : ∃ D2 : Dr, D2 = { D1 with S := { D1.S with told := [] } } := ⟨_, rfl⟩
  rw [← hE2] at hD2
  have hTs := Lib.hid (tells_e hD2 tO tc1 D1.S.told hL (by
   obtain ⟨_, hE, _, _, _, _, _, _, _, p3, _⟩ := HH.out
   rw [show D2.trace = D.trace by rw [hE2, ← p3]; exact HF.out.1, HF.out.2.2.2.1]
   omega))
  have HE2 := Lib.hid hE2
  clear hD2 hL hE2
  go_wp2_with fail
  refine hTs.out.mono ?_
  rintro e2 w2 ⟨rfl, ⟨X3, hD3⟩, hs3⟩
  have kb := hD3.exrow List.mem_cons_self
  obtain ⟨kb0, kb1, kbz⟩ := row2 kb
  obtain ⟨D3, hE3⟩ : ∃ D3 : Dr, D3 = D2.tell D1.S.told := ⟨_, rfl⟩
  rw [← hE3] at hD3
  have hE3' : D3 = D1.took := by rw [hE3, HE2.out]; rfl
  have hlt3 : D3.trace.length = D.trace.length + S'.told.length := by
   obtain ⟨_, hE, _, _, _, _, _, _, _, p3, _⟩ := HH.out
   rw [hE3']
   show (D1.trace ++ D1.S.told).length = _
   rw [List.length_append, HF.out.1, HF.out.2.2.2.1, p3]
  have hM := Lib.hid (marks_e hD3 (by
   have := HH.out.2.1
   omega) rk rn)
  have HE3 := Lib.hid (And.intro hE3' hlt3)
  clear kb hD3 hE3 hE3' hlt3
  go_wp2_with fail
  refine hM.out.mono ?_
  rintro e3 w3 ⟨rfl, ⟨X4, hD4⟩, hs4⟩
  have hR0 := HR.out
  have hmr := marks_rest D3 (rk, rn)
  have hmS : (D3.marks (rk, rn)).S = D3.S := by
   unfold Dr.marks
   split
   · rfl
   split
   · rfl
   split <;> rfl
  rw [← HE3.out.1] at hR0
  unfold poll2 at hR0
  generalize D3.marks (rk, rn) = D4 at *
  simp only at hR0
  have HX := Lib.hid (And.intro hR0 (And.intro hD4 (And.intro hmS hmr)))
  have k9 := hD4.exrow List.mem_cons_self
  obtain ⟨z0, z1, zz⟩ := row2 k9
  have hwl := k9.lt
  clear hR0 hmr hmS k9 kb0 kb1 kbz
  have hlT : D4.trace.length ≤ 100000000 := by
   have h1 := HX.out.2.2.2.2.2.2
   have h2 := HE3.out.2
   have h3 := HH.out.2.1
   omega
  by_cases ho : D4.over = true
  · clear hD4
    rw [ho]
    go_wp2_with fail
    refine bodyPost_ret (results_none rfl _ _ _) rfl ?_
    obtain ⟨hR0, hD4, hmr⟩ := HX.out
    rw [hR0, if_pos ho]
    exact ⟨rfl, ⟨_, (hD4.less (List.sublist_cons_self _ _)).frN (by exact (by repeat (first | exact .refl _ _ | assumption | apply Fr.drewN | apply Fr.drew | apply Fr.drewl | apply Fr.drewNl | apply Fr.alloc)))⟩, by first | omega | (simp; omega)⟩
  have ho' : ¬ D4.over = true := ho
  have ho : D4.over = false := by simpa using ho
  by_cases e0 : rk = 0
  · have d0 : (rk == 0) = true := by simp [e0]
    have hT5 := Lib.hid (tell_e (hD4.frN ((Fr.refl Non _).alloc (.cells #[.int .i64 4, .int .i64 n, .int .i64 0, .int .i64 rn] 74))) w3.heap.size 0 1 1 [⟨4, n, 0, rn⟩] rfl (by omega) (by exact (Row.new' (by simp)).news) (by omega))
    clear hD4
    rw [ho]
    go_wp2_with fail
    refine hT5.out.mono ?_
    rintro e4 w4 ⟨rfl, ⟨X5, hD6⟩, hs5⟩
    have hRd := Lib.hid (ready_e hD6 (by
     obtain ⟨_, _, _, _, _, _, hQ, _, _, _, p5, _⟩ := HH.out
     have h1 := HX.out.2.2.2.2.1
     rw [HE3.out.1] at h1
     rw [show (D4.tell [⟨4, n, 0, rn⟩]).queue = D4.queue from rfl, h1, show D1.took.queue = D1.queue from rfl, HF.out.2.2.1]
     omega) (n : Int))
    clear hD6
    go_wp2_with fail
    refine hRd.out.mono ?_
    rintro e5 w5 ⟨rfl, ⟨X6, hD7⟩, hs6⟩
    have HD := Lib.hid hD7
    clear hD7
    go_wp2_with fail
    refine bodyPost_end (results_none rfl _ _ _) rfl ?_
    rw [HX.out.1, if_neg ho', if_pos e0]
    exact ⟨rfl, ⟨_, (HD.out.less (List.sublist_cons_self _ _)).frN (by exact (by repeat (first | exact .refl _ _ | assumption | apply Fr.drewN | apply Fr.drew | apply Fr.drewl | apply Fr.drewNl | apply Fr.alloc)))⟩, by first | omega | (simp at hs5 ⊢; omega) | (simp; omega)⟩
  have d0 : (rk == 0) = false := by simp [e0]
  have ht4 : D4.tasks[n]? = some { t with waits := false } := by
   rw [HX.out.2.2.2.1, HE3.out.1, show D1.took.tasks = D1.tasks from rfl, HF.out.2.1]
   exact HH.out.2.2.2.1
  by_cases e1 : rk = 1
  · have d1 : (rk == 1) = true := by simp [e1]
    have hT5 := Lib.hid (tell_e (hD4.frN ((Fr.refl Non _).alloc (.cells #[.int .i64 6, .int .i64 n, .int .i64 0, .int .i64 rn] 74))) w3.heap.size 0 1 1 [⟨6, n, 0, rn⟩] rfl (by omega) (by exact (Row.new' (by simp)).news) (by omega))
    have HT4 := Lib.hid ht4
    clear hD4 ht4
    rw [ho]
    go_wp2_with fail
    refine hT5.out.mono ?_
    rintro e4 w4 ⟨rfl, ⟨X5, hD6⟩, hs5⟩
    obtain ⟨D5, hE5⟩ : ∃ D5 : Dr, D5 = D4.tell [⟨6, n, 0, rn⟩] := ⟨_, rfl⟩
    rw [← hE5] at hD6
    have ht5 : D5.tasks[n]? = some { t with waits := false } := by rw [hE5]; exact HT4.out
    obtain ⟨b4, hb4, hr4, hbu⟩ := hD6.task ht5
    obtain rfl : b4 = b3 := by
     have := HH.out.2.2.2.2.2.2.2.2.1
     rw [this] at hb4
     exact (Option.some.inj hb4).symm
    have q4 := hr4.cell (o := 4) rfl
    have q5 := hr4.cell (o := 5) rfl
    have qz := hr4.frozen
    have ql := hr4.lt
    have y1 := (hD6.exrow List.mem_cons_self).cell (o := 1) rfl
    have yl := (hD6.exrow List.mem_cons_self).lt
    have hne : br ≠ b4 := fun e => by omega
    have hR9 : R0 = D5.put n { t with waits := true, event := rn } := by
     rw [HX.out.1, if_neg ho', if_neg e0, if_pos e1, ← hE5, task_of HT4.out]
    have HY := Lib.hid (And.intro hbu (And.intro hR9 hr4))
    clear hbu hR9 hr4 hb4 ht5 hD6 hE5 z0 z1 zz
    have cW := @Mix.cls_drew w4 [br]
    go_wp2_with fail
    refine Mix.wp_region_mix [3] [(0, 0), (0, 1), (0, 2), (1, 3), (0, 4), (0, 5), (2, 6), (0, 7), (0, 8), (2, 9)] (fun U => ∃ g, U = Mix.upon w4 [br] g) (by kernel_rfl) (by kernel_rfl) cW ?_
    clear cW
    repeat (first | ((first | refine Mix.S_pure rfl rfl ?_ | refine Mix.S_load rfl rfl ?_); intro K hK; simp only [nA, nB, nC]; go_big_quiet_op; go_big_quiet_on) | refine Mix.S_skip0 rfl rfl ?_ | refine Mix.S_skip1 rfl rfl ?_)
    refine Mix.S_eff (o := _) rfl rfl ?_
    intro K hK
    simp only [nA, nB, nC]
    go_simp
    refine hK _ _ ⟨Mix.cls_fr (D := fun x => x = b4) (by exact Fr.set1 _ _ _ _) (by simp; omega), ?_⟩
    clear hK K
    (try simp only [Act.put, List.setIfInBounds_toArray, List.set_cons_succ, List.set_cons_zero])
    repeat (first | ((first | refine Mix.S_pure rfl rfl ?_ | refine Mix.S_load rfl rfl ?_); intro K hK; simp only [nA, nB, nC]; go_big_quiet_op; go_big_quiet_on) | refine Mix.S_skip0 rfl rfl ?_ | refine Mix.S_skip1 rfl rfl ?_)
    refine Mix.S_eff (o := _) rfl rfl ?_
    intro K hK
    simp only [nA, nB, nC]
    go_simp
    refine hK _ _ ⟨Mix.cls_fr (D := fun x => x = b4) (by exact Fr.set1 _ _ _ _) (by simp; omega), ?_⟩
    clear hK K
    refine Mix.S_done ?_
    go_wp2_with fail
    refine bodyPost_end (results_none rfl _ _ _) rfl ?_
    obtain ⟨hbu, hR9, hr4⟩ := HY.out
    rw [hR9]
    exact ⟨rfl, ⟨_, (((hbu _ { t with waits := true, event := rn } (by exact (hr4.set_same 4 _).set_same 5 _) (by exact (Fr.set1 _ _ _ _).trans (Fr.set1 _ _ _ _))).less (List.sublist_cons_self _ _)).frN (by exact (Fr.refl _ _).drew))⟩, by first | omega | (simp at hs5 ⊢; omega) | (simp; omega)⟩
  have d1 : (rk == 1) = false := by simp [e1]
  have hS4 : D4.S = { S' with told := [] } := by
   rw [HX.out.2.2.1, HE3.out.1, show D1.took.S = { D1.S with told := [] } from rfl, HF.out.2.2.2.1]
  have hf4 : D4.frames[i]? = some ⟨xp, xa, xn⟩ := by
   rw [HX.out.2.2.2.2.2.1, HE3.out.1, show D1.took.frames = D1.frames from rfl, HF.out.2.2.2.2]
   exact HH.out.2.2.2.2.1
  have hN := fun ek ea en => ends_e hD4 HP.out (by rw [hS4]; exact HH.out.1) ht4 HH.out.2.2.2.2.2.1 hf4 (by
   obtain ⟨_, _, _, _, _, _, _, hT, _, _, _, p4, _⟩ := HH.out
   rw [HX.out.2.2.2.1, HE3.out.1, show D1.took.tasks = D1.tasks from rfl, HF.out.2.1, p4, List.length_set]
   exact hT) (by
   obtain ⟨_, _, _, _, _, _, hQ, _, _, _, p5, _⟩ := HH.out
   have h1 := HX.out.2.2.2.2.1
   rw [HE3.out.1] at h1
   rw [h1, show D1.took.queue = D1.queue from rfl, HF.out.2.2.1]
   omega) (by
   have h1 := HX.out.2.2.2.2.2.2
   have h2 := HE3.out.2
   have h3 := HH.out.2.1
   rw [hS4]
   omega) ek 0 ea en
  have HN := Lib.hid hN
  have HD4 := Lib.hid hD4
  clear hN hS4 hf4 ht4 hD4
  by_cases e2 : rk = 2
  · have d2 : (rk == 2) = true := by simp [e2]
    rw [ho]
    go_wp2_with fail
    refine (HN.out 7 0 rn).mono ?_
    rintro e4 w4 ⟨rfl, ⟨X5, hD6⟩, hs5⟩
    have HD := Lib.hid hD6
    clear hD6
    go_wp2_with fail
    refine bodyPost_end (results_none rfl _ _ _) rfl ?_
    rw [HX.out.1, if_neg ho', if_neg e0, if_neg e1, if_pos e2]
    exact ⟨rfl, ⟨_, (HD.out.less (List.sublist_cons_self _ _)).frN (by exact (by repeat (first | exact .refl _ _ | assumption | apply Fr.drewN | apply Fr.drew | apply Fr.drewl | apply Fr.drewNl | apply Fr.alloc)))⟩, by first | omega | (simp at hs5 ⊢; omega) | (simp; omega)⟩
  have d2 : (rk == 2) = false := by simp [e2]
  by_cases e3 : rk = 3
  · have d3 : (rk == 3) = true := by simp [e3]
    rw [ho]
    go_wp2_with fail
    refine (HN.out 8 0 0).mono ?_
    rintro e4 w4 ⟨rfl, ⟨X5, hD6⟩, hs5⟩
    have HD := Lib.hid hD6
    clear hD6
    go_wp2_with fail
    refine bodyPost_end (results_none rfl _ _ _) rfl ?_
    rw [HX.out.1, if_neg ho', if_neg e0, if_neg e1, if_neg e2, if_pos e3]
    exact ⟨rfl, ⟨_, (HD.out.less (List.sublist_cons_self _ _)).frN (by exact (by repeat (first | exact .refl _ _ | assumption | apply Fr.drewN | apply Fr.drew | apply Fr.drewl | apply Fr.drewNl | apply Fr.alloc)))⟩, by first | omega | (simp at hs5 ⊢; omega) | (simp; omega)⟩
  have d3 : (rk == 3) = false := by simp [e3]
  rw [ho]
  go_wp2_with fail
  refine bodyPost_end (results_none rfl _ _ _) rfl ?_
  rw [HX.out.1, if_neg ho', if_neg e0, if_neg e1, if_neg e2, if_neg e3]
  exact ⟨rfl, ⟨_, (HD4.out.less (List.sublist_cons_self _ _)).frN (by exact (by repeat (first | exact .refl _ _ | assumption | apply Fr.drewN | apply Fr.drew | apply Fr.drewl | apply Fr.drewNl | apply Fr.alloc)))⟩, by first | omega | (simp; omega)⟩
end

end Go.Proofs.YtlbomnbpahmphaaGreat
