/- Walks: 'freed', 'stop', 'frame' on a machine whose layout is hidden. Conditions: few calls; what the coroutines name is there. -/
import Derived.Test.YtlbomnbpahmphaaGreatR13
import Derived.Test.YtlbomnbpahmphaaGreatR14
namespace Go.Proofs.YtlbomnbpahmphaaGreat
open Go.RowKit

section
variable {base : Nat} {P : Pr} {A : Nat → Prop} {w : World} {m : Nat} {S : St} {L : Lay}

theorem ML.c5l (h : ML base P A w m S L) : ∃ ao cap, w.cell? ⟨m, 5, none⟩ = some (.slice ao S.stack.length cap) := by
 obtain ⟨ao, cap, e, _⟩ := h.stk.form
 exact ⟨ao, cap, by rw [h.c5, e, h.len]⟩

set_option maxRecDepth 100000 in
set_option maxHeartbeats 1000000 in
theorem freed_m (h : ML base P A w m S L) (p : Bool) (a n : Int) :
 Calls Tryz.prog 88 #[.pointer (some ⟨m, 0, none⟩), .agg #[.bool p, .int .i64 a, .int .i64 n]] w fun e w' => ∃ v, e = .returned v ∧ Res w' w.heap.size v (freedS S ⟨p, a, n⟩).1 ∧ Aft base P A w w' m (freedS S ⟨p, a, n⟩).2 := by
 have hm := h.mlt
 have hF := Lib.hid fun w1 (f : Fr Non w w1) => free_i (h.mem.frN f) p a n
 obtain ⟨R, hR⟩ : ∃ R, R = freedS S ⟨p, a, n⟩ := ⟨_, rfl⟩
 rw [← hR]
 unfold freedS at hR
 generalize S.mem.free ⟨p, a, n⟩ = T at *
 obtain ⟨M', er⟩ := T
 simp only at hF hR
 have HR := Lib.hid hR
 have c2 := h.c2
 have HH := Lib.hid h
 clear h hR
 have hcase : (er = 0 ∧ (er == 0) = true) ∨ (er ≠ 0 ∧ (er == 0) = false ∧ (er != 0) = true) := by by_cases h : er = 0 <;> simp [h]
 go_enter Tryz.func88, Tryz.ntmps88
 go_wp2_with fail
 have rb : Row (w.alloc (.cells #[.bool p, .int .i64 a, .int .i64 n] 40)) w.heap.size 40 [.bool p, .int .i64 a, .int .i64 n] := Row.new' rfl
 have hf0 : Fr Non w (w.alloc (.cells #[.bool p, .int .i64 a, .int .i64 n] 40)) := by exact (by repeat (first | exact .refl _ _ | assumption | apply Fr.drewN | apply Fr.drew | apply Fr.drewl | apply Fr.drewNl | apply Fr.alloc))
 have hs0 : (w.alloc (.cells #[.bool p, .int .i64 a, .int .i64 n] 40)).heap.size = w.heap.size + 1 := by simp
 have k2 := hf0.cell c2 id
 generalize w.alloc (.cells #[.bool p, .int .i64 a, .int .i64 n] 40) = W at *
 obtain ⟨q0, q1, q2, qz⟩ := row3 rb
 have HW := Lib.hid (And.intro rb hf0)
 clear rb hf0 c2
 have cW := @Mix.cls_drew W [m, w.heap.size]
 refine Mix.wp_region_mix [3, 4] [(0, 0), (0, 1), (0, 2), (1, 3), (1, 4), (2, 5), (0, 6)] (fun V => ∃ g, V = Mix.upon W [m, w.heap.size] g) (by kernel_rfl) (by kernel_rfl) cW ?_
 clear cW
 repeat (first | ((first | refine Mix.S_pure rfl rfl ?_ | refine Mix.S_load rfl rfl ?_); intro K hK; simp only [nA, nB, nC]; go_big_quiet_op; go_big_quiet_on) | refine Mix.S_skip0 rfl rfl ?_ | refine Mix.S_skip1 rfl rfl ?_)
 refine Mix.S_eff (o := _) rfl rfl ?_
 intro K hK
 simp only [nA, nB, nC]
 go_simp
 refine (hF.out _ (by exact HW.out.2.drew)).mono ?_
 rintro e1 w1 ⟨rfl, hM, hf⟩
 have hDn : ¬ L.Dm m ∧ ¬ L.Dm w.heap.size := ⟨fun e => (HH.out.sep _ e).1 rfl, fun e => by have := HH.out.lt _ (HH.out.od _ e); omega⟩
 refine hK _ _ ⟨Mix.cls_fr (D := L.Dm) hf (by simp; exact ⟨⟨by omega, hDn.1⟩, ⟨by omega, hDn.2⟩⟩), ?_⟩
 clear hK K
 have hf1 : Fr L.Dm W w1 := Fr.trans (by exact (Fr.refl _ _).drew) hf
 have hup := (HH.out.frN HW.out.2).upMem hf1 hM (fun b hb => Or.inl hb)
 have hA := (HH.out.frN HW.out.2).aftMem hf1 hM (fun b hb => Or.inl hb)
 obtain ⟨ao, cap, k5⟩ := hup.c5l
 have hs1 := hf1.size
 have HA := Lib.hid (And.intro hup hA)
 clear hf hf1 hM hup hA q0 q1 q2 qz k2
 repeat (first | ((first | refine Mix.S_pure rfl rfl ?_ | refine Mix.S_load rfl rfl ?_); intro K hK; simp only [nA, nB, nC]; go_big_quiet_op; go_big_quiet_on) | refine Mix.S_skip0 rfl rfl ?_ | refine Mix.S_skip1 rfl rfl ?_)
 refine Mix.S_done ?_
 rcases hcase with ⟨rfl, he⟩ | ⟨hne, he, hen⟩
 · have hlen : (S.stack.length = 0 ∧ (S.stack.length : Int) = 0) ∨ (S.stack.length ≠ 0 ∧ ((S.stack.length : Int) == 0) = false) := by
    by_cases h : S.stack.length = 0
    · exact Or.inl ⟨h, by omega⟩
    · exact Or.inr ⟨h, beq_false_of_ne (by omega)⟩
   simp only at k5
   generalize hk : S.stack.length = k at *
   rcases hlen with ⟨hl, hl2⟩ | ⟨hl, hl2⟩
   · subst hl
     clear hl2
     go_wp2_with fail
     go_ret
     have hR := HR.out
     rw [if_neg (by simp), if_pos (List.eq_nil_of_length_eq_zero hk)] at hR
     rw [hR]
     refine ⟨_, rfl, Or.inr ⟨w1.heap.size, 2, 0, rfl, rfl, Row.new' rfl, by omega⟩, ?_⟩
     exact Aft.box HW.out.2 HA.out.2 (E := Non) (by exact (by repeat (first | exact .refl _ _ | assumption | apply Fr.drewN | apply Fr.drew | apply Fr.drewl | apply Fr.drewNl | apply Fr.alloc))) (fun _ h => h.elim) HH.out.lt HH.out.base_le
   · go_wp2_with fail
     go_ret
     have hR := HR.out
     rw [if_neg (by simp), if_neg (fun e => by rw [e] at hk; simp at hk; omega)] at hR
     rw [hR]
     exact ⟨_, rfl, Or.inl ⟨rfl, rfl⟩, Aft.ahead HW.out.2 HA.out.2⟩
 · have hE := Lib.hid fun w1 => failed_r w1 er hne
   go_wp2_with fail
   refine (hE.out _).mono ?_
   rintro e2 w2 ⟨v, rfl, hres, hf2⟩
   have HE := Lib.hid (And.intro hres hf2)
   clear hres hf2
   go_wp2_with fail
   go_ret
   rw [HR.out, if_pos hne]
   exact ⟨_, rfl, HE.out.1.lo (by omega), Aft.box HW.out.2 HA.out.2 (E := Non) HE.out.2 (fun _ h => h.elim) HH.out.lt HH.out.base_le⟩

set_option maxRecDepth 100000 in
set_option maxHeartbeats 1000000 in
theorem stop_m (h : ML base P A w m S L) (hn : S.stack.length ≤ 1000000000) (hP : PrOk P) (p : Bool) (a n : Int) :
 Calls Tryz.prog 53 #[.pointer (some ⟨m, 0, none⟩), .agg #[.bool p, .int .i64 a, .int .i64 n]] w fun e w' => ∃ v, e = .returned v ∧ Res w' w.heap.size v (stopS P S ⟨p, a, n⟩).1 ∧ Aft base P A w w' m (stopS P S ⟨p, a, n⟩).2 := by
 have hm := h.mlt
 have hS := Lib.hid fun w1 (f : Fr Non w w1) => state_m (h.frN f) p a n
 have hco := @stateS_co P S.mem ⟨p, a, n⟩
 obtain ⟨R, hR⟩ : ∃ R, R = stopS P S ⟨p, a, n⟩ := ⟨_, rfl⟩
 rw [← hR]
 unfold stopS at hR
 generalize stateS P S.mem ⟨p, a, n⟩ = T at *
 obtain ⟨s, ⟨xn, xr, xc, xw, xa⟩, er⟩ := T
 simp only [Cr.cs] at hS hR hco
 have HR := Lib.hid hR
 have HH := Lib.hid (And.intro h (And.intro hn (And.intro hP hco)))
 clear h hn hP hR hco
 have hcase : (er = 0 ∧ (er == 0) = true) ∨ (er ≠ 0 ∧ (er == 0) = false ∧ (er != 0) = true) := by by_cases h : er = 0 <;> simp [h]
 have hsign : (s < 0 ∧ decide (s < 0) = true) ∨ (¬ s < 0 ∧ decide (s < 0) = false) := by by_cases h : s < 0 <;> simp [h]
 go_enter Tryz.func53, Tryz.ntmps53
 go_wp2_with fail
 refine (hS.out _ (by exact (by repeat (first | exact .refl _ _ | assumption | apply Fr.drewN | apply Fr.drew | apply Fr.drewl | apply Fr.drewNl | apply Fr.alloc)))).mono ?_
 rintro e1 w1 ⟨rfl, hf⟩
 have xw' : Row w1 w.heap.size 40 [.bool p, .int .i64 a, .int .i64 n] := hf.row (by exact (Row.new' rfl : Row (w.alloc (.cells #[.bool p, .int .i64 a, .int .i64 n] 40)) w.heap.size 40 [.bool p, .int .i64 a, .int .i64 n])) id
 have hf1 : Fr Non w w1 := Fr.trans (by exact (by repeat (first | exact .refl _ _ | assumption | apply Fr.drewN | apply Fr.drew | apply Fr.drewl | apply Fr.drewNl | apply Fr.alloc))) hf
 have HF := Lib.hid hf1
 obtain ⟨q0, q1, q2, qz⟩ := row3 xw'
 have hwl := xw'.lt
 clear hf hf1 xw'
 have hfW : Fr Non w (w1.alloc (.cells #[.string xn, .int .i64 xr, .int .i64 xc, .int .i64 xw, .int .i64 xa] 87)) := HF.out.alloc _
 have HW := Lib.hid hfW
 clear hfW
 rcases hcase with ⟨rfl, he⟩ | ⟨hne, he, hen⟩
 · rcases hsign with ⟨hs, hsd⟩ | ⟨hs, hsd⟩
   · have hD := Lib.hid (freed_m (HH.out.1.frN HW.out) p a n)
     go_wp2_with fail
     refine hD.out.mono ?_
     rintro e2 w2 ⟨v, rfl, hres, haft⟩
     have HE := Lib.hid (And.intro hres haft)
     clear hres haft
     go_wp2_with fail
     go_ret
     rw [HR.out, if_neg (by simp), if_pos hs]
     exact ⟨_, rfl, HE.out.1.lo HW.out.size, HE.out.2.ahead HW.out⟩
   · have hx := HH.out.2.2.1.can _ (HH.out.2.2.2 (by simp))
     have hD := Lib.hid (push_m (HH.out.1.frN HW.out) HH.out.2.1 hx.1 hx.2 (Cl.new ⟨p, a, n⟩ 2 0 0) rfl none 0 0)
     clear hx
     go_wp2_with fail
     have hD2 := hD.out
     rw [Cl.new_lit] at hD2
     refine hD2.mono ?_
     rintro e2 w2 ⟨rfl, haft⟩
     have HE := Lib.hid haft
     clear haft hD2
     go_wp2_with fail
     go_ret
     rw [HR.out, if_neg (by simp), if_neg (by omega)]
     exact ⟨_, rfl, Or.inl ⟨rfl, rfl⟩, HE.out.ahead HW.out⟩
 · have hE := Lib.hid fun w1 => failed_r w1 er hne
   go_wp2_with fail
   refine (hE.out _).mono ?_
   rintro e2 w2 ⟨v, rfl, hres, hf2⟩
   have HE := Lib.hid (And.intro hres hf2)
   clear hres hf2
   go_wp2_with fail
   go_ret
   rw [HR.out, if_pos hne]
   exact ⟨_, rfl, HE.out.1.lo HW.out.size, HH.out.1.aftN (HW.out.trans HE.out.2)⟩

theorem frame_m (h : ML base P A w m S L) {i : Int} (h0 : 0 ≤ i) (h1 : i < P.cos.length) (hB : S.mem.blocks.length < 1000000000000) :
 Calls Tryz.prog 37 #[.pointer (some ⟨m, 0, none⟩), .int .i64 i] w fun e w' => e = .returned (.tuple #[.agg #[.bool (frameS P S.mem i).2.1.p, .int .i64 (frameS P S.mem i).2.1.a, .int .i64 (frameS P S.mem i).2.1.n], .int .i64 (frameS P S.mem i).2.2]) ∧
  (∃ A' D', ML base P A' w' m { S with mem := (frameS P S.mem i).1 } { L with Dm := D' } ∧ ∀ x, A' x → A x ∨ w.heap.size ≤ x) ∧ Fr L.Dm w w' := by
 obtain ⟨j, rfl⟩ := Int.eq_ofNat_of_zero_le h0
 have hj : j < P.cos.length := by omega
 obtain ⟨cb, o, e, hc⟩ := h.cos (by omega)
 have hg := List.getElem?_eq_getElem hj
 obtain ⟨_, _, _, g3, _⟩ := crs_get hg
 have k3 := hc _ _ g3
 have c1 := h.c1
 rw [e] at c1
 have hPc : P.co (j : Int) = P.cos[j] := by unfold Pr.co; rw [Int.toNat_natCast, List.getD_eq_getElem?_getD, hg]; rfl
 refine (frame_c c1 h.c2 (by rw [Nat.add_assoc]; exact k3.2) hj h.mem (fun x hx => h.lt _ (h.od x hx)) (fun e => (h.sep _ e).1 rfl) (fun e => by have := h.high _ (h.od _ e); have := k3.1; omega) hB P hPc).mono ?_
 rintro e1 w' ⟨h1, ⟨D', h2, h3⟩, h4⟩
 refine ⟨h1, ⟨_, D', h.upMem h4 h2 h3, fun x hx => ?_⟩, h4⟩
 rcases hx with hx | hx
 · exact Or.inl hx
 · rcases h3 x hx with e | e
   · exact Or.inl (h.od x e)
   · exact Or.inr e.1
end

end Go.Proofs.YtlbomnbpahmphaaGreat

/- Walks: the machine's 'words', an operation each. Conditions: the layout hidden; registers in range. Printed by genwords.py. -/
namespace Go.Proofs.YtlbomnbpahmphaaGreat
open Go.RowKit

section
variable {base : Nat} {P : Pr} {A : Nat → Prop} {w w' w2 : World} {m : Nat} {S : St} {L : Lay}

def WordsC (base : Nat) (P : Pr) (A : Nat → Prop) (w : World) (m : Nat) (S : St) (b : Nat) (c : Cl) (x : In) (la : Option Addr) (lc : Nat) : Prop :=
 Calls Tryz.prog 103 #[.pointer (some ⟨m, 0, none⟩), .pointer (some ⟨b, 0, none⟩), .agg #[.int .i64 x.op, .int .i64 x.a, .int .i64 x.b, .int .i64 x.c, .slice la x.l.length lc]] w fun e w' =>
  e = .returned (.int .i64 (wordsS P S.mem c x).2.2) ∧ Aft base P A w w' m ({ S with mem := (wordsS P S.mem c x).1 }.setTop (wordsS P S.mem c x).2.1)

theorem St.setTop_self {S : St} {c : Cl} {cs : List Cl} (h : S.stack = c :: cs) : S.setTop c = S := by
 obtain ⟨mem, ev, told, stack, task, fuel⟩ := S
 simp only at h
 subst h
 rfl
theorem Cl.get_frame {c : Cl} (h : c.regs.length = 16) (io : Option Addr) (ic : Nat) :
 (c.cs io ic)[50]? = some (.bool c.frame.p) ∧ (c.cs io ic)[51]? = some (.int .i64 c.frame.a) ∧ (c.cs io ic)[52]? = some (.int .i64 c.frame.n) := by
 have hf : (flat c.regs).length = 48 := by rw [flat_len, h]
 unfold Cl.cs
 refine ⟨?_, ?_, ?_⟩ <;> simp [hf, Wd.cs]
theorem moff_c (w : World) (p : Bool) (a n k : Int) : Calls Tryz.prog 74 #[.agg #[.bool p, .int .i64 a, .int .i64 n], .int .i64 k] w fun e w' =>
 e = .returned (.tuple #[.agg #[.bool (moffS ⟨p, a, n⟩ k).1.p, .int .i64 (moffS ⟨p, a, n⟩ k).1.a, .int .i64 (moffS ⟨p, a, n⟩ k).1.n], .int .i64 (moffS ⟨p, a, n⟩ k).2]) ∧ Fr Non w w' := by
 cases p with
 | false =>
  refine (Off_num w a n k).mono ?_
  rintro e w' ⟨rfl, h⟩
  exact ⟨rfl, h⟩
 | true =>
  refine (Off_ptr w a n k).mono ?_
  rintro e w' ⟨rfl, h⟩
  exact ⟨by simp [moffS, IntWalk.i64_left], h⟩
theorem ML.aftMemTop (h : ML base P A w m S L) {D' : Nat → Prop} {M' : Mem} (f : Fr L.Dm w w') (hM : MI D' w' L.mb M') (hD : ∀ b, D' b → L.Dm b ∨ (w.heap.size ≤ b ∧ b < w'.heap.size)) {b : Nat} {bs : List Nat} {c' : Cl} (hb : L.bl = b :: bs) (hc : ClAt base w2 b c') (f2 : Fr (fun x => x = b) w' w2) :
 Aft base P A w w2 m ({ S with mem := M' }.setTop c') := by
 have hbm : b ∈ L.bl := by rw [hb]; exact List.mem_cons_self
 refine ⟨_, ⟨_, (h.upMem f hM hD).upTop hb hc f2⟩, fun x hx => ?_, (f.mono fun x _ hx => h.od x hx).trans (f2.mono fun x _ hx => hx ▸ h.ob b hbm)⟩
 rcases hx with hx | hx
 · exact Or.inl hx
 · rcases hD x hx with e | e
   · exact Or.inl (h.od x e)
   · exact Or.inr e.1

set_option maxRecDepth 100000 in
set_option maxHeartbeats 1000000 in
theorem words_0 (h : ML base P A w m S L) {b : Nat} {bs : List Nat} {c : Cl} {cs : List Cl} (hb : L.bl = b :: bs) (hs : S.stack = c :: cs) {ia : Nat} (hia : ia < 16) (xb xc : Int) (l : List Int) (la : Option Addr) (lc : Nat) :
 WordsC base P A w m S b c ⟨0, ia, xb, xc, l⟩ la lc := by
 unfold WordsC
 have hR : wordsS P S.mem c ⟨0, ia, xb, xc, l⟩ = (S.mem, c.put ia (num xb), 0) := by simp [wordsS]
 rw [hR]
 clear hR
 have hm := h.mlt
 have c2 := h.c2
 obtain ⟨io, ic, hrow, hins, hreg⟩ := h.cls 0 b c (by rw [hb]; rfl) (by rw [hs]; rfl)
 have hbw := hrow.lt
 have hbl : b ∈ L.bl := by rw [hb]; exact List.mem_cons_self
 have hia0 : (0 : Int) ≤ (ia : Int) := by omega
 have hia1 : (ia : Int) < 16 := by omega
 have HH := Lib.hid (And.intro h (And.intro hb (And.intro hs (And.intro (And.intro hreg hbl) (And.intro (h.bl_m hbl) (And.intro (fun e => (h.sep m e).1 rfl : ¬ L.Dm m) (And.intro (fun e => (h.sep b e).2.2.2.2 hbl : ¬ L.Dm b) (And.intro (fun x hx => h.lt x (h.od x hx) : ∀ x, L.Dm x → x < w.heap.size) (h.high _ (h.ob _ hbl))))))))))
 clear h hb hs hrow hins hreg hbl
 go_enter Tryz.func103, Tryz.ntmps103
 go_wp2_with fail
 have hrx : Row (w.alloc (.cells #[.int .i64 0, .int .i64 ia, .int .i64 xb, .int .i64 xc, .slice la l.length lc] 128)) w.heap.size 128 [.int .i64 0, .int .i64 ia, .int .i64 xb, .int .i64 xc, .slice la l.length lc] := Row.new' rfl
 have hf0 : Fr Non w (w.alloc (.cells #[.int .i64 0, .int .i64 ia, .int .i64 xb, .int .i64 xc, .slice la l.length lc] 128)) := by exact (by repeat (first | exact .refl _ _ | assumption | apply Fr.drewN | apply Fr.drew | apply Fr.drewl | apply Fr.drewNl | apply Fr.alloc))
 have hs0 : (w.alloc (.cells #[.int .i64 0, .int .i64 ia, .int .i64 xb, .int .i64 xc, .slice la l.length lc] 128)).heap.size = w.heap.size + 1 := by simp
 have k2 := hf0.cell c2 id
 generalize w.alloc (.cells #[.int .i64 0, .int .i64 ia, .int .i64 xb, .int .i64 xc, .slice la l.length lc] 128) = W at *
 obtain ⟨x0, x1, x2, x3, x4, xz⟩ := row5 hrx
 have HW := Lib.hid (And.intro hf0 hrx)
 clear hrx hf0 c2
 have hxw : w.heap.size < W.heap.size := by omega
 have hmw : m < W.heap.size := by omega
 have hbW : b < W.heap.size := by omega
 have cW := @Mix.cls_drew W [m, b, w.heap.size]
 refine Mix.wp_region_mix [2, 4] [(0, 0), (0, 1), (1, 2), (0, 3), (1, 4), (0, 6), (0, 7), (2, 5), (0, 8), (3, 9)] (fun V => ∃ g, V = Mix.upon W [m, b, w.heap.size] g) (by kernel_rfl) (by kernel_rfl) cW ?_
 clear cW
 repeat (first | ((first | refine Mix.S_pure rfl rfl ?_ | refine Mix.S_load rfl rfl ?_); intro K hK; simp only [nA, nB, nC]; go_big_quiet_op; go_big_quiet_on) | refine Mix.S_skip0 rfl rfl ?_ | refine Mix.S_skip1 rfl rfl ?_)
 refine Mix.S_eff (o := _) rfl rfl ?_
 intro K hK
 simp only [nA, nB, nC]
 go_simp
 refine (number_c _ xb).mono ?_
 rintro e1 w1 ⟨rfl, hf⟩
 refine hK _ _ ⟨Mix.cls_fr (D := Non) hf (by simp [Non]; omega), ?_⟩
 clear hK K
 have hf1 : Fr Non w w1 := (HW.out.1.trans (Fr.trans (by exact (Fr.refl _ _).drew) hf))
 have hs1 := hf.size
 clear hf
 obtain ⟨io', ic', hrow, hins, hreg⟩ := (HH.out.1.frN hf1).cls 0 b c (by first | (show L.bl[0]? = _; rw [HH.out.2.1]; rfl)) (by show S.stack[0]? = _; rw [HH.out.2.2.1]; rfl)
 obtain ⟨u0, u1, u2⟩ := Cl.get_reg hreg io' ic' hia
 have v0 := hrow.cell u0
 have v1 := hrow.cell u1
 have v2 := hrow.cell u2
 have vz := hrow.frozen
 have HV := Lib.hid (And.intro hrow (And.intro hins hreg))
 clear hrow hins hreg u0 u1 u2
 repeat (first | ((first | refine Mix.S_pure rfl rfl ?_ | refine Mix.S_load rfl rfl ?_); intro K hK; simp only [nA, nB, nC]; go_big_quiet_op; go_big_quiet_on) | refine Mix.S_skip0 rfl rfl ?_ | refine Mix.S_skip1 rfl rfl ?_)
 refine Mix.S_late (o := _) rfl rfl ?_
 intro K hK
 simp only [nA, nB, nC]
 go_simp
 refine hK _ _ ?_
 clear hK K v0 v1 v2 vz
 repeat (first | ((first | refine Mix.S_pure rfl rfl ?_ | refine Mix.S_load rfl rfl ?_); intro K hK; simp only [nA, nB, nC]; go_big_quiet_op; go_big_quiet_on) | refine Mix.S_skip0 rfl rfl ?_ | refine Mix.S_skip1 rfl rfl ?_)
 refine Mix.S_done ?_
 go_wp2_with fail
 go_ret
 obtain ⟨hrow, hins, hreg⟩ := HV.out
 refine ⟨rfl, Aft.ahead hf1 (ML.aftTop (HH.out.1.frN hf1) HH.out.2.1 (ClAt.put hrow hins hreg hia HH.out.2.2.2.2.2.2.2.2 (num xb)) (Fr.set3 _ _ _ _ _ _ _ _))⟩

set_option maxRecDepth 100000 in
set_option maxHeartbeats 1000000 in
theorem words_1 (h : ML base P A w m S L) {b : Nat} {bs : List Nat} {c : Cl} {cs : List Cl} (hb : L.bl = b :: bs) (hs : S.stack = c :: cs) {ia : Nat} (hia : ia < 16) (xb xc : Int) (l : List Int) (la : Option Addr) (lc : Nat) :
 WordsC base P A w m S b c ⟨1, ia, xb, xc, l⟩ la lc := by
 unfold WordsC
 have hR : wordsS P S.mem c ⟨1, ia, xb, xc, l⟩ = (S.mem, c.put ia (offS c.frame xb), 0) := by simp [wordsS]
 rw [hR]
 clear hR
 have hm := h.mlt
 have c2 := h.c2
 obtain ⟨io, ic, hrow, hins, hreg⟩ := h.cls 0 b c (by rw [hb]; rfl) (by rw [hs]; rfl)
 have hbw := hrow.lt
 have hbl : b ∈ L.bl := by rw [hb]; exact List.mem_cons_self
 have hia0 : (0 : Int) ≤ (ia : Int) := by omega
 have hia1 : (ia : Int) < 16 := by omega
 obtain ⟨u0, u1, u2⟩ := Cl.get_frame hreg io ic
 have y0 := hrow.cell u0
 have y1 := hrow.cell u1
 have y2 := hrow.cell u2
 clear u0 u1 u2
 generalize hfr : c.frame = fr at *
 obtain ⟨yp, ya, yn⟩ := fr
 simp only at y0 y1 y2
 rw [offS_eq]
 have HH := Lib.hid (And.intro h (And.intro hb (And.intro hs (And.intro (And.intro hreg hbl) (And.intro (h.bl_m hbl) (And.intro (fun e => (h.sep m e).1 rfl : ¬ L.Dm m) (And.intro (fun e => (h.sep b e).2.2.2.2 hbl : ¬ L.Dm b) (And.intro (fun x hx => h.lt x (h.od x hx) : ∀ x, L.Dm x → x < w.heap.size) (h.high _ (h.ob _ hbl))))))))))
 clear h hb hs hrow hins hreg hbl
 go_enter Tryz.func103, Tryz.ntmps103
 go_wp2_with fail
 have hrx : Row (w.alloc (.cells #[.int .i64 1, .int .i64 ia, .int .i64 xb, .int .i64 xc, .slice la l.length lc] 128)) w.heap.size 128 [.int .i64 1, .int .i64 ia, .int .i64 xb, .int .i64 xc, .slice la l.length lc] := Row.new' rfl
 have hf0 : Fr Non w (w.alloc (.cells #[.int .i64 1, .int .i64 ia, .int .i64 xb, .int .i64 xc, .slice la l.length lc] 128)) := by exact (by repeat (first | exact .refl _ _ | assumption | apply Fr.drewN | apply Fr.drew | apply Fr.drewl | apply Fr.drewNl | apply Fr.alloc))
 have hs0 : (w.alloc (.cells #[.int .i64 1, .int .i64 ia, .int .i64 xb, .int .i64 xc, .slice la l.length lc] 128)).heap.size = w.heap.size + 1 := by simp
 have k2 := hf0.cell c2 id
 have yw0 := hf0.cell y0 id
 have yw1 := hf0.cell y1 id
 have yw2 := hf0.cell y2 id
 generalize w.alloc (.cells #[.int .i64 1, .int .i64 ia, .int .i64 xb, .int .i64 xc, .slice la l.length lc] 128) = W at *
 obtain ⟨x0, x1, x2, x3, x4, xz⟩ := row5 hrx
 have HW := Lib.hid (And.intro hf0 hrx)
 clear hrx hf0 c2 y0 y1 y2
 have hxw : w.heap.size < W.heap.size := by omega
 have hmw : m < W.heap.size := by omega
 have hbW : b < W.heap.size := by omega
 have cW := @Mix.cls_drew W [m, b, w.heap.size]
 refine Mix.wp_region_mix [2, 6, 8] [(0, 0), (0, 1), (1, 2), (0, 3), (0, 4), (0, 5), (1, 6), (0, 7), (1, 8), (0, 10), (0, 11), (2, 9), (0, 12), (3, 13)] (fun V => ∃ g, V = Mix.upon W [m, b, w.heap.size] g) (by kernel_rfl) (by kernel_rfl) cW ?_
 clear cW
 repeat (first | ((first | refine Mix.S_pure rfl rfl ?_ | refine Mix.S_load rfl rfl ?_); intro K hK; simp only [nA, nB, nC]; go_big_quiet_op; go_big_quiet_on) | refine Mix.S_skip0 rfl rfl ?_ | refine Mix.S_skip1 rfl rfl ?_)
 refine Mix.S_eff (o := _) rfl rfl ?_
 intro K hK
 simp only [nA, nB, nC]
 go_simp
 refine (off_c _ yp ya yn xb).mono ?_
 rintro e1 w1 ⟨rfl, hf⟩
 refine hK _ _ ⟨Mix.cls_fr (D := Non) hf (by simp [Non]; omega), ?_⟩
 clear hK K
 have hf1 : Fr Non w w1 := (HW.out.1.trans (Fr.trans (by exact (Fr.refl _ _).drew) hf))
 have hs1 := hf.size
 clear hf
 obtain ⟨io', ic', hrow, hins, hreg⟩ := (HH.out.1.frN hf1).cls 0 b c (by first | (show L.bl[0]? = _; rw [HH.out.2.1]; rfl)) (by show S.stack[0]? = _; rw [HH.out.2.2.1]; rfl)
 obtain ⟨u0, u1, u2⟩ := Cl.get_reg hreg io' ic' hia
 have v0 := hrow.cell u0
 have v1 := hrow.cell u1
 have v2 := hrow.cell u2
 have vz := hrow.frozen
 have HV := Lib.hid (And.intro hrow (And.intro hins hreg))
 clear hrow hins hreg u0 u1 u2
 repeat (first | ((first | refine Mix.S_pure rfl rfl ?_ | refine Mix.S_load rfl rfl ?_); intro K hK; simp only [nA, nB, nC]; go_big_quiet_op; go_big_quiet_on) | refine Mix.S_skip0 rfl rfl ?_ | refine Mix.S_skip1 rfl rfl ?_)
 refine Mix.S_late (o := _) rfl rfl ?_
 intro K hK
 simp only [nA, nB, nC]
 go_simp
 refine hK _ _ ?_
 clear hK K v0 v1 v2 vz
 repeat (first | ((first | refine Mix.S_pure rfl rfl ?_ | refine Mix.S_load rfl rfl ?_); intro K hK; simp only [nA, nB, nC]; go_big_quiet_op; go_big_quiet_on) | refine Mix.S_skip0 rfl rfl ?_ | refine Mix.S_skip1 rfl rfl ?_)
 refine Mix.S_done ?_
 go_wp2_with fail
 go_ret
 obtain ⟨hrow, hins, hreg⟩ := HV.out
 refine ⟨rfl, Aft.ahead hf1 (ML.aftTop (HH.out.1.frN hf1) HH.out.2.1 (ClAt.put hrow hins hreg hia HH.out.2.2.2.2.2.2.2.2 ⟨yp, ya, offn yp yn xb⟩) (Fr.set3 _ _ _ _ _ _ _ _))⟩

set_option maxRecDepth 100000 in
set_option maxHeartbeats 1000000 in
theorem words_2 (h : ML base P A w m S L) {b : Nat} {bs : List Nat} {c : Cl} {cs : List Cl} (hb : L.bl = b :: bs) (hs : S.stack = c :: cs) {ia ib : Nat} (hia : ia < 16) (hib : ib < 16) (xc : Int) (l : List Int) (la : Option Addr) (lc : Nat) :
 WordsC base P A w m S b c ⟨2, ia, ib, xc, l⟩ la lc := by
 unfold WordsC
 have hR : wordsS P S.mem c ⟨2, ia, ib, xc, l⟩ = (S.mem, c.put ia (moffS (c.reg ib) xc).1, (moffS (c.reg ib) xc).2) := by simp [wordsS]
 rw [hR]
 clear hR
 have hm := h.mlt
 have c2 := h.c2
 obtain ⟨io, ic, hrow, hins, hreg⟩ := h.cls 0 b c (by rw [hb]; rfl) (by rw [hs]; rfl)
 have hbw := hrow.lt
 have hbl : b ∈ L.bl := by rw [hb]; exact List.mem_cons_self
 have hia0 : (0 : Int) ≤ (ia : Int) := by omega
 have hia1 : (ia : Int) < 16 := by omega
 have hib0 : (0 : Int) ≤ (ib : Int) := by omega
 have hib1 : (ib : Int) < 16 := by omega
 obtain ⟨u0, u1, u2⟩ := Cl.get_reg hreg io ic hib
 have z0 := hrow.cell u0
 have z1 := hrow.cell u1
 have z2 := hrow.cell u2
 clear u0 u1 u2
 generalize c.reg (ib : Int) = rb at *
 obtain ⟨zp, za, zn⟩ := rb
 simp only at z0 z1 z2
 generalize hmo : moffS ⟨zp, za, zn⟩ xc = mo at *
 have hMo := Lib.hid fun w1 => moff_c w1 zp za zn xc
 rw [hmo] at hMo
 clear hmo
 obtain ⟨⟨tp, ta, tn⟩, er⟩ := mo
 simp only at hMo
 have HH := Lib.hid (And.intro h (And.intro hb (And.intro hs (And.intro (And.intro hreg hbl) (And.intro (h.bl_m hbl) (And.intro (fun e => (h.sep m e).1 rfl : ¬ L.Dm m) (And.intro (fun e => (h.sep b e).2.2.2.2 hbl : ¬ L.Dm b) (And.intro (fun x hx => h.lt x (h.od x hx) : ∀ x, L.Dm x → x < w.heap.size) (h.high _ (h.ob _ hbl))))))))))
 clear h hb hs hrow hins hreg hbl
 go_enter Tryz.func103, Tryz.ntmps103
 go_wp2_with fail
 have hrx : Row (w.alloc (.cells #[.int .i64 2, .int .i64 ia, .int .i64 ib, .int .i64 xc, .slice la l.length lc] 128)) w.heap.size 128 [.int .i64 2, .int .i64 ia, .int .i64 ib, .int .i64 xc, .slice la l.length lc] := Row.new' rfl
 have hf0 : Fr Non w (w.alloc (.cells #[.int .i64 2, .int .i64 ia, .int .i64 ib, .int .i64 xc, .slice la l.length lc] 128)) := by exact (by repeat (first | exact .refl _ _ | assumption | apply Fr.drewN | apply Fr.drew | apply Fr.drewl | apply Fr.drewNl | apply Fr.alloc))
 have hs0 : (w.alloc (.cells #[.int .i64 2, .int .i64 ia, .int .i64 ib, .int .i64 xc, .slice la l.length lc] 128)).heap.size = w.heap.size + 1 := by simp
 have k2 := hf0.cell c2 id
 have zw0 := hf0.cell z0 id
 have zw1 := hf0.cell z1 id
 have zw2 := hf0.cell z2 id
 generalize w.alloc (.cells #[.int .i64 2, .int .i64 ia, .int .i64 ib, .int .i64 xc, .slice la l.length lc] 128) = W at *
 obtain ⟨x0, x1, x2, x3, x4, xz⟩ := row5 hrx
 have HW := Lib.hid (And.intro hf0 hrx)
 clear hrx hf0 c2 z0 z1 z2
 have hxw : w.heap.size < W.heap.size := by omega
 have hmw : m < W.heap.size := by omega
 have hbW : b < W.heap.size := by omega
 have cW := @Mix.cls_drew W [m, b, w.heap.size]
 refine Mix.wp_region_mix [2, 5, 9, 11] [(0, 0), (0, 1), (1, 2), (0, 3), (0, 4), (1, 5), (0, 6), (0, 7), (0, 8), (1, 9), (0, 10), (1, 11), (0, 16), (0, 17), (2, 12), (0, 13), (0, 14), (0, 15), (0, 18), (3, 19), (0, 20)] (fun V => ∃ g, V = Mix.upon W [m, b, w.heap.size] g) (by kernel_rfl) (by kernel_rfl) cW ?_
 clear cW
 repeat (first | ((first | refine Mix.S_pure rfl rfl ?_ | refine Mix.S_load rfl rfl ?_); intro K hK; simp only [nA, nB, nC]; go_big_quiet_op; go_big_quiet_on) | refine Mix.S_skip0 rfl rfl ?_ | refine Mix.S_skip1 rfl rfl ?_)
 refine Mix.S_eff (o := _) rfl rfl ?_
 intro K hK
 simp only [nA, nB, nC]
 go_simp
 refine (hMo.out _).mono ?_
 rintro e1 w1 ⟨rfl, hf⟩
 refine hK _ _ ⟨Mix.cls_fr (D := Non) hf (by simp [Non]; omega), ?_⟩
 clear hK K
 have hf1 : Fr Non w w1 := (HW.out.1.trans (Fr.trans (by exact (Fr.refl _ _).drew) hf))
 have hs1 := hf.size
 clear hf
 obtain ⟨io', ic', hrow, hins, hreg⟩ := (HH.out.1.frN hf1).cls 0 b c (by first | (show L.bl[0]? = _; rw [HH.out.2.1]; rfl)) (by show S.stack[0]? = _; rw [HH.out.2.2.1]; rfl)
 obtain ⟨u0, u1, u2⟩ := Cl.get_reg hreg io' ic' hia
 have v0 := hrow.cell u0
 have v1 := hrow.cell u1
 have v2 := hrow.cell u2
 have vz := hrow.frozen
 have HV := Lib.hid (And.intro hrow (And.intro hins hreg))
 clear hrow hins hreg u0 u1 u2
 repeat (first | ((first | refine Mix.S_pure rfl rfl ?_ | refine Mix.S_load rfl rfl ?_); intro K hK; simp only [nA, nB, nC]; go_big_quiet_op; go_big_quiet_on) | refine Mix.S_skip0 rfl rfl ?_ | refine Mix.S_skip1 rfl rfl ?_)
 refine Mix.S_late (o := _) rfl rfl ?_
 intro K hK
 simp only [nA, nB, nC]
 go_simp
 refine hK _ _ ?_
 clear hK K v0 v1 v2 vz
 repeat (first | ((first | refine Mix.S_pure rfl rfl ?_ | refine Mix.S_load rfl rfl ?_); intro K hK; simp only [nA, nB, nC]; go_big_quiet_op; go_big_quiet_on) | refine Mix.S_skip0 rfl rfl ?_ | refine Mix.S_skip1 rfl rfl ?_)
 refine Mix.S_done ?_
 go_wp2_with fail
 go_ret
 obtain ⟨hrow, hins, hreg⟩ := HV.out
 refine ⟨rfl, Aft.ahead hf1 (ML.aftTop (HH.out.1.frN hf1) HH.out.2.1 (ClAt.put hrow hins hreg hia HH.out.2.2.2.2.2.2.2.2 ⟨tp, ta, tn⟩) (Fr.set3 _ _ _ _ _ _ _ _))⟩

set_option maxRecDepth 100000 in
set_option maxHeartbeats 1000000 in
theorem words_3 (h : ML base P A w m S L) {b : Nat} {bs : List Nat} {c : Cl} {cs : List Cl} (hb : L.bl = b :: bs) (hs : S.stack = c :: cs) {ia ib : Nat} (hia : ia < 16) (hib : ib < 16) (xc : Int) (l : List Int) (la : Option Addr) (lc : Nat) :
 WordsC base P A w m S b c ⟨3, ia, ib, xc, l⟩ la lc := by
 unfold WordsC
 have hR : wordsS P S.mem c ⟨3, ia, ib, xc, l⟩ = (S.mem, c.put ia (S.mem.load (c.reg ib)).1, (S.mem.load (c.reg ib)).2) := by simp [wordsS]
 rw [hR]
 clear hR
 have hm := h.mlt
 have c2 := h.c2
 obtain ⟨io, ic, hrow, hins, hreg⟩ := h.cls 0 b c (by rw [hb]; rfl) (by rw [hs]; rfl)
 have hbw := hrow.lt
 have hbl : b ∈ L.bl := by rw [hb]; exact List.mem_cons_self
 have hia0 : (0 : Int) ≤ (ia : Int) := by omega
 have hia1 : (ia : Int) < 16 := by omega
 have hib0 : (0 : Int) ≤ (ib : Int) := by omega
 have hib1 : (ib : Int) < 16 := by omega
 obtain ⟨u0, u1, u2⟩ := Cl.get_reg hreg io ic hib
 have z0 := hrow.cell u0
 have z1 := hrow.cell u1
 have z2 := hrow.cell u2
 clear u0 u1 u2
 generalize c.reg (ib : Int) = rb at *
 obtain ⟨zp, za, zn⟩ := rb
 simp only at z0 z1 z2
 have hMo := Lib.hid fun w1 (f : Fr Non w w1) => load_i (h.mem.frN f) zp za zn
 generalize S.mem.load ⟨zp, za, zn⟩ = mo at *
 obtain ⟨⟨tp, ta, tn⟩, er⟩ := mo
 simp only at hMo
 have HH := Lib.hid (And.intro h (And.intro hb (And.intro hs (And.intro (And.intro hreg hbl) (And.intro (h.bl_m hbl) (And.intro (fun e => (h.sep m e).1 rfl : ¬ L.Dm m) (And.intro (fun e => (h.sep b e).2.2.2.2 hbl : ¬ L.Dm b) (And.intro (fun x hx => h.lt x (h.od x hx) : ∀ x, L.Dm x → x < w.heap.size) (h.high _ (h.ob _ hbl))))))))))
 clear h hb hs hrow hins hreg hbl
 go_enter Tryz.func103, Tryz.ntmps103
 go_wp2_with fail
 have hrx : Row (w.alloc (.cells #[.int .i64 3, .int .i64 ia, .int .i64 ib, .int .i64 xc, .slice la l.length lc] 128)) w.heap.size 128 [.int .i64 3, .int .i64 ia, .int .i64 ib, .int .i64 xc, .slice la l.length lc] := Row.new' rfl
 have hf0 : Fr Non w (w.alloc (.cells #[.int .i64 3, .int .i64 ia, .int .i64 ib, .int .i64 xc, .slice la l.length lc] 128)) := by exact (by repeat (first | exact .refl _ _ | assumption | apply Fr.drewN | apply Fr.drew | apply Fr.drewl | apply Fr.drewNl | apply Fr.alloc))
 have hs0 : (w.alloc (.cells #[.int .i64 3, .int .i64 ia, .int .i64 ib, .int .i64 xc, .slice la l.length lc] 128)).heap.size = w.heap.size + 1 := by simp
 have k2 := hf0.cell c2 id
 have zw0 := hf0.cell z0 id
 have zw1 := hf0.cell z1 id
 have zw2 := hf0.cell z2 id
 generalize w.alloc (.cells #[.int .i64 3, .int .i64 ia, .int .i64 ib, .int .i64 xc, .slice la l.length lc] 128) = W at *
 obtain ⟨x0, x1, x2, x3, x4, xz⟩ := row5 hrx
 have HW := Lib.hid (And.intro hf0 hrx)
 clear hrx hf0 c2 z0 z1 z2
 have hxw : w.heap.size < W.heap.size := by omega
 have hmw : m < W.heap.size := by omega
 have hbW : b < W.heap.size := by omega
 have cW := @Mix.cls_drew W [m, b, w.heap.size]
 refine Mix.wp_region_mix [2, 6, 9, 13] [(0, 0), (0, 1), (1, 2), (0, 3), (0, 4), (0, 5), (1, 6), (0, 7), (0, 8), (1, 9), (0, 10), (0, 11), (0, 12), (1, 13), (0, 18), (0, 19), (2, 14), (0, 15), (0, 16), (0, 17), (0, 20), (3, 21), (0, 22)] (fun V => ∃ g, V = Mix.upon W [m, b, w.heap.size] g) (by kernel_rfl) (by kernel_rfl) cW ?_
 clear cW
 repeat (first | ((first | refine Mix.S_pure rfl rfl ?_ | refine Mix.S_load rfl rfl ?_); intro K hK; simp only [nA, nB, nC]; go_big_quiet_op; go_big_quiet_on) | refine Mix.S_skip0 rfl rfl ?_ | refine Mix.S_skip1 rfl rfl ?_)
 refine Mix.S_eff (o := _) rfl rfl ?_
 intro K hK
 simp only [nA, nB, nC]
 go_simp
 refine (hMo.out _ (by exact HW.out.1.drew)).mono ?_
 rintro e1 w1 ⟨rfl, hf⟩
 refine hK _ _ ⟨Mix.cls_fr (D := Non) hf (by simp [Non]; omega), ?_⟩
 clear hK K
 have hf1 : Fr Non w w1 := (HW.out.1.trans (Fr.trans (by exact (Fr.refl _ _).drew) hf))
 have hs1 := hf.size
 clear hf
 obtain ⟨io', ic', hrow, hins, hreg⟩ := (HH.out.1.frN hf1).cls 0 b c (by first | (show L.bl[0]? = _; rw [HH.out.2.1]; rfl)) (by show S.stack[0]? = _; rw [HH.out.2.2.1]; rfl)
 obtain ⟨u0, u1, u2⟩ := Cl.get_reg hreg io' ic' hia
 have v0 := hrow.cell u0
 have v1 := hrow.cell u1
 have v2 := hrow.cell u2
 have vz := hrow.frozen
 have HV := Lib.hid (And.intro hrow (And.intro hins hreg))
 clear hrow hins hreg u0 u1 u2
 repeat (first | ((first | refine Mix.S_pure rfl rfl ?_ | refine Mix.S_load rfl rfl ?_); intro K hK; simp only [nA, nB, nC]; go_big_quiet_op; go_big_quiet_on) | refine Mix.S_skip0 rfl rfl ?_ | refine Mix.S_skip1 rfl rfl ?_)
 refine Mix.S_late (o := _) rfl rfl ?_
 intro K hK
 simp only [nA, nB, nC]
 go_simp
 refine hK _ _ ?_
 clear hK K v0 v1 v2 vz
 repeat (first | ((first | refine Mix.S_pure rfl rfl ?_ | refine Mix.S_load rfl rfl ?_); intro K hK; simp only [nA, nB, nC]; go_big_quiet_op; go_big_quiet_on) | refine Mix.S_skip0 rfl rfl ?_ | refine Mix.S_skip1 rfl rfl ?_)
 refine Mix.S_done ?_
 go_wp2_with fail
 go_ret
 obtain ⟨hrow, hins, hreg⟩ := HV.out
 refine ⟨rfl, Aft.ahead hf1 (ML.aftTop (HH.out.1.frN hf1) HH.out.2.1 (ClAt.put hrow hins hreg hia HH.out.2.2.2.2.2.2.2.2 ⟨tp, ta, tn⟩) (Fr.set3 _ _ _ _ _ _ _ _))⟩

set_option maxRecDepth 100000 in
set_option maxHeartbeats 1000000 in
theorem words_4 (h : ML base P A w m S L) {b : Nat} {bs : List Nat} {c : Cl} {cs : List Cl} (hb : L.bl = b :: bs) (hs : S.stack = c :: cs) {ia ib : Nat} (hia : ia < 16) (hib : ib < 16) (xc : Int) (l : List Int) (la : Option Addr) (lc : Nat) :
 WordsC base P A w m S b c ⟨4, ia, ib, xc, l⟩ la lc := by
 unfold WordsC
 have hR : wordsS P S.mem c ⟨4, ia, ib, xc, l⟩ = ((S.mem.store (c.reg ia) (c.reg ib)).1, c, (S.mem.store (c.reg ia) (c.reg ib)).2) := by simp [wordsS]
 rw [hR]
 clear hR
 have hm := h.mlt
 have c2 := h.c2
 obtain ⟨io, ic, hrow, hins, hreg⟩ := h.cls 0 b c (by rw [hb]; rfl) (by rw [hs]; rfl)
 have hbw := hrow.lt
 have hbl : b ∈ L.bl := by rw [hb]; exact List.mem_cons_self
 have hia0 : (0 : Int) ≤ (ia : Int) := by omega
 have hia1 : (ia : Int) < 16 := by omega
 have hib0 : (0 : Int) ≤ (ib : Int) := by omega
 have hib1 : (ib : Int) < 16 := by omega
 obtain ⟨u0, u1, u2⟩ := Cl.get_reg hreg io ic hia
 have y0 := hrow.cell u0
 have y1 := hrow.cell u1
 have y2 := hrow.cell u2
 clear u0 u1 u2
 obtain ⟨u0, u1, u2⟩ := Cl.get_reg hreg io ic hib
 have z0 := hrow.cell u0
 have z1 := hrow.cell u1
 have z2 := hrow.cell u2
 clear u0 u1 u2
 generalize hra : c.reg (ia : Int) = ra at y0 y1 y2 ⊢
 obtain ⟨yp, ya, yn⟩ := ra
 simp only at y0 y1 y2
 generalize hrb : c.reg (ib : Int) = rb at z0 z1 z2 ⊢
 obtain ⟨zp, za, zn⟩ := rb
 simp only at z0 z1 z2
 have hMo := Lib.hid fun w1 (f : Fr Non w w1) => store_i (h.mem.frN f) yp ya yn zp za zn
 generalize S.mem.store ⟨yp, ya, yn⟩ ⟨zp, za, zn⟩ = mo at *
 obtain ⟨M', er⟩ := mo
 simp only at hMo
 have HH := Lib.hid (And.intro h (And.intro hb (And.intro hs (And.intro (And.intro hreg hbl) (And.intro (h.bl_m hbl) (And.intro (fun e => (h.sep m e).1 rfl : ¬ L.Dm m) (And.intro (fun e => (h.sep b e).2.2.2.2 hbl : ¬ L.Dm b) (And.intro (fun x hx => h.lt x (h.od x hx) : ∀ x, L.Dm x → x < w.heap.size) (h.high _ (h.ob _ hbl))))))))))
 clear h hb hs hrow hins hreg hbl
 go_enter Tryz.func103, Tryz.ntmps103
 go_wp2_with fail
 have hrx : Row (w.alloc (.cells #[.int .i64 4, .int .i64 ia, .int .i64 ib, .int .i64 xc, .slice la l.length lc] 128)) w.heap.size 128 [.int .i64 4, .int .i64 ia, .int .i64 ib, .int .i64 xc, .slice la l.length lc] := Row.new' rfl
 have hf0 : Fr Non w (w.alloc (.cells #[.int .i64 4, .int .i64 ia, .int .i64 ib, .int .i64 xc, .slice la l.length lc] 128)) := by exact (by repeat (first | exact .refl _ _ | assumption | apply Fr.drewN | apply Fr.drew | apply Fr.drewl | apply Fr.drewNl | apply Fr.alloc))
 have hs0 : (w.alloc (.cells #[.int .i64 4, .int .i64 ia, .int .i64 ib, .int .i64 xc, .slice la l.length lc] 128)).heap.size = w.heap.size + 1 := by simp
 have k2 := hf0.cell c2 id
 have yw0 := hf0.cell y0 id
 have yw1 := hf0.cell y1 id
 have yw2 := hf0.cell y2 id
 have zw0 := hf0.cell z0 id
 have zw1 := hf0.cell z1 id
 have zw2 := hf0.cell z2 id
 generalize w.alloc (.cells #[.int .i64 4, .int .i64 ia, .int .i64 ib, .int .i64 xc, .slice la l.length lc] 128) = W at *
 obtain ⟨x0, x1, x2, x3, x4, xz⟩ := row5 hrx
 have HW := Lib.hid (And.intro hf0 hrx)
 clear hrx hf0 c2 y0 y1 y2 z0 z1 z2
 have hxw : w.heap.size < W.heap.size := by omega
 have hmw : m < W.heap.size := by omega
 have hbW : b < W.heap.size := by omega
 have cW := @Mix.cls_drew W [m, b, w.heap.size]
 refine Mix.wp_region_mix [3, 6, 10, 13, 17] [(0, 0), (0, 1), (0, 2), (1, 3), (0, 4), (0, 5), (1, 6), (0, 7), (0, 8), (0, 9), (1, 10), (0, 11), (0, 12), (1, 13), (0, 14), (0, 15), (0, 16), (1, 17), (2, 18), (0, 19)] (fun V => ∃ g, V = Mix.upon W [m, b, w.heap.size] g) (by kernel_rfl) (by kernel_rfl) cW ?_
 clear cW
 repeat (first | ((first | refine Mix.S_pure rfl rfl ?_ | refine Mix.S_load rfl rfl ?_); intro K hK; simp only [nA, nB, nC]; go_big_quiet_op; go_big_quiet_on) | refine Mix.S_skip0 rfl rfl ?_ | refine Mix.S_skip1 rfl rfl ?_)
 refine Mix.S_eff (o := _) rfl rfl ?_
 intro K hK
 simp only [nA, nB, nC]
 go_simp
 refine (hMo.out _ (by exact HW.out.1.drew)).mono ?_
 rintro e1 w1 ⟨rfl, hM, hf⟩
 refine hK _ _ ⟨Mix.cls_fr (D := L.Dm) hf (by simp; exact ⟨⟨by omega, HH.out.2.2.2.2.2.1⟩, ⟨by omega, HH.out.2.2.2.2.2.2.1⟩, by omega, fun e => by have := HH.out.2.2.2.2.2.2.2.1 _ e; omega⟩), ?_⟩
 clear hK K
 have hf1 : Fr L.Dm W w1 := Fr.trans (by exact (Fr.refl _ _).drew) hf
 have hs1 := hf1.size
 have HU := Lib.hid (And.intro hM hf1)
 clear hf hf1 hM
 repeat (first | ((first | refine Mix.S_pure rfl rfl ?_ | refine Mix.S_load rfl rfl ?_); intro K hK; simp only [nA, nB, nC]; go_big_quiet_op; go_big_quiet_on) | refine Mix.S_skip0 rfl rfl ?_ | refine Mix.S_skip1 rfl rfl ?_)
 refine Mix.S_done ?_
 go_wp2_with fail
 go_ret
 refine ⟨rfl, Aft.ahead HW.out.1 ?_⟩
 rw [St.setTop_self (c := c) (cs := cs) (by exact HH.out.2.2.1)]
 exact (HH.out.1.frN HW.out.1).aftMem HU.out.2 HU.out.1 (fun b hb => Or.inl hb)

set_option maxRecDepth 100000 in
set_option maxHeartbeats 1000000 in
theorem words_5 (h : ML base P A w m S L) {b : Nat} {bs : List Nat} {c : Cl} {cs : List Cl} (hb : L.bl = b :: bs) (hs : S.stack = c :: cs) {ia ib : Nat} (hia : ia < 16) (hib : ib < 16) (xc : Int) (l : List Int) (la : Option Addr) (lc : Nat) :
 WordsC base P A w m S b c ⟨5, ia, ib, xc, l⟩ la lc := by
 unfold WordsC
 have hR : wordsS P S.mem c ⟨5, ia, ib, xc, l⟩ = ((S.mem.copy (c.reg ia) (c.reg ib) xc).1, c, (S.mem.copy (c.reg ia) (c.reg ib) xc).2) := by simp [wordsS]
 rw [hR]
 clear hR
 have hm := h.mlt
 have c2 := h.c2
 obtain ⟨io, ic, hrow, hins, hreg⟩ := h.cls 0 b c (by rw [hb]; rfl) (by rw [hs]; rfl)
 have hbw := hrow.lt
 have hbl : b ∈ L.bl := by rw [hb]; exact List.mem_cons_self
 have hia0 : (0 : Int) ≤ (ia : Int) := by omega
 have hia1 : (ia : Int) < 16 := by omega
 have hib0 : (0 : Int) ≤ (ib : Int) := by omega
 have hib1 : (ib : Int) < 16 := by omega
 obtain ⟨u0, u1, u2⟩ := Cl.get_reg hreg io ic hia
 have y0 := hrow.cell u0
 have y1 := hrow.cell u1
 have y2 := hrow.cell u2
 clear u0 u1 u2
 obtain ⟨u0, u1, u2⟩ := Cl.get_reg hreg io ic hib
 have z0 := hrow.cell u0
 have z1 := hrow.cell u1
 have z2 := hrow.cell u2
 clear u0 u1 u2
 generalize hra : c.reg (ia : Int) = ra at y0 y1 y2 ⊢
 obtain ⟨yp, ya, yn⟩ := ra
 simp only at y0 y1 y2
 generalize hrb : c.reg (ib : Int) = rb at z0 z1 z2 ⊢
 obtain ⟨zp, za, zn⟩ := rb
 simp only at z0 z1 z2
 have hMo := Lib.hid fun w1 (f : Fr Non w w1) => copy_i (h.mem.frN f) yp ya yn zp za zn xc
 generalize S.mem.copy ⟨yp, ya, yn⟩ ⟨zp, za, zn⟩ xc = mo at *
 obtain ⟨M', er⟩ := mo
 simp only at hMo
 have HH := Lib.hid (And.intro h (And.intro hb (And.intro hs (And.intro (And.intro hreg hbl) (And.intro (h.bl_m hbl) (And.intro (fun e => (h.sep m e).1 rfl : ¬ L.Dm m) (And.intro (fun e => (h.sep b e).2.2.2.2 hbl : ¬ L.Dm b) (And.intro (fun x hx => h.lt x (h.od x hx) : ∀ x, L.Dm x → x < w.heap.size) (h.high _ (h.ob _ hbl))))))))))
 clear h hb hs hrow hins hreg hbl
 go_enter Tryz.func103, Tryz.ntmps103
 go_wp2_with fail
 have hrx : Row (w.alloc (.cells #[.int .i64 5, .int .i64 ia, .int .i64 ib, .int .i64 xc, .slice la l.length lc] 128)) w.heap.size 128 [.int .i64 5, .int .i64 ia, .int .i64 ib, .int .i64 xc, .slice la l.length lc] := Row.new' rfl
 have hf0 : Fr Non w (w.alloc (.cells #[.int .i64 5, .int .i64 ia, .int .i64 ib, .int .i64 xc, .slice la l.length lc] 128)) := by exact (by repeat (first | exact .refl _ _ | assumption | apply Fr.drewN | apply Fr.drew | apply Fr.drewl | apply Fr.drewNl | apply Fr.alloc))
 have hs0 : (w.alloc (.cells #[.int .i64 5, .int .i64 ia, .int .i64 ib, .int .i64 xc, .slice la l.length lc] 128)).heap.size = w.heap.size + 1 := by simp
 have k2 := hf0.cell c2 id
 have yw0 := hf0.cell y0 id
 have yw1 := hf0.cell y1 id
 have yw2 := hf0.cell y2 id
 have zw0 := hf0.cell z0 id
 have zw1 := hf0.cell z1 id
 have zw2 := hf0.cell z2 id
 generalize w.alloc (.cells #[.int .i64 5, .int .i64 ia, .int .i64 ib, .int .i64 xc, .slice la l.length lc] 128) = W at *
 obtain ⟨x0, x1, x2, x3, x4, xz⟩ := row5 hrx
 have HW := Lib.hid (And.intro hf0 hrx)
 clear hrx hf0 c2 y0 y1 y2 z0 z1 z2
 have hxw : w.heap.size < W.heap.size := by omega
 have hmw : m < W.heap.size := by omega
 have hbW : b < W.heap.size := by omega
 have cW := @Mix.cls_drew W [m, b, w.heap.size]
 refine Mix.wp_region_mix [3, 6, 10, 13, 17, 19] [(0, 0), (0, 1), (0, 2), (1, 3), (0, 4), (0, 5), (1, 6), (0, 7), (0, 8), (0, 9), (1, 10), (0, 11), (0, 12), (1, 13), (0, 14), (0, 15), (0, 16), (1, 17), (0, 18), (1, 19), (2, 20), (0, 21)] (fun V => ∃ g, V = Mix.upon W [m, b, w.heap.size] g) (by kernel_rfl) (by kernel_rfl) cW ?_
 clear cW
 repeat (first | ((first | refine Mix.S_pure rfl rfl ?_ | refine Mix.S_load rfl rfl ?_); intro K hK; simp only [nA, nB, nC]; go_big_quiet_op; go_big_quiet_on) | refine Mix.S_skip0 rfl rfl ?_ | refine Mix.S_skip1 rfl rfl ?_)
 refine Mix.S_eff (o := _) rfl rfl ?_
 intro K hK
 simp only [nA, nB, nC]
 go_simp
 refine (hMo.out _ (by exact HW.out.1.drew)).mono ?_
 rintro e1 w1 ⟨rfl, hM, hf⟩
 refine hK _ _ ⟨Mix.cls_fr (D := L.Dm) hf (by simp; exact ⟨⟨by omega, HH.out.2.2.2.2.2.1⟩, ⟨by omega, HH.out.2.2.2.2.2.2.1⟩, by omega, fun e => by have := HH.out.2.2.2.2.2.2.2.1 _ e; omega⟩), ?_⟩
 clear hK K
 have hf1 : Fr L.Dm W w1 := Fr.trans (by exact (Fr.refl _ _).drew) hf
 have hs1 := hf1.size
 have HU := Lib.hid (And.intro hM hf1)
 clear hf hf1 hM
 repeat (first | ((first | refine Mix.S_pure rfl rfl ?_ | refine Mix.S_load rfl rfl ?_); intro K hK; simp only [nA, nB, nC]; go_big_quiet_op; go_big_quiet_on) | refine Mix.S_skip0 rfl rfl ?_ | refine Mix.S_skip1 rfl rfl ?_)
 refine Mix.S_done ?_
 go_wp2_with fail
 go_ret
 refine ⟨rfl, Aft.ahead HW.out.1 ?_⟩
 rw [St.setTop_self (c := c) (cs := cs) (by exact HH.out.2.2.1)]
 exact (HH.out.1.frN HW.out.1).aftMem HU.out.2 HU.out.1 (fun b hb => Or.inl hb)

set_option maxRecDepth 100000 in
set_option maxHeartbeats 1000000 in
theorem words_7 (h : ML base P A w m S L) {b : Nat} {bs : List Nat} {c : Cl} {cs : List Cl} (hb : L.bl = b :: bs) (hs : S.stack = c :: cs) {ia : Nat} (hia : ia < 16) (xb xc : Int) (l : List Int) (la : Option Addr) (lc : Nat) :
 WordsC base P A w m S b c ⟨7, ia, xb, xc, l⟩ la lc := by
 unfold WordsC
 have hR : wordsS P S.mem c ⟨7, ia, xb, xc, l⟩ = ((S.mem.clear (c.reg ia) xc).1, c, (S.mem.clear (c.reg ia) xc).2) := by simp [wordsS]
 rw [hR]
 clear hR
 have hm := h.mlt
 have c2 := h.c2
 obtain ⟨io, ic, hrow, hins, hreg⟩ := h.cls 0 b c (by rw [hb]; rfl) (by rw [hs]; rfl)
 have hbw := hrow.lt
 have hbl : b ∈ L.bl := by rw [hb]; exact List.mem_cons_self
 have hia0 : (0 : Int) ≤ (ia : Int) := by omega
 have hia1 : (ia : Int) < 16 := by omega
 obtain ⟨u0, u1, u2⟩ := Cl.get_reg hreg io ic hia
 have y0 := hrow.cell u0
 have y1 := hrow.cell u1
 have y2 := hrow.cell u2
 clear u0 u1 u2
 generalize c.reg (ia : Int) = ra at *
 obtain ⟨yp, ya, yn⟩ := ra
 simp only at y0 y1 y2
 have hMo := Lib.hid fun w1 (f : Fr Non w w1) => clear_i (h.mem.frN f) yp ya yn xc
 generalize S.mem.clear ⟨yp, ya, yn⟩ xc = mo at *
 obtain ⟨M', er⟩ := mo
 simp only at hMo
 have HH := Lib.hid (And.intro h (And.intro hb (And.intro hs (And.intro (And.intro hreg hbl) (And.intro (h.bl_m hbl) (And.intro (fun e => (h.sep m e).1 rfl : ¬ L.Dm m) (And.intro (fun e => (h.sep b e).2.2.2.2 hbl : ¬ L.Dm b) (And.intro (fun x hx => h.lt x (h.od x hx) : ∀ x, L.Dm x → x < w.heap.size) (h.high _ (h.ob _ hbl))))))))))
 clear h hb hs hrow hins hreg hbl
 go_enter Tryz.func103, Tryz.ntmps103
 go_wp2_with fail
 have hrx : Row (w.alloc (.cells #[.int .i64 7, .int .i64 ia, .int .i64 xb, .int .i64 xc, .slice la l.length lc] 128)) w.heap.size 128 [.int .i64 7, .int .i64 ia, .int .i64 xb, .int .i64 xc, .slice la l.length lc] := Row.new' rfl
 have hf0 : Fr Non w (w.alloc (.cells #[.int .i64 7, .int .i64 ia, .int .i64 xb, .int .i64 xc, .slice la l.length lc] 128)) := by exact (by repeat (first | exact .refl _ _ | assumption | apply Fr.drewN | apply Fr.drew | apply Fr.drewl | apply Fr.drewNl | apply Fr.alloc))
 have hs0 : (w.alloc (.cells #[.int .i64 7, .int .i64 ia, .int .i64 xb, .int .i64 xc, .slice la l.length lc] 128)).heap.size = w.heap.size + 1 := by simp
 have k2 := hf0.cell c2 id
 have yw0 := hf0.cell y0 id
 have yw1 := hf0.cell y1 id
 have yw2 := hf0.cell y2 id
 generalize w.alloc (.cells #[.int .i64 7, .int .i64 ia, .int .i64 xb, .int .i64 xc, .slice la l.length lc] 128) = W at *
 obtain ⟨x0, x1, x2, x3, x4, xz⟩ := row5 hrx
 have HW := Lib.hid (And.intro hf0 hrx)
 clear hrx hf0 c2 y0 y1 y2
 have hxw : w.heap.size < W.heap.size := by omega
 have hmw : m < W.heap.size := by omega
 have hbW : b < W.heap.size := by omega
 have cW := @Mix.cls_drew W [m, b, w.heap.size]
 refine Mix.wp_region_mix [3, 6, 10, 12] [(0, 0), (0, 1), (0, 2), (1, 3), (0, 4), (0, 5), (1, 6), (0, 7), (0, 8), (0, 9), (1, 10), (0, 11), (1, 12), (2, 13), (0, 14)] (fun V => ∃ g, V = Mix.upon W [m, b, w.heap.size] g) (by kernel_rfl) (by kernel_rfl) cW ?_
 clear cW
 repeat (first | ((first | refine Mix.S_pure rfl rfl ?_ | refine Mix.S_load rfl rfl ?_); intro K hK; simp only [nA, nB, nC]; go_big_quiet_op; go_big_quiet_on) | refine Mix.S_skip0 rfl rfl ?_ | refine Mix.S_skip1 rfl rfl ?_)
 refine Mix.S_eff (o := _) rfl rfl ?_
 intro K hK
 simp only [nA, nB, nC]
 go_simp
 refine (hMo.out _ (by exact HW.out.1.drew)).mono ?_
 rintro e1 w1 ⟨rfl, hM, hf⟩
 refine hK _ _ ⟨Mix.cls_fr (D := L.Dm) hf (by simp; exact ⟨⟨by omega, HH.out.2.2.2.2.2.1⟩, ⟨by omega, HH.out.2.2.2.2.2.2.1⟩, by omega, fun e => by have := HH.out.2.2.2.2.2.2.2.1 _ e; omega⟩), ?_⟩
 clear hK K
 have hf1 : Fr L.Dm W w1 := Fr.trans (by exact (Fr.refl _ _).drew) hf
 have hs1 := hf1.size
 have HU := Lib.hid (And.intro hM hf1)
 clear hf hf1 hM
 repeat (first | ((first | refine Mix.S_pure rfl rfl ?_ | refine Mix.S_load rfl rfl ?_); intro K hK; simp only [nA, nB, nC]; go_big_quiet_op; go_big_quiet_on) | refine Mix.S_skip0 rfl rfl ?_ | refine Mix.S_skip1 rfl rfl ?_)
 refine Mix.S_done ?_
 go_wp2_with fail
 go_ret
 refine ⟨rfl, Aft.ahead HW.out.1 ?_⟩
 rw [St.setTop_self (c := c) (cs := cs) (by exact HH.out.2.2.1)]
 exact (HH.out.1.frN HW.out.1).aftMem HU.out.2 HU.out.1 (fun b hb => Or.inl hb)

set_option maxRecDepth 100000 in
set_option maxHeartbeats 1000000 in
theorem words_17 (h : ML base P A w m S L) {b : Nat} {bs : List Nat} {c : Cl} {cs : List Cl} (hb : L.bl = b :: bs) (hs : S.stack = c :: cs) {ia : Nat} (hia : ia < 16) (xb xc : Int) (l : List Int) (la : Option Addr) (lc : Nat) :
 WordsC base P A w m S b c ⟨17, ia, xb, xc, l⟩ la lc := by
 unfold WordsC
 have hR : wordsS P S.mem c ⟨17, ia, xb, xc, l⟩ = ((S.mem.free (c.reg ia)).1, c, (S.mem.free (c.reg ia)).2) := by simp [wordsS]
 rw [hR]
 clear hR
 have hm := h.mlt
 have c2 := h.c2
 obtain ⟨io, ic, hrow, hins, hreg⟩ := h.cls 0 b c (by rw [hb]; rfl) (by rw [hs]; rfl)
 have hbw := hrow.lt
 have hbl : b ∈ L.bl := by rw [hb]; exact List.mem_cons_self
 have hia0 : (0 : Int) ≤ (ia : Int) := by omega
 have hia1 : (ia : Int) < 16 := by omega
 obtain ⟨u0, u1, u2⟩ := Cl.get_reg hreg io ic hia
 have y0 := hrow.cell u0
 have y1 := hrow.cell u1
 have y2 := hrow.cell u2
 clear u0 u1 u2
 generalize c.reg (ia : Int) = ra at *
 obtain ⟨yp, ya, yn⟩ := ra
 simp only at y0 y1 y2
 have hMo := Lib.hid fun w1 (f : Fr Non w w1) => free_i (h.mem.frN f) yp ya yn
 generalize S.mem.free ⟨yp, ya, yn⟩ = mo at *
 obtain ⟨M', er⟩ := mo
 simp only at hMo
 have HH := Lib.hid (And.intro h (And.intro hb (And.intro hs (And.intro (And.intro hreg hbl) (And.intro (h.bl_m hbl) (And.intro (fun e => (h.sep m e).1 rfl : ¬ L.Dm m) (And.intro (fun e => (h.sep b e).2.2.2.2 hbl : ¬ L.Dm b) (And.intro (fun x hx => h.lt x (h.od x hx) : ∀ x, L.Dm x → x < w.heap.size) (h.high _ (h.ob _ hbl))))))))))
 clear h hb hs hrow hins hreg hbl
 go_enter Tryz.func103, Tryz.ntmps103
 go_wp2_with fail
 have hrx : Row (w.alloc (.cells #[.int .i64 17, .int .i64 ia, .int .i64 xb, .int .i64 xc, .slice la l.length lc] 128)) w.heap.size 128 [.int .i64 17, .int .i64 ia, .int .i64 xb, .int .i64 xc, .slice la l.length lc] := Row.new' rfl
 have hf0 : Fr Non w (w.alloc (.cells #[.int .i64 17, .int .i64 ia, .int .i64 xb, .int .i64 xc, .slice la l.length lc] 128)) := by exact (by repeat (first | exact .refl _ _ | assumption | apply Fr.drewN | apply Fr.drew | apply Fr.drewl | apply Fr.drewNl | apply Fr.alloc))
 have hs0 : (w.alloc (.cells #[.int .i64 17, .int .i64 ia, .int .i64 xb, .int .i64 xc, .slice la l.length lc] 128)).heap.size = w.heap.size + 1 := by simp
 have k2 := hf0.cell c2 id
 have yw0 := hf0.cell y0 id
 have yw1 := hf0.cell y1 id
 have yw2 := hf0.cell y2 id
 generalize w.alloc (.cells #[.int .i64 17, .int .i64 ia, .int .i64 xb, .int .i64 xc, .slice la l.length lc] 128) = W at *
 obtain ⟨x0, x1, x2, x3, x4, xz⟩ := row5 hrx
 have HW := Lib.hid (And.intro hf0 hrx)
 clear hrx hf0 c2 y0 y1 y2
 have hxw : w.heap.size < W.heap.size := by omega
 have hmw : m < W.heap.size := by omega
 have hbW : b < W.heap.size := by omega
 have cW := @Mix.cls_drew W [m, b, w.heap.size]
 refine Mix.wp_region_mix [3, 6, 10] [(0, 0), (0, 1), (0, 2), (1, 3), (0, 4), (0, 5), (1, 6), (0, 7), (0, 8), (0, 9), (1, 10), (2, 11), (0, 12)] (fun V => ∃ g, V = Mix.upon W [m, b, w.heap.size] g) (by kernel_rfl) (by kernel_rfl) cW ?_
 clear cW
 repeat (first | ((first | refine Mix.S_pure rfl rfl ?_ | refine Mix.S_load rfl rfl ?_); intro K hK; simp only [nA, nB, nC]; go_big_quiet_op; go_big_quiet_on) | refine Mix.S_skip0 rfl rfl ?_ | refine Mix.S_skip1 rfl rfl ?_)
 refine Mix.S_eff (o := _) rfl rfl ?_
 intro K hK
 simp only [nA, nB, nC]
 go_simp
 refine (hMo.out _ (by exact HW.out.1.drew)).mono ?_
 rintro e1 w1 ⟨rfl, hM, hf⟩
 refine hK _ _ ⟨Mix.cls_fr (D := L.Dm) hf (by simp; exact ⟨⟨by omega, HH.out.2.2.2.2.2.1⟩, ⟨by omega, HH.out.2.2.2.2.2.2.1⟩, by omega, fun e => by have := HH.out.2.2.2.2.2.2.2.1 _ e; omega⟩), ?_⟩
 clear hK K
 have hf1 : Fr L.Dm W w1 := Fr.trans (by exact (Fr.refl _ _).drew) hf
 have hs1 := hf1.size
 have HU := Lib.hid (And.intro hM hf1)
 clear hf hf1 hM
 repeat (first | ((first | refine Mix.S_pure rfl rfl ?_ | refine Mix.S_load rfl rfl ?_); intro K hK; simp only [nA, nB, nC]; go_big_quiet_op; go_big_quiet_on) | refine Mix.S_skip0 rfl rfl ?_ | refine Mix.S_skip1 rfl rfl ?_)
 refine Mix.S_done ?_
 go_wp2_with fail
 go_ret
 refine ⟨rfl, Aft.ahead HW.out.1 ?_⟩
 rw [St.setTop_self (c := c) (cs := cs) (by exact HH.out.2.2.1)]
 exact (HH.out.1.frN HW.out.1).aftMem HU.out.2 HU.out.1 (fun b hb => Or.inl hb)

set_option maxRecDepth 100000 in
set_option maxHeartbeats 1000000 in
theorem words_16 (h : ML base P A w m S L) {b : Nat} {bs : List Nat} {c : Cl} {cs : List Cl} (hb : L.bl = b :: bs) (hs : S.stack = c :: cs) {ia : Nat} (hia : ia < 16) (hB : S.mem.blocks.length < 1000000000000) (xb xc : Int) (l : List Int) (la : Option Addr) (lc : Nat) :
 WordsC base P A w m S b c ⟨16, ia, xb, xc, l⟩ la lc := by
 unfold WordsC
 have hR : wordsS P S.mem c ⟨16, ia, xb, xc, l⟩ = ((S.mem.alloc xc).1, c.put ia (S.mem.alloc xc).2.1, (S.mem.alloc xc).2.2) := by simp [wordsS]
 rw [hR]
 clear hR
 have hm := h.mlt
 have c2 := h.c2
 obtain ⟨io, ic, hrow, hins, hreg⟩ := h.cls 0 b c (by rw [hb]; rfl) (by rw [hs]; rfl)
 have hbw := hrow.lt
 have hbl : b ∈ L.bl := by rw [hb]; exact List.mem_cons_self
 have hia0 : (0 : Int) ≤ (ia : Int) := by omega
 have hia1 : (ia : Int) < 16 := by omega
 have hMo := Lib.hid fun w1 (f : Fr Non w w1) => alloc_i (h.mem.frN f) xc hB
 generalize S.mem.alloc xc = mo at *
 obtain ⟨M', ⟨tp, ta, tn⟩, er⟩ := mo
 simp only at hMo
 have HH := Lib.hid (And.intro h (And.intro hb (And.intro hs (And.intro (And.intro hreg hbl) (And.intro (h.bl_m hbl) (And.intro (fun e => (h.sep m e).1 rfl : ¬ L.Dm m) (And.intro (fun e => (h.sep b e).2.2.2.2 hbl : ¬ L.Dm b) (And.intro (fun x hx => h.lt x (h.od x hx) : ∀ x, L.Dm x → x < w.heap.size) (h.high _ (h.ob _ hbl))))))))))
 clear h hb hs hrow hins hreg hbl
 go_enter Tryz.func103, Tryz.ntmps103
 go_wp2_with fail
 have hrx : Row (w.alloc (.cells #[.int .i64 16, .int .i64 ia, .int .i64 xb, .int .i64 xc, .slice la l.length lc] 128)) w.heap.size 128 [.int .i64 16, .int .i64 ia, .int .i64 xb, .int .i64 xc, .slice la l.length lc] := Row.new' rfl
 have hf0 : Fr Non w (w.alloc (.cells #[.int .i64 16, .int .i64 ia, .int .i64 xb, .int .i64 xc, .slice la l.length lc] 128)) := by exact (by repeat (first | exact .refl _ _ | assumption | apply Fr.drewN | apply Fr.drew | apply Fr.drewl | apply Fr.drewNl | apply Fr.alloc))
 have hs0 : (w.alloc (.cells #[.int .i64 16, .int .i64 ia, .int .i64 xb, .int .i64 xc, .slice la l.length lc] 128)).heap.size = w.heap.size + 1 := by simp
 have k2 := hf0.cell c2 id
 generalize w.alloc (.cells #[.int .i64 16, .int .i64 ia, .int .i64 xb, .int .i64 xc, .slice la l.length lc] 128) = W at *
 obtain ⟨x0, x1, x2, x3, x4, xz⟩ := row5 hrx
 have HW := Lib.hid (And.intro hf0 hrx)
 clear hrx hf0 c2
 have hxw : w.heap.size < W.heap.size := by omega
 have hmw : m < W.heap.size := by omega
 have hbW : b < W.heap.size := by omega
 have cW := @Mix.cls_drew W [m, b, w.heap.size]
 refine Mix.wp_region_mix [2, 6, 8] [(0, 0), (0, 1), (1, 2), (0, 3), (0, 4), (0, 5), (1, 6), (0, 7), (1, 8), (0, 13), (0, 14), (2, 9), (0, 10), (0, 11), (0, 12), (0, 15), (3, 16), (0, 17)] (fun V => ∃ g, V = Mix.upon W [m, b, w.heap.size] g) (by kernel_rfl) (by kernel_rfl) cW ?_
 clear cW
 repeat (first | ((first | refine Mix.S_pure rfl rfl ?_ | refine Mix.S_load rfl rfl ?_); intro K hK; simp only [nA, nB, nC]; go_big_quiet_op; go_big_quiet_on) | refine Mix.S_skip0 rfl rfl ?_ | refine Mix.S_skip1 rfl rfl ?_)
 refine Mix.S_eff (o := _) rfl rfl ?_
 intro K hK
 simp only [nA, nB, nC]
 go_simp
 refine (hMo.out _ (by exact HW.out.1.drew)).mono ?_
 rintro e1 w1 ⟨rfl, ⟨D1, hM, hD⟩, hf⟩
 refine hK _ _ ⟨Mix.cls_fr (D := L.Dm) hf (by simp; exact ⟨⟨by omega, HH.out.2.2.2.2.2.1⟩, ⟨by omega, HH.out.2.2.2.2.2.2.1⟩, by omega, fun e => by have := HH.out.2.2.2.2.2.2.2.1 _ e; omega⟩), ?_⟩
 clear hK K
 have hf1 : Fr L.Dm W w1 := Fr.trans (by exact (Fr.refl _ _).drew) hf
 have hs1 := hf1.size
 simp only [World.size_drew] at hD
 have HU := Lib.hid (And.intro hM (And.intro hf1 hD))
 clear hf hf1 hM hD
 obtain ⟨io', ic', hrow, hins, hreg⟩ := ((HH.out.1.frN HW.out.1).upMem HU.out.2.1 HU.out.1 HU.out.2.2).cls 0 b c (by first | (show L.bl[0]? = _; rw [HH.out.2.1]; rfl)) (by show S.stack[0]? = _; rw [HH.out.2.2.1]; rfl)
 obtain ⟨u0, u1, u2⟩ := Cl.get_reg hreg io' ic' hia
 have v0 := hrow.cell u0
 have v1 := hrow.cell u1
 have v2 := hrow.cell u2
 have vz := hrow.frozen
 have HV := Lib.hid (And.intro hrow (And.intro hins hreg))
 clear hrow hins hreg u0 u1 u2
 repeat (first | ((first | refine Mix.S_pure rfl rfl ?_ | refine Mix.S_load rfl rfl ?_); intro K hK; simp only [nA, nB, nC]; go_big_quiet_op; go_big_quiet_on) | refine Mix.S_skip0 rfl rfl ?_ | refine Mix.S_skip1 rfl rfl ?_)
 refine Mix.S_late (o := _) rfl rfl ?_
 intro K hK
 simp only [nA, nB, nC]
 go_simp
 refine hK _ _ ?_
 clear hK K v0 v1 v2 vz
 repeat (first | ((first | refine Mix.S_pure rfl rfl ?_ | refine Mix.S_load rfl rfl ?_); intro K hK; simp only [nA, nB, nC]; go_big_quiet_op; go_big_quiet_on) | refine Mix.S_skip0 rfl rfl ?_ | refine Mix.S_skip1 rfl rfl ?_)
 refine Mix.S_done ?_
 go_wp2_with fail
 go_ret
 obtain ⟨hrow, hins, hreg⟩ := HV.out
 exact ⟨rfl, Aft.ahead HW.out.1 ((HH.out.1.frN HW.out.1).aftMemTop HU.out.2.1 HU.out.1 HU.out.2.2 HH.out.2.1 (ClAt.put hrow hins hreg hia HH.out.2.2.2.2.2.2.2.2 ⟨tp, ta, tn⟩) (Fr.set3 _ _ _ _ _ _ _ _))⟩

set_option maxRecDepth 100000 in
set_option maxHeartbeats 1000000 in
theorem words_22 (h : ML base P A w m S L) {b : Nat} {bs : List Nat} {c : Cl} {cs : List Cl} (hb : L.bl = b :: bs) (hs : S.stack = c :: cs) {ia : Nat} (hia : ia < 16) (hB : S.mem.blocks.length < 1000000000000) {xb : Int} (hb0 : 0 ≤ xb) (hb1 : xb < P.cos.length) (xc : Int) (l : List Int) (la : Option Addr) (lc : Nat) :
 WordsC base P A w m S b c ⟨22, ia, xb, xc, l⟩ la lc := by
 unfold WordsC
 have hR : wordsS P S.mem c ⟨22, ia, xb, xc, l⟩ = ((frameS P S.mem xb).1, c.put ia (frameS P S.mem xb).2.1, (frameS P S.mem xb).2.2) := by simp [wordsS]
 rw [hR]
 clear hR
 have hm := h.mlt
 have c2 := h.c2
 obtain ⟨io, ic, hrow, hins, hreg⟩ := h.cls 0 b c (by rw [hb]; rfl) (by rw [hs]; rfl)
 have hbw := hrow.lt
 have hbl : b ∈ L.bl := by rw [hb]; exact List.mem_cons_self
 have hia0 : (0 : Int) ≤ (ia : Int) := by omega
 have hia1 : (ia : Int) < 16 := by omega
 have hMo := Lib.hid fun w1 (f : Fr Non w w1) => frame_m (h.frN f) hb0 hb1 hB
 clear hb0 hb1
 generalize frameS P S.mem xb = mo at *
 obtain ⟨M', ⟨tp, ta, tn⟩, er⟩ := mo
 simp only at hMo
 have HH := Lib.hid (And.intro h (And.intro hb (And.intro hs (And.intro (And.intro hreg hbl) (And.intro (h.bl_m hbl) (And.intro (fun e => (h.sep m e).1 rfl : ¬ L.Dm m) (And.intro (fun e => (h.sep b e).2.2.2.2 hbl : ¬ L.Dm b) (And.intro (fun x hx => h.lt x (h.od x hx) : ∀ x, L.Dm x → x < w.heap.size) (h.high _ (h.ob _ hbl))))))))))
 clear h hb hs hrow hins hreg hbl
 go_enter Tryz.func103, Tryz.ntmps103
 go_wp2_with fail
 have hrx : Row (w.alloc (.cells #[.int .i64 22, .int .i64 ia, .int .i64 xb, .int .i64 xc, .slice la l.length lc] 128)) w.heap.size 128 [.int .i64 22, .int .i64 ia, .int .i64 xb, .int .i64 xc, .slice la l.length lc] := Row.new' rfl
 have hf0 : Fr Non w (w.alloc (.cells #[.int .i64 22, .int .i64 ia, .int .i64 xb, .int .i64 xc, .slice la l.length lc] 128)) := by exact (by repeat (first | exact .refl _ _ | assumption | apply Fr.drewN | apply Fr.drew | apply Fr.drewl | apply Fr.drewNl | apply Fr.alloc))
 have hs0 : (w.alloc (.cells #[.int .i64 22, .int .i64 ia, .int .i64 xb, .int .i64 xc, .slice la l.length lc] 128)).heap.size = w.heap.size + 1 := by simp
 have k2 := hf0.cell c2 id
 generalize w.alloc (.cells #[.int .i64 22, .int .i64 ia, .int .i64 xb, .int .i64 xc, .slice la l.length lc] 128) = W at *
 obtain ⟨x0, x1, x2, x3, x4, xz⟩ := row5 hrx
 have HW := Lib.hid (And.intro hf0 hrx)
 clear hrx hf0 c2
 have hxw : w.heap.size < W.heap.size := by omega
 have hmw : m < W.heap.size := by omega
 have hbW : b < W.heap.size := by omega
 have cW := @Mix.cls_drew W [m, b, w.heap.size]
 refine Mix.wp_region_mix [2, 5] [(0, 0), (0, 1), (1, 2), (0, 3), (0, 4), (1, 5), (0, 10), (0, 11), (2, 6), (0, 7), (0, 8), (0, 9), (0, 12), (3, 13), (0, 14)] (fun V => ∃ g, V = Mix.upon W [m, b, w.heap.size] g) (by kernel_rfl) (by kernel_rfl) cW ?_
 clear cW
 repeat (first | ((first | refine Mix.S_pure rfl rfl ?_ | refine Mix.S_load rfl rfl ?_); intro K hK; simp only [nA, nB, nC]; go_big_quiet_op; go_big_quiet_on) | refine Mix.S_skip0 rfl rfl ?_ | refine Mix.S_skip1 rfl rfl ?_)
 refine Mix.S_eff (o := _) rfl rfl ?_
 intro K hK
 simp only [nA, nB, nC]
 go_simp
 refine (hMo.out _ (by exact HW.out.1.drew)).mono ?_
 rintro e1 w1 ⟨rfl, ⟨A1, D1, hM, hD⟩, hf⟩
 refine hK _ _ ⟨Mix.cls_fr (D := L.Dm) hf (by simp; exact ⟨⟨by omega, HH.out.2.2.2.2.2.1⟩, ⟨by omega, HH.out.2.2.2.2.2.2.1⟩, by omega, fun e => by have := HH.out.2.2.2.2.2.2.2.1 _ e; omega⟩), ?_⟩
 clear hK K
 have hf1 : Fr L.Dm W w1 := Fr.trans (by exact (Fr.refl _ _).drew) hf
 have hs1 := hf1.size
 simp only [World.size_drew] at hD
 have HU := Lib.hid (And.intro hM (And.intro hf1 hD))
 clear hf hf1 hM hD
 obtain ⟨io', ic', hrow, hins, hreg⟩ := (HU.out.1).cls 0 b c (by first | (show L.bl[0]? = _; rw [HH.out.2.1]; rfl)) (by show S.stack[0]? = _; rw [HH.out.2.2.1]; rfl)
 obtain ⟨u0, u1, u2⟩ := Cl.get_reg hreg io' ic' hia
 have v0 := hrow.cell u0
 have v1 := hrow.cell u1
 have v2 := hrow.cell u2
 have vz := hrow.frozen
 have HV := Lib.hid (And.intro hrow (And.intro hins hreg))
 clear hrow hins hreg u0 u1 u2
 repeat (first | ((first | refine Mix.S_pure rfl rfl ?_ | refine Mix.S_load rfl rfl ?_); intro K hK; simp only [nA, nB, nC]; go_big_quiet_op; go_big_quiet_on) | refine Mix.S_skip0 rfl rfl ?_ | refine Mix.S_skip1 rfl rfl ?_)
 refine Mix.S_late (o := _) rfl rfl ?_
 intro K hK
 simp only [nA, nB, nC]
 go_simp
 refine hK _ _ ?_
 clear hK K v0 v1 v2 vz
 repeat (first | ((first | refine Mix.S_pure rfl rfl ?_ | refine Mix.S_load rfl rfl ?_); intro K hK; simp only [nA, nB, nC]; go_big_quiet_op; go_big_quiet_on) | refine Mix.S_skip0 rfl rfl ?_ | refine Mix.S_skip1 rfl rfl ?_)
 refine Mix.S_done ?_
 go_wp2_with fail
 go_ret
 obtain ⟨hrow, hins, hreg⟩ := HV.out
 refine ⟨rfl, Aft.ahead HW.out.1 ⟨A1, ⟨_, HU.out.1.upTop HH.out.2.1 (ClAt.put hrow hins hreg hia HH.out.2.2.2.2.2.2.2.2 ⟨tp, ta, tn⟩) (Fr.set3 _ _ _ _ _ _ _ _)⟩, HU.out.2.2, ?_⟩⟩
 exact (HU.out.2.1.mono fun x _ hx => HH.out.1.od x hx).trans ((Fr.set3 _ _ _ _ _ _ _ _).mono fun x _ hx => hx ▸ HH.out.1.ob b (by rw [HH.out.2.1]; exact List.mem_cons_self))

set_option maxRecDepth 100000 in
set_option maxHeartbeats 1000000 in
theorem words_6 (h : ML base P A w m S L) {b : Nat} {bs : List Nat} {c : Cl} {cs : List Cl} (hb : L.bl = b :: bs) (hs : S.stack = c :: cs) {ia ib : Nat} (hia : ia < 16) (hib : ib < 16) (xc : Int) (l : List Int) (la : Option Addr) (lc : Nat) :
 WordsC base P A w m S b c ⟨6, ia, ib, xc, l⟩ la lc := by
 unfold WordsC
 have hR : wordsS P S.mem c ⟨6, ia, ib, xc, l⟩ = (if (S.mem.copy (c.reg ia) (c.reg ib) xc).2 ≠ 0 then ((S.mem.copy (c.reg ia) (c.reg ib) xc).1, c, (S.mem.copy (c.reg ia) (c.reg ib) xc).2) else (((S.mem.copy (c.reg ia) (c.reg ib) xc).1.clear (c.reg ib) xc).1, c, ((S.mem.copy (c.reg ia) (c.reg ib) xc).1.clear (c.reg ib) xc).2)) := by simp [wordsS]
 rw [hR]
 clear hR
 have hm := h.mlt
 have c2 := h.c2
 obtain ⟨io, ic, hrow, hins, hreg⟩ := h.cls 0 b c (by rw [hb]; rfl) (by rw [hs]; rfl)
 have hbw := hrow.lt
 have hbl : b ∈ L.bl := by rw [hb]; exact List.mem_cons_self
 have hia0 : (0 : Int) ≤ (ia : Int) := by omega
 have hia1 : (ia : Int) < 16 := by omega
 have hib0 : (0 : Int) ≤ (ib : Int) := by omega
 have hib1 : (ib : Int) < 16 := by omega
 obtain ⟨u0, u1, u2⟩ := Cl.get_reg hreg io ic hia
 have y0 := hrow.cell u0
 have y1 := hrow.cell u1
 have y2 := hrow.cell u2
 clear u0 u1 u2
 obtain ⟨u0, u1, u2⟩ := Cl.get_reg hreg io ic hib
 have z0 := hrow.cell u0
 have z1 := hrow.cell u1
 have z2 := hrow.cell u2
 clear u0 u1 u2
 generalize hra : c.reg (ia : Int) = ra at y0 y1 y2 ⊢
 obtain ⟨yp, ya, yn⟩ := ra
 simp only at y0 y1 y2
 generalize hrb : c.reg (ib : Int) = rb at z0 z1 z2 ⊢
 obtain ⟨zp, za, zn⟩ := rb
 simp only at z0 z1 z2
 have hMo := Lib.hid fun w1 (f : Fr Non w w1) => copy_i (h.mem.frN f) yp ya yn zp za zn xc
 generalize S.mem.copy ⟨yp, ya, yn⟩ ⟨zp, za, zn⟩ xc = mo at *
 obtain ⟨M', er⟩ := mo
 simp only at hMo ⊢
 have hcase : (er = 0 ∧ (er == 0) = true) ∨ (er ≠ 0 ∧ (er == 0) = false) := by by_cases h : er = 0 <;> simp [h]
 obtain ⟨R, hRR⟩ : ∃ R, R = (if er ≠ 0 then (M', c, er) else ((M'.clear ⟨zp, za, zn⟩ xc).1, c, (M'.clear ⟨zp, za, zn⟩ xc).2)) := ⟨_, rfl⟩
 rw [← hRR]
 have HR := Lib.hid hRR
 clear hRR
 have HH := Lib.hid (And.intro h (And.intro hb (And.intro hs (And.intro (And.intro hreg hbl) (And.intro (h.bl_m hbl) (And.intro (fun e => (h.sep m e).1 rfl : ¬ L.Dm m) (And.intro (fun e => (h.sep b e).2.2.2.2 hbl : ¬ L.Dm b) (And.intro (fun x hx => h.lt x (h.od x hx) : ∀ x, L.Dm x → x < w.heap.size) (h.high _ (h.ob _ hbl))))))))))
 clear h hb hs hrow hins hreg hbl
 go_enter Tryz.func103, Tryz.ntmps103
 go_wp2_with fail
 have hrx : Row (w.alloc (.cells #[.int .i64 6, .int .i64 ia, .int .i64 ib, .int .i64 xc, .slice la l.length lc] 128)) w.heap.size 128 [.int .i64 6, .int .i64 ia, .int .i64 ib, .int .i64 xc, .slice la l.length lc] := Row.new' rfl
 have hf0 : Fr Non w (w.alloc (.cells #[.int .i64 6, .int .i64 ia, .int .i64 ib, .int .i64 xc, .slice la l.length lc] 128)) := by exact (by repeat (first | exact .refl _ _ | assumption | apply Fr.drewN | apply Fr.drew | apply Fr.drewl | apply Fr.drewNl | apply Fr.alloc))
 have hs0 : (w.alloc (.cells #[.int .i64 6, .int .i64 ia, .int .i64 ib, .int .i64 xc, .slice la l.length lc] 128)).heap.size = w.heap.size + 1 := by simp
 have k2 := hf0.cell c2 id
 have yw0 := hf0.cell y0 id
 have yw1 := hf0.cell y1 id
 have yw2 := hf0.cell y2 id
 have zw0 := hf0.cell z0 id
 have zw1 := hf0.cell z1 id
 have zw2 := hf0.cell z2 id
 generalize w.alloc (.cells #[.int .i64 6, .int .i64 ia, .int .i64 ib, .int .i64 xc, .slice la l.length lc] 128) = W at *
 obtain ⟨x0, x1, x2, x3, x4, xz⟩ := row5 hrx
 have HW := Lib.hid (And.intro hf0 hrx)
 clear hrx hf0 c2 y0 y1 y2 z0 z1 z2
 have hxw : w.heap.size < W.heap.size := by omega
 have hmw : m < W.heap.size := by omega
 have hbW : b < W.heap.size := by omega
 have cW := @Mix.cls_drew W [m, b, w.heap.size]
 refine Mix.wp_region_mix [3, 6, 10, 13, 17, 19] [(0, 0), (0, 1), (0, 2), (1, 3), (0, 4), (0, 5), (1, 6), (0, 7), (0, 8), (0, 9), (1, 10), (0, 11), (0, 12), (1, 13), (0, 14), (0, 15), (0, 16), (1, 17), (0, 18), (1, 19), (2, 20), (0, 21)] (fun V => ∃ g, V = Mix.upon W [m, b, w.heap.size] g) (by kernel_rfl) (by kernel_rfl) cW ?_
 clear cW
 repeat (first | ((first | refine Mix.S_pure rfl rfl ?_ | refine Mix.S_load rfl rfl ?_); intro K hK; simp only [nA, nB, nC]; go_big_quiet_op; go_big_quiet_on) | refine Mix.S_skip0 rfl rfl ?_ | refine Mix.S_skip1 rfl rfl ?_)
 refine Mix.S_eff (o := _) rfl rfl ?_
 intro K hK
 simp only [nA, nB, nC]
 go_simp
 refine (hMo.out _ (by exact HW.out.1.drew)).mono ?_
 rintro e1 w1 ⟨rfl, hM, hf⟩
 refine hK _ _ ⟨Mix.cls_fr (D := L.Dm) hf (by simp; exact ⟨⟨by omega, HH.out.2.2.2.2.2.1⟩, ⟨by omega, HH.out.2.2.2.2.2.2.1⟩, by omega, fun e => by have := HH.out.2.2.2.2.2.2.2.1 _ e; omega⟩), ?_⟩
 clear hK K
 have hf1 : Fr L.Dm W w1 := Fr.trans (by exact (Fr.refl _ _).drew) hf
 have hs1 := hf1.size
 have j2 := hf1.cell k2 HH.out.2.2.2.2.2.1
 have j3 := hf1.cell zw0 HH.out.2.2.2.2.2.2.1
 have j4 := hf1.cell zw1 HH.out.2.2.2.2.2.2.1
 have j5 := hf1.cell zw2 HH.out.2.2.2.2.2.2.1
 have hxD : ¬ L.Dm w.heap.size := fun e => by have := HH.out.2.2.2.2.2.2.2.1 _ e; omega
 obtain ⟨j6, j7, j8, j9, j10, j11⟩ := row5 (hf1.row HW.out.2 hxD)
 have HU := Lib.hid (And.intro hM hf1)
 clear hf hf1 hM k2 yw0 yw1 yw2 zw0 zw1 zw2 x0 x1 x2 x3 x4 xz hxD
 repeat (first | ((first | refine Mix.S_pure rfl rfl ?_ | refine Mix.S_load rfl rfl ?_); intro K hK; simp only [nA, nB, nC]; go_big_quiet_op; go_big_quiet_on) | refine Mix.S_skip0 rfl rfl ?_ | refine Mix.S_skip1 rfl rfl ?_)
 refine Mix.S_done ?_
 rcases hcase with ⟨rfl, he⟩ | ⟨hne, he⟩
 · go_wp2_with fail
   have cW := @Mix.cls_drew w1 [m, b, w.heap.size]
   refine Mix.wp_region_mix [3, 6, 10, 12] [(0, 0), (0, 1), (0, 2), (1, 3), (0, 4), (0, 5), (1, 6), (0, 7), (0, 8), (0, 9), (1, 10), (0, 11), (1, 12), (2, 13), (0, 14)] (fun V => ∃ g, V = Mix.upon w1 [m, b, w.heap.size] g) (by kernel_rfl) (by kernel_rfl) cW ?_
   clear cW
   repeat (first | ((first | refine Mix.S_pure rfl rfl ?_ | refine Mix.S_load rfl rfl ?_); intro K hK; simp only [nA, nB, nC]; go_big_quiet_op; go_big_quiet_on) | refine Mix.S_skip0 rfl rfl ?_ | refine Mix.S_skip1 rfl rfl ?_)
   refine Mix.S_eff (o := _) rfl rfl ?_
   intro K hK
   simp only [nA, nB, nC]
   go_simp
   refine (clear_i (HU.out.1.frN (Fr.drew (Fr.refl _ _))) zp za zn xc).mono ?_
   rintro e2 w3 ⟨rfl, hM2, hf2⟩
   refine hK _ _ ⟨Mix.cls_fr (D := L.Dm) hf2 (by simp; exact ⟨⟨by omega, HH.out.2.2.2.2.2.1⟩, ⟨by omega, HH.out.2.2.2.2.2.2.1⟩, by omega, fun e => by have := HH.out.2.2.2.2.2.2.2.1 _ e; omega⟩), ?_⟩
   clear hK K
   have hf3 : Fr L.Dm W w3 := HU.out.2.trans (Fr.trans (by exact (Fr.refl _ _).drew) hf2)
   have HY := Lib.hid (And.intro hM2 hf3)
   clear hM2 hf2 hf3
   repeat (first | ((first | refine Mix.S_pure rfl rfl ?_ | refine Mix.S_load rfl rfl ?_); intro K hK; simp only [nA, nB, nC]; go_big_quiet_op; go_big_quiet_on) | refine Mix.S_skip0 rfl rfl ?_ | refine Mix.S_skip1 rfl rfl ?_)
   refine Mix.S_done ?_
   go_wp2_with fail
   go_ret
   rw [HR.out, if_neg (by simp)]
   refine ⟨rfl, Aft.ahead HW.out.1 ?_⟩
   rw [St.setTop_self (c := c) (cs := cs) (by exact HH.out.2.2.1)]
   exact (HH.out.1.frN HW.out.1).aftMem HY.out.2 HY.out.1 (fun b hb => Or.inl hb)
 · go_wp2_with fail
   go_ret
   rw [HR.out, if_pos hne]
   refine ⟨rfl, Aft.ahead HW.out.1 ?_⟩
   rw [St.setTop_self (c := c) (cs := cs) (by exact HH.out.2.2.1)]
   exact (HH.out.1.frN HW.out.1).aftMem HU.out.2 HU.out.1 (fun b hb => Or.inl hb)

end

end Go.Proofs.YtlbomnbpahmphaaGreat

/- Walks: the machine's 'goes'. Conditions: the layout hidden; registers in range; labels are there. -/
namespace Go.Proofs.YtlbomnbpahmphaaGreat
open Go.RowKit

theorem ClAt.setAt {base b : Nat} {w : World} {c : Cl} {io : Option Addr} {ic : Nat} (hr : Row w b 103 (c.cs io ic)) (h2 : InsAt base w io c.fn) (h3 : c.regs.length = 16) (hb : base ≤ b) (n : Int) :
 ClAt base (w.setCell ⟨b, 1, none⟩ (.int .i64 n)) b { c with at_ := n } :=
 ⟨io, ic, hr.set_same 1 _, h2.fr (E := fun x => x = b) (Fr.set1 _ _ _ _) (fun x hx => by omega), h3⟩

section
variable {base : Nat} {P : Pr} {A : Nat → Prop} {w w' w2 : World} {m : Nat} {S : St} {L : Lay}

def GoesC (base : Nat) (P : Pr) (A : Nat → Prop) (w : World) (m : Nat) (S : St) (b : Nat) (c : Cl) (x : In) (la : Option Addr) (lc : Nat) : Prop :=
 Calls Tryz.prog 127 #[.pointer (some ⟨m, 0, none⟩), .pointer (some ⟨b, 0, none⟩), .agg #[.int .i64 x.op, .int .i64 x.a, .int .i64 x.b, .int .i64 x.c, .slice la x.l.length lc]] w fun e w' =>
  e = .returned (.int .i64 (goesS c x).2) ∧ Aft base P A w w' m (S.setTop (goesS c x).1)

set_option maxRecDepth 100000 in
set_option maxHeartbeats 1000000 in
theorem goes_14 (h : ML base P A w m S L) {b : Nat} {bs : List Nat} {c : Cl} {cs : List Cl} (hb : L.bl = b :: bs) (hs : S.stack = c :: cs) {ia : Nat} (hia : ia < 16) (xb xc : Int) (l : List Int) (la : Option Addr) (lc : Nat) (hl0 : 0 < l.length) (hl : IntsAt base w la l) :
 GoesC base P A w m S b c ⟨14, ia, xb, xc, l⟩ la lc := by
 unfold GoesC
 obtain ⟨R, hR⟩ : ∃ R, R = goesS c ⟨14, ia, xb, xc, l⟩ := ⟨_, rfl⟩
 rw [← hR]
 unfold goesS at hR
 simp only [true_and] at hR
 have hm := h.mlt
 obtain ⟨io, ic, hrow, hins, hreg⟩ := h.cls 0 b c (by rw [hb]; rfl) (by rw [hs]; rfl)
 have hbw := hrow.lt
 have hbl : b ∈ L.bl := by rw [hb]; exact List.mem_cons_self
 have y1 := hrow.cell (o := 1) rfl
 have hyz := hrow.frozen
 have hbb := h.high _ (h.ob _ hbl)
 obtain ⟨u0, u1, u2⟩ := Cl.get_reg hreg io ic hia
 have z0 := hrow.cell u0
 have z1 := hrow.cell u1
 have z2 := hrow.cell u2
 have hia0 : (0 : Int) ≤ (ia : Int) := by omega
 have hia1 : (ia : Int) < 16 := by omega
 generalize c.reg (ia : Int) = rb at *
 obtain ⟨rp, ra, rn⟩ := rb
 simp only at z0 z1 z2 hR
 have HR := Lib.hid hR
 have HH := Lib.hid (And.intro h (And.intro hb (And.intro hs (And.intro (And.intro hrow (And.intro hins hreg)) hl))))
 have hll : (0 : Int) < (l.length : Int) := by omega
 obtain ⟨lb, lo, e0, kl⟩ := hl 0 l[0] (List.getElem?_eq_getElem hl0)
 subst e0
 have kl0 := kl.2
 have hlb : lb < base := kl.1
 have hlw := World.block_lt_of_cell? w _ kl0
 have hlab : (⟨14, ia, xb, xc, l⟩ : In).lab 0 = l[0] := by unfold In.lab; rw [List.getD_eq_getElem?_getD]; simp [hl0]
 clear h hb hs hrow hins hreg hbl hR u0 u1 u2 kl hl
 simp only [Nat.add_zero] at kl0
 generalize l[0] = l0 at *
 go_enter Tryz.func127, Tryz.ntmps127
 go_wp2_with fail
 have hrx : Row (w.alloc (.cells #[.int .i64 14, .int .i64 ia, .int .i64 xb, .int .i64 xc, .slice (some ⟨lb, lo, none⟩) l.length lc] 128)) w.heap.size 128 [.int .i64 14, .int .i64 ia, .int .i64 xb, .int .i64 xc, .slice (some ⟨lb, lo, none⟩) l.length lc] := Row.new' rfl
 have hf0 : Fr Non w (w.alloc (.cells #[.int .i64 14, .int .i64 ia, .int .i64 xb, .int .i64 xc, .slice (some ⟨lb, lo, none⟩) l.length lc] 128)) := by exact (by repeat (first | exact .refl _ _ | assumption | apply Fr.drewN | apply Fr.drew | apply Fr.drewl | apply Fr.drewNl | apply Fr.alloc))
 have hs0 : (w.alloc (.cells #[.int .i64 14, .int .i64 ia, .int .i64 xb, .int .i64 xc, .slice (some ⟨lb, lo, none⟩) l.length lc] 128)).heap.size = w.heap.size + 1 := by simp
 generalize w.alloc (.cells #[.int .i64 14, .int .i64 ia, .int .i64 xb, .int .i64 xc, .slice (some ⟨lb, lo, none⟩) l.length lc] 128) = W at *
 obtain ⟨x0, x1, x2, x3, x4, xz⟩ := row5 hrx
 have zw0 := hf0.cell z0 id
 have zw1 := hf0.cell z1 id
 have zw2 := hf0.cell z2 id
 have HW := Lib.hid (And.intro hf0 hrx)
 clear hrx hf0 z0 z1 z2
 have hxw : w.heap.size < W.heap.size := by omega
 have hbW : b < W.heap.size := by omega
 have cW := @Mix.cls_drew W [b, w.heap.size]
 refine Mix.wp_region_mix [2, 6] [(0, 0), (0, 1), (1, 2), (0, 3), (0, 4), (0, 5), (1, 6), (2, 7), (2, 8)] (fun V => ∃ g, V = Mix.upon W [b, w.heap.size] g) (by kernel_rfl) (by kernel_rfl) cW ?_
 clear cW
 repeat (first | ((first | refine Mix.S_pure rfl rfl ?_ | refine Mix.S_load rfl rfl ?_); intro K hK; simp only [nA, nB, nC]; go_big_quiet_op; go_big_quiet_on) | refine Mix.S_skip0 rfl rfl ?_ | refine Mix.S_skip1 rfl rfl ?_)
 refine Mix.S_eff (o := _) rfl rfl ?_
 intro K hK
 simp only [nA, nB, nC]
 go_simp
 refine hK _ _ ⟨Mix.cls_fr (D := Non) (by exact (by repeat (first | exact .refl _ _ | assumption | apply Fr.drewN | apply Fr.drew | apply Fr.drewl | apply Fr.drewNl | apply Fr.alloc))) (by simp [Non]; omega), ?_⟩
 clear hK K
 refine Mix.S_eff (o := _) rfl rfl ?_
 intro K hK
 simp only [nA, nB, nC]
 go_simp
 refine hK _ _ ⟨Mix.cls_fr (D := fun x => x = W.heap.size) (by exact ((Fr.realloc _ _ _).drew).drewl) (by simp; omega), ?_⟩
 clear hK K
 refine Mix.S_done ?_
 have hf2 : Fr Non W ((W.alloc (.cells #[.bool rp, .int .i64 ra, .int .i64 rn] 40)).drew) := by exact (by repeat (first | exact .refl _ _ | assumption | apply Fr.drewN | apply Fr.drew | apply Fr.drewl | apply Fr.drewNl | apply Fr.alloc))
 have hr2 : Row ((W.alloc (.cells #[.bool rp, .int .i64 ra, .int .i64 rn] 40)).drew) (w.heap.size + 1) 40 [.bool rp, .int .i64 ra, .int .i64 rn] := Row.drew (Row.new' hs0)
 have hs2 : (W.alloc (.cells #[.bool rp, .int .i64 ra, .int .i64 rn] 40)).drew.heap.size = w.heap.size + 1 + 1 := by simp [hs0]
 generalize (W.alloc (.cells #[.bool rp, .int .i64 ra, .int .i64 rn] 40)).drew = V at *
 obtain ⟨q0, q1, q2, qz⟩ := row3 hr2
 obtain ⟨j0, j1, j2, j3, j4, jz⟩ := row5 (hf2.row HW.out.2 id)
 have hfV : Fr Non w V := HW.out.1.trans hf2
 have i1 := hfV.cell y1 id
 have iz := fun o => hfV.frozen hbw (hyz o) id
 have HV := Lib.hid hfV
 clear hf2 hr2 x0 x1 x2 x3 x4 xz zw0 zw1 zw2 hfV y1 hyz
 have hbV : b < V.heap.size := by omega
 have kl1 := HV.out.cell kl0 id
 cases rp
 · have hcase : (rn = 0 ∧ (rn == 0) = true) ∨ (rn ≠ 0 ∧ (rn == 0) = false ∧ (rn != 0) = true) := by by_cases h : rn = 0 <;> simp [h]
   rcases hcase with ⟨rfl, he⟩ | ⟨hne, he, hen⟩
   · go_wp2_with fail
     go_ret
     rw [HR.out, if_neg (by simp), if_neg (by simp), if_pos (by first | trivial | rfl | simp)]
     refine ⟨rfl, ?_⟩
     rw [St.setTop_self (c := c) (cs := cs) (by exact HH.out.2.2.1)]
     exact HH.out.1.aftN HV.out
   · go_wp2_with fail
     go_ret
     rw [HR.out, if_neg (by simp), if_pos hne, hlab]
     refine ⟨rfl, Aft.ahead HV.out ((HH.out.1.frN HV.out).aftTop HH.out.2.1 ?_ (Fr.set1 _ _ _ _))⟩
     exact ClAt.setAt (HV.out.row HH.out.2.2.2.1.1 id) (HH.out.2.2.2.1.2.1.fr HV.out (high_non base)) HH.out.2.2.2.1.2.2 hbb _
 · go_wp2_with fail
   go_ret
   rw [HR.out, if_pos (by first | trivial | rfl | simp)]
   refine ⟨rfl, ?_⟩
   rw [St.setTop_self (c := c) (cs := cs) (by exact HH.out.2.2.1)]
   exact HH.out.1.aftN HV.out

set_option maxRecDepth 100000 in
set_option maxHeartbeats 1000000 in
theorem goes_15 (h : ML base P A w m S L) {b : Nat} {bs : List Nat} {c : Cl} {cs : List Cl} (hb : L.bl = b :: bs) (hs : S.stack = c :: cs) {ia : Nat} (hia : ia < 16) (xb xc : Int) (l : List Int) (la : Option Addr) (lc : Nat) (hl0 : 0 < l.length) (hl : IntsAt base w la l) :
 GoesC base P A w m S b c ⟨15, ia, xb, xc, l⟩ la lc := by
 unfold GoesC
 obtain ⟨R, hR⟩ : ∃ R, R = goesS c ⟨15, ia, xb, xc, l⟩ := ⟨_, rfl⟩
 rw [← hR]
 unfold goesS at hR
 simp only [show ((15 : Int) = 14) = False by simp, false_and, if_false] at hR
 have hm := h.mlt
 obtain ⟨io, ic, hrow, hins, hreg⟩ := h.cls 0 b c (by rw [hb]; rfl) (by rw [hs]; rfl)
 have hbw := hrow.lt
 have hbl : b ∈ L.bl := by rw [hb]; exact List.mem_cons_self
 have y1 := hrow.cell (o := 1) rfl
 have hyz := hrow.frozen
 have hbb := h.high _ (h.ob _ hbl)
 obtain ⟨u0, u1, u2⟩ := Cl.get_reg hreg io ic hia
 have z0 := hrow.cell u0
 have z1 := hrow.cell u1
 have z2 := hrow.cell u2
 have hia0 : (0 : Int) ≤ (ia : Int) := by omega
 have hia1 : (ia : Int) < 16 := by omega
 generalize c.reg (ia : Int) = rb at *
 obtain ⟨rp, ra, rn⟩ := rb
 simp only at z0 z1 z2 hR
 have HR := Lib.hid hR
 have HH := Lib.hid (And.intro h (And.intro hb (And.intro hs (And.intro (And.intro hrow (And.intro hins hreg)) hl))))
 have hll : (0 : Int) < (l.length : Int) := by omega
 obtain ⟨lb, lo, e0, kl⟩ := hl 0 l[0] (List.getElem?_eq_getElem hl0)
 subst e0
 have kl0 := kl.2
 have hlb : lb < base := kl.1
 have hlw := World.block_lt_of_cell? w _ kl0
 have hlab : (⟨15, ia, xb, xc, l⟩ : In).lab 0 = l[0] := by unfold In.lab; rw [List.getD_eq_getElem?_getD]; simp [hl0]
 clear h hb hs hrow hins hreg hbl hR u0 u1 u2 kl hl
 simp only [Nat.add_zero] at kl0
 generalize l[0] = l0 at *
 go_enter Tryz.func127, Tryz.ntmps127
 go_wp2_with fail
 have hrx : Row (w.alloc (.cells #[.int .i64 15, .int .i64 ia, .int .i64 xb, .int .i64 xc, .slice (some ⟨lb, lo, none⟩) l.length lc] 128)) w.heap.size 128 [.int .i64 15, .int .i64 ia, .int .i64 xb, .int .i64 xc, .slice (some ⟨lb, lo, none⟩) l.length lc] := Row.new' rfl
 have hf0 : Fr Non w (w.alloc (.cells #[.int .i64 15, .int .i64 ia, .int .i64 xb, .int .i64 xc, .slice (some ⟨lb, lo, none⟩) l.length lc] 128)) := by exact (by repeat (first | exact .refl _ _ | assumption | apply Fr.drewN | apply Fr.drew | apply Fr.drewl | apply Fr.drewNl | apply Fr.alloc))
 have hs0 : (w.alloc (.cells #[.int .i64 15, .int .i64 ia, .int .i64 xb, .int .i64 xc, .slice (some ⟨lb, lo, none⟩) l.length lc] 128)).heap.size = w.heap.size + 1 := by simp
 generalize w.alloc (.cells #[.int .i64 15, .int .i64 ia, .int .i64 xb, .int .i64 xc, .slice (some ⟨lb, lo, none⟩) l.length lc] 128) = W at *
 obtain ⟨x0, x1, x2, x3, x4, xz⟩ := row5 hrx
 have zw0 := hf0.cell z0 id
 have zw1 := hf0.cell z1 id
 have zw2 := hf0.cell z2 id
 have HW := Lib.hid (And.intro hf0 hrx)
 clear hrx hf0 z0 z1 z2
 have hxw : w.heap.size < W.heap.size := by omega
 have hbW : b < W.heap.size := by omega
 have cW := @Mix.cls_drew W [b, w.heap.size]
 refine Mix.wp_region_mix [2, 6] [(0, 0), (0, 1), (1, 2), (0, 3), (0, 4), (0, 5), (1, 6), (2, 7), (2, 8)] (fun V => ∃ g, V = Mix.upon W [b, w.heap.size] g) (by kernel_rfl) (by kernel_rfl) cW ?_
 clear cW
 repeat (first | ((first | refine Mix.S_pure rfl rfl ?_ | refine Mix.S_load rfl rfl ?_); intro K hK; simp only [nA, nB, nC]; go_big_quiet_op; go_big_quiet_on) | refine Mix.S_skip0 rfl rfl ?_ | refine Mix.S_skip1 rfl rfl ?_)
 refine Mix.S_eff (o := _) rfl rfl ?_
 intro K hK
 simp only [nA, nB, nC]
 go_simp
 refine hK _ _ ⟨Mix.cls_fr (D := Non) (by exact (by repeat (first | exact .refl _ _ | assumption | apply Fr.drewN | apply Fr.drew | apply Fr.drewl | apply Fr.drewNl | apply Fr.alloc))) (by simp [Non]; omega), ?_⟩
 clear hK K
 refine Mix.S_eff (o := _) rfl rfl ?_
 intro K hK
 simp only [nA, nB, nC]
 go_simp
 refine hK _ _ ⟨Mix.cls_fr (D := fun x => x = W.heap.size) (by exact ((Fr.realloc _ _ _).drew).drewl) (by simp; omega), ?_⟩
 clear hK K
 refine Mix.S_done ?_
 have hf2 : Fr Non W ((W.alloc (.cells #[.bool rp, .int .i64 ra, .int .i64 rn] 40)).drew) := by exact (by repeat (first | exact .refl _ _ | assumption | apply Fr.drewN | apply Fr.drew | apply Fr.drewl | apply Fr.drewNl | apply Fr.alloc))
 have hr2 : Row ((W.alloc (.cells #[.bool rp, .int .i64 ra, .int .i64 rn] 40)).drew) (w.heap.size + 1) 40 [.bool rp, .int .i64 ra, .int .i64 rn] := Row.drew (Row.new' hs0)
 have hs2 : (W.alloc (.cells #[.bool rp, .int .i64 ra, .int .i64 rn] 40)).drew.heap.size = w.heap.size + 1 + 1 := by simp [hs0]
 generalize (W.alloc (.cells #[.bool rp, .int .i64 ra, .int .i64 rn] 40)).drew = V at *
 obtain ⟨q0, q1, q2, qz⟩ := row3 hr2
 obtain ⟨j0, j1, j2, j3, j4, jz⟩ := row5 (hf2.row HW.out.2 id)
 have hfV : Fr Non w V := HW.out.1.trans hf2
 have i1 := hfV.cell y1 id
 have iz := fun o => hfV.frozen hbw (hyz o) id
 have HV := Lib.hid hfV
 clear hf2 hr2 x0 x1 x2 x3 x4 xz zw0 zw1 zw2 hfV y1 hyz
 have hbV : b < V.heap.size := by omega
 cases rp
 · have hcase : (rn < 0 ∧ decide (rn < 0) = true) ∨ (¬ rn < 0 ∧ decide (rn < 0) = false ∧ (l.length : Int) ≤ rn ∧ decide ((l.length : Int) ≤ rn) = true) ∨ (¬ rn < 0 ∧ decide (rn < 0) = false ∧ ¬ (l.length : Int) ≤ rn ∧ decide ((l.length : Int) ≤ rn) = false) := by
    by_cases hk : rn < 0 <;> by_cases hk2 : (l.length : Int) ≤ rn <;> simp [hk, hk2]
   rcases hcase with ⟨hk, hd⟩ | ⟨hk, hd, hk2, hd2⟩ | ⟨hk, hd, hk2, hd2⟩
   · go_wp2_with fail
     go_ret
     rw [HR.out, if_neg (by simp), if_pos (Or.inl hk)]
     refine ⟨rfl, ?_⟩
     rw [St.setTop_self (c := c) (cs := cs) (by exact HH.out.2.2.1)]
     exact HH.out.1.aftN HV.out
   · go_wp2_with fail
     go_ret
     rw [HR.out, if_neg (by simp), if_pos (Or.inr hk2)]
     refine ⟨rfl, ?_⟩
     rw [St.setTop_self (c := c) (cs := cs) (by exact HH.out.2.2.1)]
     exact HH.out.1.aftN HV.out
   · obtain ⟨k, rfl⟩ := Int.eq_ofNat_of_zero_le (show 0 ≤ rn by omega)
     have hkl : k < l.length := by omega
     obtain ⟨lb', lo', e0, kk⟩ := HH.out.2.2.2.2 k l[k] (List.getElem?_eq_getElem hkl)
     cases e0
     have kl1 := HV.out.cell kk.2 id
     have hlabk : (⟨15, ia, xb, xc, l⟩ : In).lab (k : Int) = l[k] := by unfold In.lab; rw [List.getD_eq_getElem?_getD]; simp [hkl]
     generalize l[k] = lk at *
     have hk0 : (0 : Int) ≤ (k : Int) := by omega
     have hk1 : (k : Int) < (l.length : Int) := by omega
     clear kk
     go_wp2_with fail
     go_ret
     rw [HR.out, if_neg (by simp), if_neg (by omega), hlabk]
     refine ⟨rfl, Aft.ahead HV.out ((HH.out.1.frN HV.out).aftTop HH.out.2.1 ?_ (Fr.set1 _ _ _ _))⟩
     exact ClAt.setAt (HV.out.row HH.out.2.2.2.1.1 id) (HH.out.2.2.2.1.2.1.fr HV.out (high_non base)) HH.out.2.2.2.1.2.2 hbb _
 · go_wp2_with fail
   go_ret
   rw [HR.out, if_pos (by first | trivial | rfl | simp)]
   refine ⟨rfl, ?_⟩
   rw [St.setTop_self (c := c) (cs := cs) (by exact HH.out.2.2.1)]
   exact HH.out.1.aftN HV.out

end

end Go.Proofs.YtlbomnbpahmphaaGreat

/- Walks: the machine's 'reckons'. Conditions: the layout hidden; registers in range; labels are there. Printed by genreckons.py. -/
namespace Go.Proofs.YtlbomnbpahmphaaGreat
open Go.RowKit

section
variable {base : Nat} {P : Pr} {A : Nat → Prop} {w w' w2 : World} {m : Nat} {S : St} {L : Lay}

def ReckC (base : Nat) (P : Pr) (A : Nat → Prop) (w : World) (m : Nat) (S : St) (b : Nat) (c : Cl) (x : In) (la : Option Addr) (lc : Nat) : Prop :=
 Calls Tryz.prog 104 #[.pointer (some ⟨m, 0, none⟩), .pointer (some ⟨b, 0, none⟩), .agg #[.int .i64 x.op, .int .i64 x.a, .int .i64 x.b, .int .i64 x.c, .slice la x.l.length lc]] w fun e w' =>
  e = .returned (.int .i64 (reckonsS c x).2) ∧ Aft base P A w w' m (S.setTop (reckonsS c x).1)

set_option maxRecDepth 100000 in
set_option maxHeartbeats 2000000 in
theorem reckons_11 (h : ML base P A w m S L) {b : Nat} {bs : List Nat} {c : Cl} {cs : List Cl} (hb : L.bl = b :: bs) (hs : S.stack = c :: cs) {ia ib ic : Nat} (hia : ia < 16) (hib : ib < 16) (hic : ic < 16) (l : List Int) (la : Option Addr) (lc : Nat) :
 ReckC base P A w m S b c ⟨11, ia, ib, ic, l⟩ la lc := by
 unfold ReckC
 obtain ⟨R, hR⟩ : ∃ R, R = reckonsS c ⟨11, ia, ib, ic, l⟩ := ⟨_, rfl⟩
 rw [← hR]
 have hR2 : R = if (c.reg ib).p ∨ (c.reg ic).p then (c, 11) else (c.put ia (num (bitS (decide ((c.reg ib).n < (c.reg ic).n)))), 0) := by rw [hR]; simp [reckonsS]
 clear hR
 have hm := h.mlt
 obtain ⟨io, icc, hrow, hins, hreg⟩ := h.cls 0 b c (by rw [hb]; rfl) (by rw [hs]; rfl)
 have hbw := hrow.lt
 have hbl : b ∈ L.bl := by rw [hb]; exact List.mem_cons_self
 have y1 := hrow.cell (o := 1) rfl
 have hyz := hrow.frozen
 have hbb := h.high _ (h.ob _ hbl)
 obtain ⟨u0, u1, u2⟩ := Cl.get_reg hreg io icc hib
 have y00 := hrow.cell u0
 have y01 := hrow.cell u1
 have y02 := hrow.cell u2
 obtain ⟨s0, s1, s2⟩ := Cl.get_reg hreg io icc hic
 have z0 := hrow.cell s0
 have z1 := hrow.cell s1
 have z2 := hrow.cell s2
 have hia0 : (0 : Int) ≤ (ia : Int) := by omega
 have hia1 : (ia : Int) < 16 := by omega
 have hib0 : (0 : Int) ≤ (ib : Int) := by omega
 have hib1 : (ib : Int) < 16 := by omega
 have hic0 : (0 : Int) ≤ (ic : Int) := by omega
 have hic1 : (ic : Int) < 16 := by omega
 generalize hrb : c.reg (ib : Int) = rb at y00 y01 y02 hR2
 generalize hrc : c.reg (ic : Int) = rc at z0 z1 z2 hR2
 obtain ⟨yp, ya, yn⟩ := rb
 obtain ⟨zp, za, zn⟩ := rc
 simp only at y00 y01 y02 z0 z1 z2 hR2
 have HR := Lib.hid hR2
 have HH := Lib.hid (And.intro h (And.intro hb (And.intro hs (And.intro hrow (And.intro hins hreg)))))
 clear h hb hs hrow hins hreg hbl hR2 u0 u1 u2 s0 s1 s2 hrb hrc
 go_enter Tryz.func104, Tryz.ntmps104
 go_wp2_with fail
 have hrx : Row (w.alloc (.cells #[.int .i64 11, .int .i64 ia, .int .i64 ib, .int .i64 ic, .slice la l.length lc] 128)) w.heap.size 128 [.int .i64 11, .int .i64 ia, .int .i64 ib, .int .i64 ic, .slice la l.length lc] := Row.new' rfl
 have hf0 : Fr Non w (w.alloc (.cells #[.int .i64 11, .int .i64 ia, .int .i64 ib, .int .i64 ic, .slice la l.length lc] 128)) := by exact (by repeat (first | exact .refl _ _ | assumption | apply Fr.drewN | apply Fr.drew | apply Fr.drewl | apply Fr.drewNl | apply Fr.alloc))
 have hs0 : (w.alloc (.cells #[.int .i64 11, .int .i64 ia, .int .i64 ib, .int .i64 ic, .slice la l.length lc] 128)).heap.size = w.heap.size + 1 := by simp
 generalize w.alloc (.cells #[.int .i64 11, .int .i64 ia, .int .i64 ib, .int .i64 ic, .slice la l.length lc] 128) = W at *
 obtain ⟨x0, x1, x2, x3, x4, xz⟩ := row5 hrx
 have yw0 := hf0.cell y00 id
 have yw1 := hf0.cell y01 id
 have yw2 := hf0.cell y02 id
 have zw0 := hf0.cell z0 id
 have zw1 := hf0.cell z1 id
 have zw2 := hf0.cell z2 id
 have HW := Lib.hid (And.intro hf0 hrx)
 clear hrx hf0 z0 z1 z2 y00 y01 y02
 have hxw : w.heap.size < W.heap.size := by omega
 have hbW : b < W.heap.size := by omega
 have cW := @Mix.cls_drew W [b, w.heap.size]
 refine Mix.wp_region_alt [2, 6, 9, 13] [(0, 0), (0, 1), (1, 2), (0, 3), (0, 4), (0, 5), (1, 6), (0, 7), (0, 8), (1, 9), (0, 10), (0, 11), (0, 12), (1, 13)] 14 15 [(2, 15), (2, 16), (2, 17)] [(2, 14), (2, 16), (2, 17)] (fun V => ∃ g, V = Mix.upon W [b, w.heap.size] g) (by kernel_rfl) (by kernel_rfl) cW ?_
 clear cW
 repeat (first | ((first | refine Mix.S_pure rfl rfl ?_ | refine Mix.S_load rfl rfl ?_); intro K hK; simp only [nA, nB, nC]; go_big_quiet_op; go_big_quiet_on) | refine Mix.S_skip0 rfl rfl ?_ | refine Mix.S_skip1 rfl rfl ?_)
 refine Mix.S_done ?_
 clear yw0 yw1 yw2 zw0 zw1 zw2
 refine ⟨?_, ?_⟩
 · refine Mix.N_eff (C := fun V => ∃ g, V = Mix.upon W [b, w.heap.size] g) (o := _) rfl rfl ?_
   intro K hK
   simp only [nA, nB, nC]
   go_simp
   refine hK _ _ ⟨Mix.cls_fr (D := Non) (by exact ((Fr.refl Non W).alloc _).drew.drewl) (by simp [Non]; omega), ?_⟩
   clear hK K
   have r1 : Row ((W.alloc (.cells #[.bool false, .int .i64 0, .int .i64 0] 40)).drew) (w.heap.size + 1) 40 [.bool false, .int .i64 0, .int .i64 0] := Row.drew (Row.new' hs0)
   have f1 : Fr Non W ((W.alloc (.cells #[.bool false, .int .i64 0, .int .i64 0] 40)).drew) := ((Fr.refl Non W).alloc _).drew
   have s1 : ((W.alloc (.cells #[.bool false, .int .i64 0, .int .i64 0] 40)).drew).heap.size = w.heap.size + 1 + 1 := by simp [hs0]
   generalize (W.alloc (.cells #[.bool false, .int .i64 0, .int .i64 0] 40)).drew = V1 at *
   refine Mix.S_eff (o := _) rfl rfl ?_
   intro K hK
   simp only [nA, nB, nC]
   go_simp
   refine hK _ _ ⟨Mix.cls_fr (D := Non) (by exact (Fr.refl Non V1).alloc _) (by simp [Non]; omega), ?_⟩
   clear hK K
   have r2 : Row (V1.alloc (.cells #[.bool false, .int .i64 0, .int .i64 0] 40)) (w.heap.size + 1 + 1) 40 [.bool false, .int .i64 0, .int .i64 0] := Row.new' s1
   have r1' : Row (V1.alloc (.cells #[.bool false, .int .i64 0, .int .i64 0] 40)) (w.heap.size + 1) 40 [.bool false, .int .i64 0, .int .i64 0] := r1.alloc _
   have f2 : Fr Non W (V1.alloc (.cells #[.bool false, .int .i64 0, .int .i64 0] 40)) := f1.alloc _
   have s2 : (V1.alloc (.cells #[.bool false, .int .i64 0, .int .i64 0] 40)).heap.size = w.heap.size + 1 + 1 + 1 := by simp [s1]
   generalize V1.alloc (.cells #[.bool false, .int .i64 0, .int .i64 0] 40) = V2 at *
   clear r1 f1 s1
   obtain ⟨p0, p1, p2, pz⟩ := row3 r1'
   refine Mix.S_eff (o := _) rfl rfl ?_
   intro K hK
   simp only [nA, nB, nC]
   go_simp
   refine hK _ _ ⟨Mix.cls_fr (D := fun x => x = w.heap.size + 1) (by exact Fr.set3 _ _ _ _ _ _ _ _) (by simp; omega), ?_⟩
   clear hK K p0 p1 p2 pz
   have ra : Row (((V2.setCell ⟨w.heap.size + 1, 0, none⟩ (.bool yp)).setCell ⟨w.heap.size + 1, 1, none⟩ (.int .i64 ya)).setCell ⟨w.heap.size + 1, 2, none⟩ (.int .i64 yn)) (w.heap.size + 1) 40 [.bool yp, .int .i64 ya, .int .i64 yn] := ((r1'.set_same 0 (.bool yp)).set_same 1 (.int .i64 ya)).set_same 2 (.int .i64 yn)
   have rb : Row (((V2.setCell ⟨w.heap.size + 1, 0, none⟩ (.bool yp)).setCell ⟨w.heap.size + 1, 1, none⟩ (.int .i64 ya)).setCell ⟨w.heap.size + 1, 2, none⟩ (.int .i64 yn)) (w.heap.size + 1 + 1) 40 [.bool false, .int .i64 0, .int .i64 0] := (Fr.set3 V2 (w.heap.size + 1) _ _ _ _ _ _).row r2 (by simp)
   have f3 : Fr (fun x => x = w.heap.size + 1) W (((V2.setCell ⟨w.heap.size + 1, 0, none⟩ (.bool yp)).setCell ⟨w.heap.size + 1, 1, none⟩ (.int .i64 ya)).setCell ⟨w.heap.size + 1, 2, none⟩ (.int .i64 yn)) := (f2.mono fun _ _ h => h.elim).trans (Fr.set3 _ _ _ _ _ _ _ _)
   have s3 : (((V2.setCell ⟨w.heap.size + 1, 0, none⟩ (.bool yp)).setCell ⟨w.heap.size + 1, 1, none⟩ (.int .i64 ya)).setCell ⟨w.heap.size + 1, 2, none⟩ (.int .i64 yn)).heap.size = w.heap.size + 1 + 1 + 1 := by simp [s2]
   generalize ((V2.setCell ⟨w.heap.size + 1, 0, none⟩ (.bool yp)).setCell ⟨w.heap.size + 1, 1, none⟩ (.int .i64 ya)).setCell ⟨w.heap.size + 1, 2, none⟩ (.int .i64 yn) = V3 at *
   clear r1' r2 f2 s2
   obtain ⟨p0, p1, p2, pz⟩ := row3 rb
   refine Mix.S_eff (o := _) rfl rfl ?_
   intro K hK
   simp only [nA, nB, nC]
   go_simp
   refine hK _ _ ⟨Mix.cls_fr (D := fun x => x = w.heap.size + 1 + 1) (by exact Fr.set3 _ _ _ _ _ _ _ _) (by simp; omega), ?_⟩
   clear hK K p0 p1 p2 pz
   have ra' : Row (((V3.setCell ⟨w.heap.size + 1 + 1, 0, none⟩ (.bool zp)).setCell ⟨w.heap.size + 1 + 1, 1, none⟩ (.int .i64 za)).setCell ⟨w.heap.size + 1 + 1, 2, none⟩ (.int .i64 zn)) (w.heap.size + 1) 40 [.bool yp, .int .i64 ya, .int .i64 yn] := (Fr.set3 V3 (w.heap.size + 1 + 1) _ _ _ _ _ _).row ra (by simp)
   have rb' : Row (((V3.setCell ⟨w.heap.size + 1 + 1, 0, none⟩ (.bool zp)).setCell ⟨w.heap.size + 1 + 1, 1, none⟩ (.int .i64 za)).setCell ⟨w.heap.size + 1 + 1, 2, none⟩ (.int .i64 zn)) (w.heap.size + 1 + 1) 40 [.bool zp, .int .i64 za, .int .i64 zn] := ((rb.set_same 0 (.bool zp)).set_same 1 (.int .i64 za)).set_same 2 (.int .i64 zn)
   have f4 : Fr (fun x => x = w.heap.size + 1 ∨ x = w.heap.size + 1 + 1) W (((V3.setCell ⟨w.heap.size + 1 + 1, 0, none⟩ (.bool zp)).setCell ⟨w.heap.size + 1 + 1, 1, none⟩ (.int .i64 za)).setCell ⟨w.heap.size + 1 + 1, 2, none⟩ (.int .i64 zn)) := (f3.mono fun _ _ h => Or.inl h).trans ((Fr.set3 _ _ _ _ _ _ _ _).mono fun _ _ h => Or.inr h)
   have s4 : (((V3.setCell ⟨w.heap.size + 1 + 1, 0, none⟩ (.bool zp)).setCell ⟨w.heap.size + 1 + 1, 1, none⟩ (.int .i64 za)).setCell ⟨w.heap.size + 1 + 1, 2, none⟩ (.int .i64 zn)).heap.size = w.heap.size + 1 + 1 + 1 := by simp [s3]
   generalize ((V3.setCell ⟨w.heap.size + 1 + 1, 0, none⟩ (.bool zp)).setCell ⟨w.heap.size + 1 + 1, 1, none⟩ (.int .i64 za)).setCell ⟨w.heap.size + 1 + 1, 2, none⟩ (.int .i64 zn) = V at *
   clear ra rb f3 s3
   refine Mix.S_done ?_
   have fV : Fr Non w V := HW.out.1.then f4 (fun x hx e => by rcases e with e | e <;> (subst e; omega))
   have rx : Row V w.heap.size 128 [.int .i64 11, .int .i64 ia, .int .i64 ib, .int .i64 ic, .slice la l.length lc] := f4.row HW.out.2 (by simp; omega)
   obtain ⟨p0, p1, p2, pz⟩ := row3 ra'
   obtain ⟨q0, q1, q2, qz⟩ := row3 rb'
   have HV := Lib.hid (And.intro fV (And.intro rx (And.intro ra' rb')))
   clear fV rx ra' rb' f4 x0 x1 x2 x3 x4 xz y1 hyz
   go_wp2_with fail
   have hN := Lib.hid (numbers_c (V.alloc (.cells #[.bool yp, .int .i64 ya, .int .i64 yn, .bool zp, .int .i64 za, .int .i64 zn] 40)) (w.heap.size + 1 + 1 + 1) 2 ⟨yp, ya, yn⟩ ⟨zp, za, zn⟩ (by exact (Row.new' s4 : Row (V.alloc (.cells #[.bool yp, .int .i64 ya, .int .i64 yn, .bool zp, .int .i64 za, .int .i64 zn] 40)) (w.heap.size + 1 + 1 + 1) 40 _).news))
   refine hN.out.mono ?_
   rintro e1 V5 ⟨rfl, f5⟩
   have f5' : Fr Non V V5 := Fr.trans (by exact (by repeat (first | exact .refl _ _ | assumption | apply Fr.drewN | apply Fr.drew | apply Fr.drewl | apply Fr.drewNl | apply Fr.alloc))) f5
   have s5 := f5'.size
   obtain ⟨p0', p1', p2', pz'⟩ := row3 (f5'.row HV.out.2.2.1 id)
   obtain ⟨q0', q1', q2', qz'⟩ := row3 (f5'.row HV.out.2.2.2 id)
   obtain ⟨x0, x1, x2, x3, x4, xz⟩ := row5 (f5'.row HV.out.2.1 id)
   have HX := Lib.hid (And.intro (HV.out.1.trans f5') (f5'.row HV.out.2.1 id))
   clear f5 f5' p0 p1 p2 pz q0 q1 q2 qz
   have hx5 : w.heap.size < V5.heap.size := by omega
   have hx6 : w.heap.size + 1 < V5.heap.size := by omega
   have hx7 : w.heap.size + 1 + 1 < V5.heap.size := by omega
   have hb5 : b < V5.heap.size := by omega
   cases yp
   · cases zp
     · have hR := HR.out
       rw [if_neg (by simp)] at hR
       have HR := Lib.hid hR
       clear hR
       go_wp2_with fail
       have cW := @Mix.cls_drew V5 [w.heap.size, w.heap.size + 1, w.heap.size + 1 + 1]
       refine Mix.wp_region_mix [2, 4, 6] [(0, 0), (0, 1), (1, 2), (0, 3), (1, 4), (0, 5), (1, 6), (0, 7), (0, 10), (0, 11), (2, 8), (2, 9), (0, 12), (2, 13)] (fun V => ∃ g, V = Mix.upon V5 [w.heap.size, w.heap.size + 1, w.heap.size + 1 + 1] g) (by kernel_rfl) (by kernel_rfl) cW ?_
       clear cW
       repeat (first | ((first | refine Mix.S_pure rfl rfl ?_ | refine Mix.S_load rfl rfl ?_); intro K hK; simp only [nA, nB, nC]; go_big_quiet_op; go_big_quiet_on) | refine Mix.S_skip0 rfl rfl ?_ | refine Mix.S_skip1 rfl rfl ?_)
       refine Mix.S_eff (o := _) rfl rfl ?_
       intro K hK
       simp only [nA, nB, nC]
       go_simp
       refine (bit_c _ (decide (yn < zn))).mono ?_
       rintro e1 V6 ⟨rfl, hf⟩
       refine hK _ _ ⟨Mix.cls_fr (D := Non) hf (by simp [Non]; omega), ?_⟩
       clear hK K
       have f6 : Fr Non w V6 := HX.out.1.trans (Fr.trans (by exact (Fr.refl _ _).drew) hf)
       have s6 := hf.size
       simp only [World.size_drew] at s6
       clear hf
       repeat (first | ((first | refine Mix.S_pure rfl rfl ?_ | refine Mix.S_load rfl rfl ?_); intro K hK; simp only [nA, nB, nC]; go_big_quiet_op; go_big_quiet_on) | refine Mix.S_skip0 rfl rfl ?_ | refine Mix.S_skip1 rfl rfl ?_)
       refine Mix.S_eff (o := _) rfl rfl ?_
       intro K hK
       simp only [nA, nB, nC]
       go_simp
       refine (number_c _ _).mono ?_
       rintro e1 V7 ⟨rfl, hf⟩
       refine hK _ _ ⟨Mix.cls_fr (D := Non) hf (by simp [Non]; omega), ?_⟩
       clear hK K
       have HY := Lib.hid (f6.trans hf)
       have s7 := hf.size
       clear hf f6
       obtain ⟨io', ic', hrow', hins', hreg'⟩ := ((HH.out.1.frN HY.out).cls 0 b c (by rw [HH.out.2.1]; rfl) (by rw [HH.out.2.2.1]; rfl))
       obtain ⟨u0, u1, u2⟩ := Cl.get_reg hreg' io' ic' hia
       have v0 := hrow'.cell u0
       have v1 := hrow'.cell u1
       have v2 := hrow'.cell u2
       have vz := hrow'.frozen
       have HT := Lib.hid (And.intro hrow' (And.intro hins' hreg'))
       clear hrow' hins' hreg' u0 u1 u2
       repeat (first | ((first | refine Mix.S_pure rfl rfl ?_ | refine Mix.S_load rfl rfl ?_); intro K hK; simp only [nA, nB, nC]; go_big_quiet_op; go_big_quiet_on) | refine Mix.S_skip0 rfl rfl ?_ | refine Mix.S_skip1 rfl rfl ?_)
       refine Mix.S_eff (o := _) rfl rfl ?_
       intro K hK
       simp only [nA, nB, nC]
       go_simp
       refine hK _ _ ⟨Mix.cls_fr (D := fun x => x = b) (by exact Fr.set3 _ _ _ _ _ _ _ _) (by simp; omega), ?_⟩
       clear hK K v0 v1 v2 vz
       repeat (first | ((first | refine Mix.S_pure rfl rfl ?_ | refine Mix.S_load rfl rfl ?_); intro K hK; simp only [nA, nB, nC]; go_big_quiet_op; go_big_quiet_on) | refine Mix.S_skip0 rfl rfl ?_ | refine Mix.S_skip1 rfl rfl ?_)
       refine Mix.S_done ?_
       go_wp2_with fail
       go_ret
       rw [HR.out]
       obtain ⟨hrow', hins', hreg'⟩ := HT.out
       exact ⟨rfl, Aft.ahead HY.out ((HH.out.1.frN HY.out).aftTop HH.out.2.1 (ClAt.put hrow' hins' hreg' hia hbb (num (bitS (decide (yn < zn))))) (Fr.set3 _ _ _ _ _ _ _ _))⟩
     · go_wp2_with fail
       go_ret
       rw [HR.out, if_pos (by simp)]
       refine ⟨rfl, ?_⟩
       rw [St.setTop_self (c := c) (cs := cs) (by exact HH.out.2.2.1)]
       exact HH.out.1.aftN HX.out.1
   · go_wp2_with fail
     go_ret
     rw [HR.out, if_pos (by simp)]
     refine ⟨rfl, ?_⟩
     rw [St.setTop_self (c := c) (cs := cs) (by exact HH.out.2.2.1)]
     exact HH.out.1.aftN HX.out.1
 · refine Mix.N_eff (C := fun V => ∃ g, V = Mix.upon W [b, w.heap.size] g) (o := _) rfl rfl ?_
   intro K hK
   simp only [nA, nB, nC]
   go_simp
   refine hK _ _ ⟨Mix.cls_fr (D := Non) (by exact ((Fr.refl Non W).alloc _).drew.drewl) (by simp [Non]; omega), ?_⟩
   clear hK K
   have r1 : Row ((W.alloc (.cells #[.bool false, .int .i64 0, .int .i64 0] 40)).drew) (w.heap.size + 1) 40 [.bool false, .int .i64 0, .int .i64 0] := Row.drew (Row.new' hs0)
   have f1 : Fr Non W ((W.alloc (.cells #[.bool false, .int .i64 0, .int .i64 0] 40)).drew) := ((Fr.refl Non W).alloc _).drew
   have s1 : ((W.alloc (.cells #[.bool false, .int .i64 0, .int .i64 0] 40)).drew).heap.size = w.heap.size + 1 + 1 := by simp [hs0]
   generalize (W.alloc (.cells #[.bool false, .int .i64 0, .int .i64 0] 40)).drew = V1 at *
   refine Mix.S_eff (o := _) rfl rfl ?_
   intro K hK
   simp only [nA, nB, nC]
   go_simp
   refine hK _ _ ⟨Mix.cls_fr (D := Non) (by exact (Fr.refl Non V1).alloc _) (by simp [Non]; omega), ?_⟩
   clear hK K
   have r2 : Row (V1.alloc (.cells #[.bool false, .int .i64 0, .int .i64 0] 40)) (w.heap.size + 1 + 1) 40 [.bool false, .int .i64 0, .int .i64 0] := Row.new' s1
   have r1' : Row (V1.alloc (.cells #[.bool false, .int .i64 0, .int .i64 0] 40)) (w.heap.size + 1) 40 [.bool false, .int .i64 0, .int .i64 0] := r1.alloc _
   have f2 : Fr Non W (V1.alloc (.cells #[.bool false, .int .i64 0, .int .i64 0] 40)) := f1.alloc _
   have s2 : (V1.alloc (.cells #[.bool false, .int .i64 0, .int .i64 0] 40)).heap.size = w.heap.size + 1 + 1 + 1 := by simp [s1]
   generalize V1.alloc (.cells #[.bool false, .int .i64 0, .int .i64 0] 40) = V2 at *
   clear r1 f1 s1
   obtain ⟨p0, p1, p2, pz⟩ := row3 r2
   refine Mix.S_eff (o := _) rfl rfl ?_
   intro K hK
   simp only [nA, nB, nC]
   go_simp
   refine hK _ _ ⟨Mix.cls_fr (D := fun x => x = w.heap.size + 1 + 1) (by exact Fr.set3 _ _ _ _ _ _ _ _) (by simp; omega), ?_⟩
   clear hK K p0 p1 p2 pz
   have ra : Row (((V2.setCell ⟨w.heap.size + 1 + 1, 0, none⟩ (.bool yp)).setCell ⟨w.heap.size + 1 + 1, 1, none⟩ (.int .i64 ya)).setCell ⟨w.heap.size + 1 + 1, 2, none⟩ (.int .i64 yn)) (w.heap.size + 1 + 1) 40 [.bool yp, .int .i64 ya, .int .i64 yn] := ((r2.set_same 0 (.bool yp)).set_same 1 (.int .i64 ya)).set_same 2 (.int .i64 yn)
   have rb : Row (((V2.setCell ⟨w.heap.size + 1 + 1, 0, none⟩ (.bool yp)).setCell ⟨w.heap.size + 1 + 1, 1, none⟩ (.int .i64 ya)).setCell ⟨w.heap.size + 1 + 1, 2, none⟩ (.int .i64 yn)) (w.heap.size + 1) 40 [.bool false, .int .i64 0, .int .i64 0] := (Fr.set3 V2 (w.heap.size + 1 + 1) _ _ _ _ _ _).row r1' (by simp)
   have f3 : Fr (fun x => x = w.heap.size + 1 + 1) W (((V2.setCell ⟨w.heap.size + 1 + 1, 0, none⟩ (.bool yp)).setCell ⟨w.heap.size + 1 + 1, 1, none⟩ (.int .i64 ya)).setCell ⟨w.heap.size + 1 + 1, 2, none⟩ (.int .i64 yn)) := (f2.mono fun _ _ h => h.elim).trans (Fr.set3 _ _ _ _ _ _ _ _)
   have s3 : (((V2.setCell ⟨w.heap.size + 1 + 1, 0, none⟩ (.bool yp)).setCell ⟨w.heap.size + 1 + 1, 1, none⟩ (.int .i64 ya)).setCell ⟨w.heap.size + 1 + 1, 2, none⟩ (.int .i64 yn)).heap.size = w.heap.size + 1 + 1 + 1 := by simp [s2]
   generalize ((V2.setCell ⟨w.heap.size + 1 + 1, 0, none⟩ (.bool yp)).setCell ⟨w.heap.size + 1 + 1, 1, none⟩ (.int .i64 ya)).setCell ⟨w.heap.size + 1 + 1, 2, none⟩ (.int .i64 yn) = V3 at *
   clear r1' r2 f2 s2
   obtain ⟨p0, p1, p2, pz⟩ := row3 rb
   refine Mix.S_eff (o := _) rfl rfl ?_
   intro K hK
   simp only [nA, nB, nC]
   go_simp
   refine hK _ _ ⟨Mix.cls_fr (D := fun x => x = w.heap.size + 1) (by exact Fr.set3 _ _ _ _ _ _ _ _) (by simp; omega), ?_⟩
   clear hK K p0 p1 p2 pz
   have ra' : Row (((V3.setCell ⟨w.heap.size + 1, 0, none⟩ (.bool zp)).setCell ⟨w.heap.size + 1, 1, none⟩ (.int .i64 za)).setCell ⟨w.heap.size + 1, 2, none⟩ (.int .i64 zn)) (w.heap.size + 1 + 1) 40 [.bool yp, .int .i64 ya, .int .i64 yn] := (Fr.set3 V3 (w.heap.size + 1) _ _ _ _ _ _).row ra (by simp)
   have rb' : Row (((V3.setCell ⟨w.heap.size + 1, 0, none⟩ (.bool zp)).setCell ⟨w.heap.size + 1, 1, none⟩ (.int .i64 za)).setCell ⟨w.heap.size + 1, 2, none⟩ (.int .i64 zn)) (w.heap.size + 1) 40 [.bool zp, .int .i64 za, .int .i64 zn] := ((rb.set_same 0 (.bool zp)).set_same 1 (.int .i64 za)).set_same 2 (.int .i64 zn)
   have f4 : Fr (fun x => x = w.heap.size + 1 + 1 ∨ x = w.heap.size + 1) W (((V3.setCell ⟨w.heap.size + 1, 0, none⟩ (.bool zp)).setCell ⟨w.heap.size + 1, 1, none⟩ (.int .i64 za)).setCell ⟨w.heap.size + 1, 2, none⟩ (.int .i64 zn)) := (f3.mono fun _ _ h => Or.inl h).trans ((Fr.set3 _ _ _ _ _ _ _ _).mono fun _ _ h => Or.inr h)
   have s4 : (((V3.setCell ⟨w.heap.size + 1, 0, none⟩ (.bool zp)).setCell ⟨w.heap.size + 1, 1, none⟩ (.int .i64 za)).setCell ⟨w.heap.size + 1, 2, none⟩ (.int .i64 zn)).heap.size = w.heap.size + 1 + 1 + 1 := by simp [s3]
   generalize ((V3.setCell ⟨w.heap.size + 1, 0, none⟩ (.bool zp)).setCell ⟨w.heap.size + 1, 1, none⟩ (.int .i64 za)).setCell ⟨w.heap.size + 1, 2, none⟩ (.int .i64 zn) = V at *
   clear ra rb f3 s3
   refine Mix.S_done ?_
   have fV : Fr Non w V := HW.out.1.then f4 (fun x hx e => by rcases e with e | e <;> (subst e; omega))
   have rx : Row V w.heap.size 128 [.int .i64 11, .int .i64 ia, .int .i64 ib, .int .i64 ic, .slice la l.length lc] := f4.row HW.out.2 (by simp; omega)
   obtain ⟨p0, p1, p2, pz⟩ := row3 ra'
   obtain ⟨q0, q1, q2, qz⟩ := row3 rb'
   have HV := Lib.hid (And.intro fV (And.intro rx (And.intro ra' rb')))
   clear fV rx ra' rb' f4 x0 x1 x2 x3 x4 xz y1 hyz
   go_wp2_with fail
   have hN := Lib.hid (numbers_c (V.alloc (.cells #[.bool yp, .int .i64 ya, .int .i64 yn, .bool zp, .int .i64 za, .int .i64 zn] 40)) (w.heap.size + 1 + 1 + 1) 2 ⟨yp, ya, yn⟩ ⟨zp, za, zn⟩ (by exact (Row.new' s4 : Row (V.alloc (.cells #[.bool yp, .int .i64 ya, .int .i64 yn, .bool zp, .int .i64 za, .int .i64 zn] 40)) (w.heap.size + 1 + 1 + 1) 40 _).news))
   refine hN.out.mono ?_
   rintro e1 V5 ⟨rfl, f5⟩
   have f5' : Fr Non V V5 := Fr.trans (by exact (by repeat (first | exact .refl _ _ | assumption | apply Fr.drewN | apply Fr.drew | apply Fr.drewl | apply Fr.drewNl | apply Fr.alloc))) f5
   have s5 := f5'.size
   obtain ⟨p0', p1', p2', pz'⟩ := row3 (f5'.row HV.out.2.2.1 id)
   obtain ⟨q0', q1', q2', qz'⟩ := row3 (f5'.row HV.out.2.2.2 id)
   obtain ⟨x0, x1, x2, x3, x4, xz⟩ := row5 (f5'.row HV.out.2.1 id)
   have HX := Lib.hid (And.intro (HV.out.1.trans f5') (f5'.row HV.out.2.1 id))
   clear f5 f5' p0 p1 p2 pz q0 q1 q2 qz
   have hx5 : w.heap.size < V5.heap.size := by omega
   have hx6 : w.heap.size + 1 < V5.heap.size := by omega
   have hx7 : w.heap.size + 1 + 1 < V5.heap.size := by omega
   have hb5 : b < V5.heap.size := by omega
   cases yp
   · cases zp
     · have hR := HR.out
       rw [if_neg (by simp)] at hR
       have HR := Lib.hid hR
       clear hR
       go_wp2_with fail
       have cW := @Mix.cls_drew V5 [w.heap.size, w.heap.size + 1 + 1, w.heap.size + 1]
       refine Mix.wp_region_mix [2, 4, 6] [(0, 0), (0, 1), (1, 2), (0, 3), (1, 4), (0, 5), (1, 6), (0, 7), (0, 10), (0, 11), (2, 8), (2, 9), (0, 12), (2, 13)] (fun V => ∃ g, V = Mix.upon V5 [w.heap.size, w.heap.size + 1 + 1, w.heap.size + 1] g) (by kernel_rfl) (by kernel_rfl) cW ?_
       clear cW
       repeat (first | ((first | refine Mix.S_pure rfl rfl ?_ | refine Mix.S_load rfl rfl ?_); intro K hK; simp only [nA, nB, nC]; go_big_quiet_op; go_big_quiet_on) | refine Mix.S_skip0 rfl rfl ?_ | refine Mix.S_skip1 rfl rfl ?_)
       refine Mix.S_eff (o := _) rfl rfl ?_
       intro K hK
       simp only [nA, nB, nC]
       go_simp
       refine (bit_c _ (decide (yn < zn))).mono ?_
       rintro e1 V6 ⟨rfl, hf⟩
       refine hK _ _ ⟨Mix.cls_fr (D := Non) hf (by simp [Non]; omega), ?_⟩
       clear hK K
       have f6 : Fr Non w V6 := HX.out.1.trans (Fr.trans (by exact (Fr.refl _ _).drew) hf)
       have s6 := hf.size
       simp only [World.size_drew] at s6
       clear hf
       repeat (first | ((first | refine Mix.S_pure rfl rfl ?_ | refine Mix.S_load rfl rfl ?_); intro K hK; simp only [nA, nB, nC]; go_big_quiet_op; go_big_quiet_on) | refine Mix.S_skip0 rfl rfl ?_ | refine Mix.S_skip1 rfl rfl ?_)
       refine Mix.S_eff (o := _) rfl rfl ?_
       intro K hK
       simp only [nA, nB, nC]
       go_simp
       refine (number_c _ _).mono ?_
       rintro e1 V7 ⟨rfl, hf⟩
       refine hK _ _ ⟨Mix.cls_fr (D := Non) hf (by simp [Non]; omega), ?_⟩
       clear hK K
       have HY := Lib.hid (f6.trans hf)
       have s7 := hf.size
       clear hf f6
       obtain ⟨io', ic', hrow', hins', hreg'⟩ := ((HH.out.1.frN HY.out).cls 0 b c (by rw [HH.out.2.1]; rfl) (by rw [HH.out.2.2.1]; rfl))
       obtain ⟨u0, u1, u2⟩ := Cl.get_reg hreg' io' ic' hia
       have v0 := hrow'.cell u0
       have v1 := hrow'.cell u1
       have v2 := hrow'.cell u2
       have vz := hrow'.frozen
       have HT := Lib.hid (And.intro hrow' (And.intro hins' hreg'))
       clear hrow' hins' hreg' u0 u1 u2
       repeat (first | ((first | refine Mix.S_pure rfl rfl ?_ | refine Mix.S_load rfl rfl ?_); intro K hK; simp only [nA, nB, nC]; go_big_quiet_op; go_big_quiet_on) | refine Mix.S_skip0 rfl rfl ?_ | refine Mix.S_skip1 rfl rfl ?_)
       refine Mix.S_eff (o := _) rfl rfl ?_
       intro K hK
       simp only [nA, nB, nC]
       go_simp
       refine hK _ _ ⟨Mix.cls_fr (D := fun x => x = b) (by exact Fr.set3 _ _ _ _ _ _ _ _) (by simp; omega), ?_⟩
       clear hK K v0 v1 v2 vz
       repeat (first | ((first | refine Mix.S_pure rfl rfl ?_ | refine Mix.S_load rfl rfl ?_); intro K hK; simp only [nA, nB, nC]; go_big_quiet_op; go_big_quiet_on) | refine Mix.S_skip0 rfl rfl ?_ | refine Mix.S_skip1 rfl rfl ?_)
       refine Mix.S_done ?_
       go_wp2_with fail
       go_ret
       rw [HR.out]
       obtain ⟨hrow', hins', hreg'⟩ := HT.out
       exact ⟨rfl, Aft.ahead HY.out ((HH.out.1.frN HY.out).aftTop HH.out.2.1 (ClAt.put hrow' hins' hreg' hia hbb (num (bitS (decide (yn < zn))))) (Fr.set3 _ _ _ _ _ _ _ _))⟩
     · go_wp2_with fail
       go_ret
       rw [HR.out, if_pos (by simp)]
       refine ⟨rfl, ?_⟩
       rw [St.setTop_self (c := c) (cs := cs) (by exact HH.out.2.2.1)]
       exact HH.out.1.aftN HX.out.1
   · go_wp2_with fail
     go_ret
     rw [HR.out, if_pos (by simp)]
     refine ⟨rfl, ?_⟩
     rw [St.setTop_self (c := c) (cs := cs) (by exact HH.out.2.2.1)]
     exact HH.out.1.aftN HX.out.1

set_option maxRecDepth 100000 in
set_option maxHeartbeats 2000000 in
theorem reckons_12 (h : ML base P A w m S L) {b : Nat} {bs : List Nat} {c : Cl} {cs : List Cl} (hb : L.bl = b :: bs) (hs : S.stack = c :: cs) {ia ib ic : Nat} (hia : ia < 16) (hib : ib < 16) (hic : ic < 16) (l : List Int) (la : Option Addr) (lc : Nat) :
 ReckC base P A w m S b c ⟨12, ia, ib, ic, l⟩ la lc := by
 unfold ReckC
 obtain ⟨R, hR⟩ : ∃ R, R = reckonsS c ⟨12, ia, ib, ic, l⟩ := ⟨_, rfl⟩
 rw [← hR]
 have hR2 : R = if (c.reg ib).p ∨ (c.reg ic).p then (c, 11) else (c.put ia (num (bitS ((c.reg ib).n == (c.reg ic).n))), 0) := by rw [hR]; simp [reckonsS]
 clear hR
 have hm := h.mlt
 obtain ⟨io, icc, hrow, hins, hreg⟩ := h.cls 0 b c (by rw [hb]; rfl) (by rw [hs]; rfl)
 have hbw := hrow.lt
 have hbl : b ∈ L.bl := by rw [hb]; exact List.mem_cons_self
 have y1 := hrow.cell (o := 1) rfl
 have hyz := hrow.frozen
 have hbb := h.high _ (h.ob _ hbl)
 obtain ⟨u0, u1, u2⟩ := Cl.get_reg hreg io icc hib
 have y00 := hrow.cell u0
 have y01 := hrow.cell u1
 have y02 := hrow.cell u2
 obtain ⟨s0, s1, s2⟩ := Cl.get_reg hreg io icc hic
 have z0 := hrow.cell s0
 have z1 := hrow.cell s1
 have z2 := hrow.cell s2
 have hia0 : (0 : Int) ≤ (ia : Int) := by omega
 have hia1 : (ia : Int) < 16 := by omega
 have hib0 : (0 : Int) ≤ (ib : Int) := by omega
 have hib1 : (ib : Int) < 16 := by omega
 have hic0 : (0 : Int) ≤ (ic : Int) := by omega
 have hic1 : (ic : Int) < 16 := by omega
 generalize hrb : c.reg (ib : Int) = rb at y00 y01 y02 hR2
 generalize hrc : c.reg (ic : Int) = rc at z0 z1 z2 hR2
 obtain ⟨yp, ya, yn⟩ := rb
 obtain ⟨zp, za, zn⟩ := rc
 simp only at y00 y01 y02 z0 z1 z2 hR2
 have HR := Lib.hid hR2
 have HH := Lib.hid (And.intro h (And.intro hb (And.intro hs (And.intro hrow (And.intro hins hreg)))))
 clear h hb hs hrow hins hreg hbl hR2 u0 u1 u2 s0 s1 s2 hrb hrc
 go_enter Tryz.func104, Tryz.ntmps104
 go_wp2_with fail
 have hrx : Row (w.alloc (.cells #[.int .i64 12, .int .i64 ia, .int .i64 ib, .int .i64 ic, .slice la l.length lc] 128)) w.heap.size 128 [.int .i64 12, .int .i64 ia, .int .i64 ib, .int .i64 ic, .slice la l.length lc] := Row.new' rfl
 have hf0 : Fr Non w (w.alloc (.cells #[.int .i64 12, .int .i64 ia, .int .i64 ib, .int .i64 ic, .slice la l.length lc] 128)) := by exact (by repeat (first | exact .refl _ _ | assumption | apply Fr.drewN | apply Fr.drew | apply Fr.drewl | apply Fr.drewNl | apply Fr.alloc))
 have hs0 : (w.alloc (.cells #[.int .i64 12, .int .i64 ia, .int .i64 ib, .int .i64 ic, .slice la l.length lc] 128)).heap.size = w.heap.size + 1 := by simp
 generalize w.alloc (.cells #[.int .i64 12, .int .i64 ia, .int .i64 ib, .int .i64 ic, .slice la l.length lc] 128) = W at *
 obtain ⟨x0, x1, x2, x3, x4, xz⟩ := row5 hrx
 have yw0 := hf0.cell y00 id
 have yw1 := hf0.cell y01 id
 have yw2 := hf0.cell y02 id
 have zw0 := hf0.cell z0 id
 have zw1 := hf0.cell z1 id
 have zw2 := hf0.cell z2 id
 have HW := Lib.hid (And.intro hf0 hrx)
 clear hrx hf0 z0 z1 z2 y00 y01 y02
 have hxw : w.heap.size < W.heap.size := by omega
 have hbW : b < W.heap.size := by omega
 have cW := @Mix.cls_drew W [b, w.heap.size]
 refine Mix.wp_region_alt [2, 6, 9, 13] [(0, 0), (0, 1), (1, 2), (0, 3), (0, 4), (0, 5), (1, 6), (0, 7), (0, 8), (1, 9), (0, 10), (0, 11), (0, 12), (1, 13)] 14 15 [(2, 15), (2, 16), (2, 17)] [(2, 14), (2, 16), (2, 17)] (fun V => ∃ g, V = Mix.upon W [b, w.heap.size] g) (by kernel_rfl) (by kernel_rfl) cW ?_
 clear cW
 repeat (first | ((first | refine Mix.S_pure rfl rfl ?_ | refine Mix.S_load rfl rfl ?_); intro K hK; simp only [nA, nB, nC]; go_big_quiet_op; go_big_quiet_on) | refine Mix.S_skip0 rfl rfl ?_ | refine Mix.S_skip1 rfl rfl ?_)
 refine Mix.S_done ?_
 clear yw0 yw1 yw2 zw0 zw1 zw2
 refine ⟨?_, ?_⟩
 · refine Mix.N_eff (C := fun V => ∃ g, V = Mix.upon W [b, w.heap.size] g) (o := _) rfl rfl ?_
   intro K hK
   simp only [nA, nB, nC]
   go_simp
   refine hK _ _ ⟨Mix.cls_fr (D := Non) (by exact ((Fr.refl Non W).alloc _).drew.drewl) (by simp [Non]; omega), ?_⟩
   clear hK K
   have r1 : Row ((W.alloc (.cells #[.bool false, .int .i64 0, .int .i64 0] 40)).drew) (w.heap.size + 1) 40 [.bool false, .int .i64 0, .int .i64 0] := Row.drew (Row.new' hs0)
   have f1 : Fr Non W ((W.alloc (.cells #[.bool false, .int .i64 0, .int .i64 0] 40)).drew) := ((Fr.refl Non W).alloc _).drew
   have s1 : ((W.alloc (.cells #[.bool false, .int .i64 0, .int .i64 0] 40)).drew).heap.size = w.heap.size + 1 + 1 := by simp [hs0]
   generalize (W.alloc (.cells #[.bool false, .int .i64 0, .int .i64 0] 40)).drew = V1 at *
   refine Mix.S_eff (o := _) rfl rfl ?_
   intro K hK
   simp only [nA, nB, nC]
   go_simp
   refine hK _ _ ⟨Mix.cls_fr (D := Non) (by exact (Fr.refl Non V1).alloc _) (by simp [Non]; omega), ?_⟩
   clear hK K
   have r2 : Row (V1.alloc (.cells #[.bool false, .int .i64 0, .int .i64 0] 40)) (w.heap.size + 1 + 1) 40 [.bool false, .int .i64 0, .int .i64 0] := Row.new' s1
   have r1' : Row (V1.alloc (.cells #[.bool false, .int .i64 0, .int .i64 0] 40)) (w.heap.size + 1) 40 [.bool false, .int .i64 0, .int .i64 0] := r1.alloc _
   have f2 : Fr Non W (V1.alloc (.cells #[.bool false, .int .i64 0, .int .i64 0] 40)) := f1.alloc _
   have s2 : (V1.alloc (.cells #[.bool false, .int .i64 0, .int .i64 0] 40)).heap.size = w.heap.size + 1 + 1 + 1 := by simp [s1]
   generalize V1.alloc (.cells #[.bool false, .int .i64 0, .int .i64 0] 40) = V2 at *
   clear r1 f1 s1
   obtain ⟨p0, p1, p2, pz⟩ := row3 r1'
   refine Mix.S_eff (o := _) rfl rfl ?_
   intro K hK
   simp only [nA, nB, nC]
   go_simp
   refine hK _ _ ⟨Mix.cls_fr (D := fun x => x = w.heap.size + 1) (by exact Fr.set3 _ _ _ _ _ _ _ _) (by simp; omega), ?_⟩
   clear hK K p0 p1 p2 pz
   have ra : Row (((V2.setCell ⟨w.heap.size + 1, 0, none⟩ (.bool yp)).setCell ⟨w.heap.size + 1, 1, none⟩ (.int .i64 ya)).setCell ⟨w.heap.size + 1, 2, none⟩ (.int .i64 yn)) (w.heap.size + 1) 40 [.bool yp, .int .i64 ya, .int .i64 yn] := ((r1'.set_same 0 (.bool yp)).set_same 1 (.int .i64 ya)).set_same 2 (.int .i64 yn)
   have rb : Row (((V2.setCell ⟨w.heap.size + 1, 0, none⟩ (.bool yp)).setCell ⟨w.heap.size + 1, 1, none⟩ (.int .i64 ya)).setCell ⟨w.heap.size + 1, 2, none⟩ (.int .i64 yn)) (w.heap.size + 1 + 1) 40 [.bool false, .int .i64 0, .int .i64 0] := (Fr.set3 V2 (w.heap.size + 1) _ _ _ _ _ _).row r2 (by simp)
   have f3 : Fr (fun x => x = w.heap.size + 1) W (((V2.setCell ⟨w.heap.size + 1, 0, none⟩ (.bool yp)).setCell ⟨w.heap.size + 1, 1, none⟩ (.int .i64 ya)).setCell ⟨w.heap.size + 1, 2, none⟩ (.int .i64 yn)) := (f2.mono fun _ _ h => h.elim).trans (Fr.set3 _ _ _ _ _ _ _ _)
   have s3 : (((V2.setCell ⟨w.heap.size + 1, 0, none⟩ (.bool yp)).setCell ⟨w.heap.size + 1, 1, none⟩ (.int .i64 ya)).setCell ⟨w.heap.size + 1, 2, none⟩ (.int .i64 yn)).heap.size = w.heap.size + 1 + 1 + 1 := by simp [s2]
   generalize ((V2.setCell ⟨w.heap.size + 1, 0, none⟩ (.bool yp)).setCell ⟨w.heap.size + 1, 1, none⟩ (.int .i64 ya)).setCell ⟨w.heap.size + 1, 2, none⟩ (.int .i64 yn) = V3 at *
   clear r1' r2 f2 s2
   obtain ⟨p0, p1, p2, pz⟩ := row3 rb
   refine Mix.S_eff (o := _) rfl rfl ?_
   intro K hK
   simp only [nA, nB, nC]
   go_simp
   refine hK _ _ ⟨Mix.cls_fr (D := fun x => x = w.heap.size + 1 + 1) (by exact Fr.set3 _ _ _ _ _ _ _ _) (by simp; omega), ?_⟩
   clear hK K p0 p1 p2 pz
   have ra' : Row (((V3.setCell ⟨w.heap.size + 1 + 1, 0, none⟩ (.bool zp)).setCell ⟨w.heap.size + 1 + 1, 1, none⟩ (.int .i64 za)).setCell ⟨w.heap.size + 1 + 1, 2, none⟩ (.int .i64 zn)) (w.heap.size + 1) 40 [.bool yp, .int .i64 ya, .int .i64 yn] := (Fr.set3 V3 (w.heap.size + 1 + 1) _ _ _ _ _ _).row ra (by simp)
   have rb' : Row (((V3.setCell ⟨w.heap.size + 1 + 1, 0, none⟩ (.bool zp)).setCell ⟨w.heap.size + 1 + 1, 1, none⟩ (.int .i64 za)).setCell ⟨w.heap.size + 1 + 1, 2, none⟩ (.int .i64 zn)) (w.heap.size + 1 + 1) 40 [.bool zp, .int .i64 za, .int .i64 zn] := ((rb.set_same 0 (.bool zp)).set_same 1 (.int .i64 za)).set_same 2 (.int .i64 zn)
   have f4 : Fr (fun x => x = w.heap.size + 1 ∨ x = w.heap.size + 1 + 1) W (((V3.setCell ⟨w.heap.size + 1 + 1, 0, none⟩ (.bool zp)).setCell ⟨w.heap.size + 1 + 1, 1, none⟩ (.int .i64 za)).setCell ⟨w.heap.size + 1 + 1, 2, none⟩ (.int .i64 zn)) := (f3.mono fun _ _ h => Or.inl h).trans ((Fr.set3 _ _ _ _ _ _ _ _).mono fun _ _ h => Or.inr h)
   have s4 : (((V3.setCell ⟨w.heap.size + 1 + 1, 0, none⟩ (.bool zp)).setCell ⟨w.heap.size + 1 + 1, 1, none⟩ (.int .i64 za)).setCell ⟨w.heap.size + 1 + 1, 2, none⟩ (.int .i64 zn)).heap.size = w.heap.size + 1 + 1 + 1 := by simp [s3]
   generalize ((V3.setCell ⟨w.heap.size + 1 + 1, 0, none⟩ (.bool zp)).setCell ⟨w.heap.size + 1 + 1, 1, none⟩ (.int .i64 za)).setCell ⟨w.heap.size + 1 + 1, 2, none⟩ (.int .i64 zn) = V at *
   clear ra rb f3 s3
   refine Mix.S_done ?_
   have fV : Fr Non w V := HW.out.1.then f4 (fun x hx e => by rcases e with e | e <;> (subst e; omega))
   have rx : Row V w.heap.size 128 [.int .i64 12, .int .i64 ia, .int .i64 ib, .int .i64 ic, .slice la l.length lc] := f4.row HW.out.2 (by simp; omega)
   obtain ⟨p0, p1, p2, pz⟩ := row3 ra'
   obtain ⟨q0, q1, q2, qz⟩ := row3 rb'
   have HV := Lib.hid (And.intro fV (And.intro rx (And.intro ra' rb')))
   clear fV rx ra' rb' f4 x0 x1 x2 x3 x4 xz y1 hyz
   go_wp2_with fail
   have hN := Lib.hid (numbers_c (V.alloc (.cells #[.bool yp, .int .i64 ya, .int .i64 yn, .bool zp, .int .i64 za, .int .i64 zn] 40)) (w.heap.size + 1 + 1 + 1) 2 ⟨yp, ya, yn⟩ ⟨zp, za, zn⟩ (by exact (Row.new' s4 : Row (V.alloc (.cells #[.bool yp, .int .i64 ya, .int .i64 yn, .bool zp, .int .i64 za, .int .i64 zn] 40)) (w.heap.size + 1 + 1 + 1) 40 _).news))
   refine hN.out.mono ?_
   rintro e1 V5 ⟨rfl, f5⟩
   have f5' : Fr Non V V5 := Fr.trans (by exact (by repeat (first | exact .refl _ _ | assumption | apply Fr.drewN | apply Fr.drew | apply Fr.drewl | apply Fr.drewNl | apply Fr.alloc))) f5
   have s5 := f5'.size
   obtain ⟨p0', p1', p2', pz'⟩ := row3 (f5'.row HV.out.2.2.1 id)
   obtain ⟨q0', q1', q2', qz'⟩ := row3 (f5'.row HV.out.2.2.2 id)
   obtain ⟨x0, x1, x2, x3, x4, xz⟩ := row5 (f5'.row HV.out.2.1 id)
   have HX := Lib.hid (And.intro (HV.out.1.trans f5') (f5'.row HV.out.2.1 id))
   clear f5 f5' p0 p1 p2 pz q0 q1 q2 qz
   have hx5 : w.heap.size < V5.heap.size := by omega
   have hx6 : w.heap.size + 1 < V5.heap.size := by omega
   have hx7 : w.heap.size + 1 + 1 < V5.heap.size := by omega
   have hb5 : b < V5.heap.size := by omega
   cases yp
   · cases zp
     · have hR := HR.out
       rw [if_neg (by simp)] at hR
       have HR := Lib.hid hR
       clear hR
       go_wp2_with fail
       have cW := @Mix.cls_drew V5 [w.heap.size, w.heap.size + 1, w.heap.size + 1 + 1]
       refine Mix.wp_region_mix [2, 4, 6] [(0, 0), (0, 1), (1, 2), (0, 3), (1, 4), (0, 5), (1, 6), (0, 7), (0, 10), (0, 11), (2, 8), (2, 9), (0, 12), (2, 13)] (fun V => ∃ g, V = Mix.upon V5 [w.heap.size, w.heap.size + 1, w.heap.size + 1 + 1] g) (by kernel_rfl) (by kernel_rfl) cW ?_
       clear cW
       repeat (first | ((first | refine Mix.S_pure rfl rfl ?_ | refine Mix.S_load rfl rfl ?_); intro K hK; simp only [nA, nB, nC]; go_big_quiet_op; go_big_quiet_on) | refine Mix.S_skip0 rfl rfl ?_ | refine Mix.S_skip1 rfl rfl ?_)
       refine Mix.S_eff (o := _) rfl rfl ?_
       intro K hK
       simp only [nA, nB, nC]
       go_simp
       refine (bit_c _ (yn == zn)).mono ?_
       rintro e1 V6 ⟨rfl, hf⟩
       refine hK _ _ ⟨Mix.cls_fr (D := Non) hf (by simp [Non]; omega), ?_⟩
       clear hK K
       have f6 : Fr Non w V6 := HX.out.1.trans (Fr.trans (by exact (Fr.refl _ _).drew) hf)
       have s6 := hf.size
       simp only [World.size_drew] at s6
       clear hf
       repeat (first | ((first | refine Mix.S_pure rfl rfl ?_ | refine Mix.S_load rfl rfl ?_); intro K hK; simp only [nA, nB, nC]; go_big_quiet_op; go_big_quiet_on) | refine Mix.S_skip0 rfl rfl ?_ | refine Mix.S_skip1 rfl rfl ?_)
       refine Mix.S_eff (o := _) rfl rfl ?_
       intro K hK
       simp only [nA, nB, nC]
       go_simp
       refine (number_c _ _).mono ?_
       rintro e1 V7 ⟨rfl, hf⟩
       refine hK _ _ ⟨Mix.cls_fr (D := Non) hf (by simp [Non]; omega), ?_⟩
       clear hK K
       have HY := Lib.hid (f6.trans hf)
       have s7 := hf.size
       clear hf f6
       obtain ⟨io', ic', hrow', hins', hreg'⟩ := ((HH.out.1.frN HY.out).cls 0 b c (by rw [HH.out.2.1]; rfl) (by rw [HH.out.2.2.1]; rfl))
       obtain ⟨u0, u1, u2⟩ := Cl.get_reg hreg' io' ic' hia
       have v0 := hrow'.cell u0
       have v1 := hrow'.cell u1
       have v2 := hrow'.cell u2
       have vz := hrow'.frozen
       have HT := Lib.hid (And.intro hrow' (And.intro hins' hreg'))
       clear hrow' hins' hreg' u0 u1 u2
       repeat (first | ((first | refine Mix.S_pure rfl rfl ?_ | refine Mix.S_load rfl rfl ?_); intro K hK; simp only [nA, nB, nC]; go_big_quiet_op; go_big_quiet_on) | refine Mix.S_skip0 rfl rfl ?_ | refine Mix.S_skip1 rfl rfl ?_)
       refine Mix.S_eff (o := _) rfl rfl ?_
       intro K hK
       simp only [nA, nB, nC]
       go_simp
       refine hK _ _ ⟨Mix.cls_fr (D := fun x => x = b) (by exact Fr.set3 _ _ _ _ _ _ _ _) (by simp; omega), ?_⟩
       clear hK K v0 v1 v2 vz
       repeat (first | ((first | refine Mix.S_pure rfl rfl ?_ | refine Mix.S_load rfl rfl ?_); intro K hK; simp only [nA, nB, nC]; go_big_quiet_op; go_big_quiet_on) | refine Mix.S_skip0 rfl rfl ?_ | refine Mix.S_skip1 rfl rfl ?_)
       refine Mix.S_done ?_
       go_wp2_with fail
       go_ret
       rw [HR.out]
       obtain ⟨hrow', hins', hreg'⟩ := HT.out
       exact ⟨rfl, Aft.ahead HY.out ((HH.out.1.frN HY.out).aftTop HH.out.2.1 (ClAt.put hrow' hins' hreg' hia hbb (num (bitS (yn == zn)))) (Fr.set3 _ _ _ _ _ _ _ _))⟩
     · go_wp2_with fail
       go_ret
       rw [HR.out, if_pos (by simp)]
       refine ⟨rfl, ?_⟩
       rw [St.setTop_self (c := c) (cs := cs) (by exact HH.out.2.2.1)]
       exact HH.out.1.aftN HX.out.1
   · go_wp2_with fail
     go_ret
     rw [HR.out, if_pos (by simp)]
     refine ⟨rfl, ?_⟩
     rw [St.setTop_self (c := c) (cs := cs) (by exact HH.out.2.2.1)]
     exact HH.out.1.aftN HX.out.1
 · refine Mix.N_eff (C := fun V => ∃ g, V = Mix.upon W [b, w.heap.size] g) (o := _) rfl rfl ?_
   intro K hK
   simp only [nA, nB, nC]
   go_simp
   refine hK _ _ ⟨Mix.cls_fr (D := Non) (by exact ((Fr.refl Non W).alloc _).drew.drewl) (by simp [Non]; omega), ?_⟩
   clear hK K
   have r1 : Row ((W.alloc (.cells #[.bool false, .int .i64 0, .int .i64 0] 40)).drew) (w.heap.size + 1) 40 [.bool false, .int .i64 0, .int .i64 0] := Row.drew (Row.new' hs0)
   have f1 : Fr Non W ((W.alloc (.cells #[.bool false, .int .i64 0, .int .i64 0] 40)).drew) := ((Fr.refl Non W).alloc _).drew
   have s1 : ((W.alloc (.cells #[.bool false, .int .i64 0, .int .i64 0] 40)).drew).heap.size = w.heap.size + 1 + 1 := by simp [hs0]
   generalize (W.alloc (.cells #[.bool false, .int .i64 0, .int .i64 0] 40)).drew = V1 at *
   refine Mix.S_eff (o := _) rfl rfl ?_
   intro K hK
   simp only [nA, nB, nC]
   go_simp
   refine hK _ _ ⟨Mix.cls_fr (D := Non) (by exact (Fr.refl Non V1).alloc _) (by simp [Non]; omega), ?_⟩
   clear hK K
   have r2 : Row (V1.alloc (.cells #[.bool false, .int .i64 0, .int .i64 0] 40)) (w.heap.size + 1 + 1) 40 [.bool false, .int .i64 0, .int .i64 0] := Row.new' s1
   have r1' : Row (V1.alloc (.cells #[.bool false, .int .i64 0, .int .i64 0] 40)) (w.heap.size + 1) 40 [.bool false, .int .i64 0, .int .i64 0] := r1.alloc _
   have f2 : Fr Non W (V1.alloc (.cells #[.bool false, .int .i64 0, .int .i64 0] 40)) := f1.alloc _
   have s2 : (V1.alloc (.cells #[.bool false, .int .i64 0, .int .i64 0] 40)).heap.size = w.heap.size + 1 + 1 + 1 := by simp [s1]
   generalize V1.alloc (.cells #[.bool false, .int .i64 0, .int .i64 0] 40) = V2 at *
   clear r1 f1 s1
   obtain ⟨p0, p1, p2, pz⟩ := row3 r2
   refine Mix.S_eff (o := _) rfl rfl ?_
   intro K hK
   simp only [nA, nB, nC]
   go_simp
   refine hK _ _ ⟨Mix.cls_fr (D := fun x => x = w.heap.size + 1 + 1) (by exact Fr.set3 _ _ _ _ _ _ _ _) (by simp; omega), ?_⟩
   clear hK K p0 p1 p2 pz
   have ra : Row (((V2.setCell ⟨w.heap.size + 1 + 1, 0, none⟩ (.bool yp)).setCell ⟨w.heap.size + 1 + 1, 1, none⟩ (.int .i64 ya)).setCell ⟨w.heap.size + 1 + 1, 2, none⟩ (.int .i64 yn)) (w.heap.size + 1 + 1) 40 [.bool yp, .int .i64 ya, .int .i64 yn] := ((r2.set_same 0 (.bool yp)).set_same 1 (.int .i64 ya)).set_same 2 (.int .i64 yn)
   have rb : Row (((V2.setCell ⟨w.heap.size + 1 + 1, 0, none⟩ (.bool yp)).setCell ⟨w.heap.size + 1 + 1, 1, none⟩ (.int .i64 ya)).setCell ⟨w.heap.size + 1 + 1, 2, none⟩ (.int .i64 yn)) (w.heap.size + 1) 40 [.bool false, .int .i64 0, .int .i64 0] := (Fr.set3 V2 (w.heap.size + 1 + 1) _ _ _ _ _ _).row r1' (by simp)
   have f3 : Fr (fun x => x = w.heap.size + 1 + 1) W (((V2.setCell ⟨w.heap.size + 1 + 1, 0, none⟩ (.bool yp)).setCell ⟨w.heap.size + 1 + 1, 1, none⟩ (.int .i64 ya)).setCell ⟨w.heap.size + 1 + 1, 2, none⟩ (.int .i64 yn)) := (f2.mono fun _ _ h => h.elim).trans (Fr.set3 _ _ _ _ _ _ _ _)
   have s3 : (((V2.setCell ⟨w.heap.size + 1 + 1, 0, none⟩ (.bool yp)).setCell ⟨w.heap.size + 1 + 1, 1, none⟩ (.int .i64 ya)).setCell ⟨w.heap.size + 1 + 1, 2, none⟩ (.int .i64 yn)).heap.size = w.heap.size + 1 + 1 + 1 := by simp [s2]
   generalize ((V2.setCell ⟨w.heap.size + 1 + 1, 0, none⟩ (.bool yp)).setCell ⟨w.heap.size + 1 + 1, 1, none⟩ (.int .i64 ya)).setCell ⟨w.heap.size + 1 + 1, 2, none⟩ (.int .i64 yn) = V3 at *
   clear r1' r2 f2 s2
   obtain ⟨p0, p1, p2, pz⟩ := row3 rb
   refine Mix.S_eff (o := _) rfl rfl ?_
   intro K hK
   simp only [nA, nB, nC]
   go_simp
   refine hK _ _ ⟨Mix.cls_fr (D := fun x => x = w.heap.size + 1) (by exact Fr.set3 _ _ _ _ _ _ _ _) (by simp; omega), ?_⟩
   clear hK K p0 p1 p2 pz
   have ra' : Row (((V3.setCell ⟨w.heap.size + 1, 0, none⟩ (.bool zp)).setCell ⟨w.heap.size + 1, 1, none⟩ (.int .i64 za)).setCell ⟨w.heap.size + 1, 2, none⟩ (.int .i64 zn)) (w.heap.size + 1 + 1) 40 [.bool yp, .int .i64 ya, .int .i64 yn] := (Fr.set3 V3 (w.heap.size + 1) _ _ _ _ _ _).row ra (by simp)
   have rb' : Row (((V3.setCell ⟨w.heap.size + 1, 0, none⟩ (.bool zp)).setCell ⟨w.heap.size + 1, 1, none⟩ (.int .i64 za)).setCell ⟨w.heap.size + 1, 2, none⟩ (.int .i64 zn)) (w.heap.size + 1) 40 [.bool zp, .int .i64 za, .int .i64 zn] := ((rb.set_same 0 (.bool zp)).set_same 1 (.int .i64 za)).set_same 2 (.int .i64 zn)
   have f4 : Fr (fun x => x = w.heap.size + 1 + 1 ∨ x = w.heap.size + 1) W (((V3.setCell ⟨w.heap.size + 1, 0, none⟩ (.bool zp)).setCell ⟨w.heap.size + 1, 1, none⟩ (.int .i64 za)).setCell ⟨w.heap.size + 1, 2, none⟩ (.int .i64 zn)) := (f3.mono fun _ _ h => Or.inl h).trans ((Fr.set3 _ _ _ _ _ _ _ _).mono fun _ _ h => Or.inr h)
   have s4 : (((V3.setCell ⟨w.heap.size + 1, 0, none⟩ (.bool zp)).setCell ⟨w.heap.size + 1, 1, none⟩ (.int .i64 za)).setCell ⟨w.heap.size + 1, 2, none⟩ (.int .i64 zn)).heap.size = w.heap.size + 1 + 1 + 1 := by simp [s3]
   generalize ((V3.setCell ⟨w.heap.size + 1, 0, none⟩ (.bool zp)).setCell ⟨w.heap.size + 1, 1, none⟩ (.int .i64 za)).setCell ⟨w.heap.size + 1, 2, none⟩ (.int .i64 zn) = V at *
   clear ra rb f3 s3
   refine Mix.S_done ?_
   have fV : Fr Non w V := HW.out.1.then f4 (fun x hx e => by rcases e with e | e <;> (subst e; omega))
   have rx : Row V w.heap.size 128 [.int .i64 12, .int .i64 ia, .int .i64 ib, .int .i64 ic, .slice la l.length lc] := f4.row HW.out.2 (by simp; omega)
   obtain ⟨p0, p1, p2, pz⟩ := row3 ra'
   obtain ⟨q0, q1, q2, qz⟩ := row3 rb'
   have HV := Lib.hid (And.intro fV (And.intro rx (And.intro ra' rb')))
   clear fV rx ra' rb' f4 x0 x1 x2 x3 x4 xz y1 hyz
   go_wp2_with fail
   have hN := Lib.hid (numbers_c (V.alloc (.cells #[.bool yp, .int .i64 ya, .int .i64 yn, .bool zp, .int .i64 za, .int .i64 zn] 40)) (w.heap.size + 1 + 1 + 1) 2 ⟨yp, ya, yn⟩ ⟨zp, za, zn⟩ (by exact (Row.new' s4 : Row (V.alloc (.cells #[.bool yp, .int .i64 ya, .int .i64 yn, .bool zp, .int .i64 za, .int .i64 zn] 40)) (w.heap.size + 1 + 1 + 1) 40 _).news))
   refine hN.out.mono ?_
   rintro e1 V5 ⟨rfl, f5⟩
   have f5' : Fr Non V V5 := Fr.trans (by exact (by repeat (first | exact .refl _ _ | assumption | apply Fr.drewN | apply Fr.drew | apply Fr.drewl | apply Fr.drewNl | apply Fr.alloc))) f5
   have s5 := f5'.size
   obtain ⟨p0', p1', p2', pz'⟩ := row3 (f5'.row HV.out.2.2.1 id)
   obtain ⟨q0', q1', q2', qz'⟩ := row3 (f5'.row HV.out.2.2.2 id)
   obtain ⟨x0, x1, x2, x3, x4, xz⟩ := row5 (f5'.row HV.out.2.1 id)
   have HX := Lib.hid (And.intro (HV.out.1.trans f5') (f5'.row HV.out.2.1 id))
   clear f5 f5' p0 p1 p2 pz q0 q1 q2 qz
   have hx5 : w.heap.size < V5.heap.size := by omega
   have hx6 : w.heap.size + 1 < V5.heap.size := by omega
   have hx7 : w.heap.size + 1 + 1 < V5.heap.size := by omega
   have hb5 : b < V5.heap.size := by omega
   cases yp
   · cases zp
     · have hR := HR.out
       rw [if_neg (by simp)] at hR
       have HR := Lib.hid hR
       clear hR
       go_wp2_with fail
       have cW := @Mix.cls_drew V5 [w.heap.size, w.heap.size + 1 + 1, w.heap.size + 1]
       refine Mix.wp_region_mix [2, 4, 6] [(0, 0), (0, 1), (1, 2), (0, 3), (1, 4), (0, 5), (1, 6), (0, 7), (0, 10), (0, 11), (2, 8), (2, 9), (0, 12), (2, 13)] (fun V => ∃ g, V = Mix.upon V5 [w.heap.size, w.heap.size + 1 + 1, w.heap.size + 1] g) (by kernel_rfl) (by kernel_rfl) cW ?_
       clear cW
       repeat (first | ((first | refine Mix.S_pure rfl rfl ?_ | refine Mix.S_load rfl rfl ?_); intro K hK; simp only [nA, nB, nC]; go_big_quiet_op; go_big_quiet_on) | refine Mix.S_skip0 rfl rfl ?_ | refine Mix.S_skip1 rfl rfl ?_)
       refine Mix.S_eff (o := _) rfl rfl ?_
       intro K hK
       simp only [nA, nB, nC]
       go_simp
       refine (bit_c _ (yn == zn)).mono ?_
       rintro e1 V6 ⟨rfl, hf⟩
       refine hK _ _ ⟨Mix.cls_fr (D := Non) hf (by simp [Non]; omega), ?_⟩
       clear hK K
       have f6 : Fr Non w V6 := HX.out.1.trans (Fr.trans (by exact (Fr.refl _ _).drew) hf)
       have s6 := hf.size
       simp only [World.size_drew] at s6
       clear hf
       repeat (first | ((first | refine Mix.S_pure rfl rfl ?_ | refine Mix.S_load rfl rfl ?_); intro K hK; simp only [nA, nB, nC]; go_big_quiet_op; go_big_quiet_on) | refine Mix.S_skip0 rfl rfl ?_ | refine Mix.S_skip1 rfl rfl ?_)
       refine Mix.S_eff (o := _) rfl rfl ?_
       intro K hK
       simp only [nA, nB, nC]
       go_simp
       refine (number_c _ _).mono ?_
       rintro e1 V7 ⟨rfl, hf⟩
       refine hK _ _ ⟨Mix.cls_fr (D := Non) hf (by simp [Non]; omega), ?_⟩
       clear hK K
       have HY := Lib.hid (f6.trans hf)
       have s7 := hf.size
       clear hf f6
       obtain ⟨io', ic', hrow', hins', hreg'⟩ := ((HH.out.1.frN HY.out).cls 0 b c (by rw [HH.out.2.1]; rfl) (by rw [HH.out.2.2.1]; rfl))
       obtain ⟨u0, u1, u2⟩ := Cl.get_reg hreg' io' ic' hia
       have v0 := hrow'.cell u0
       have v1 := hrow'.cell u1
       have v2 := hrow'.cell u2
       have vz := hrow'.frozen
       have HT := Lib.hid (And.intro hrow' (And.intro hins' hreg'))
       clear hrow' hins' hreg' u0 u1 u2
       repeat (first | ((first | refine Mix.S_pure rfl rfl ?_ | refine Mix.S_load rfl rfl ?_); intro K hK; simp only [nA, nB, nC]; go_big_quiet_op; go_big_quiet_on) | refine Mix.S_skip0 rfl rfl ?_ | refine Mix.S_skip1 rfl rfl ?_)
       refine Mix.S_eff (o := _) rfl rfl ?_
       intro K hK
       simp only [nA, nB, nC]
       go_simp
       refine hK _ _ ⟨Mix.cls_fr (D := fun x => x = b) (by exact Fr.set3 _ _ _ _ _ _ _ _) (by simp; omega), ?_⟩
       clear hK K v0 v1 v2 vz
       repeat (first | ((first | refine Mix.S_pure rfl rfl ?_ | refine Mix.S_load rfl rfl ?_); intro K hK; simp only [nA, nB, nC]; go_big_quiet_op; go_big_quiet_on) | refine Mix.S_skip0 rfl rfl ?_ | refine Mix.S_skip1 rfl rfl ?_)
       refine Mix.S_done ?_
       go_wp2_with fail
       go_ret
       rw [HR.out]
       obtain ⟨hrow', hins', hreg'⟩ := HT.out
       exact ⟨rfl, Aft.ahead HY.out ((HH.out.1.frN HY.out).aftTop HH.out.2.1 (ClAt.put hrow' hins' hreg' hia hbb (num (bitS (yn == zn)))) (Fr.set3 _ _ _ _ _ _ _ _))⟩
     · go_wp2_with fail
       go_ret
       rw [HR.out, if_pos (by simp)]
       refine ⟨rfl, ?_⟩
       rw [St.setTop_self (c := c) (cs := cs) (by exact HH.out.2.2.1)]
       exact HH.out.1.aftN HX.out.1
   · go_wp2_with fail
     go_ret
     rw [HR.out, if_pos (by simp)]
     refine ⟨rfl, ?_⟩
     rw [St.setTop_self (c := c) (cs := cs) (by exact HH.out.2.2.1)]
     exact HH.out.1.aftN HX.out.1

set_option maxRecDepth 100000 in
set_option maxHeartbeats 2000000 in
theorem reckons_ar (h : ML base P A w m S L) {b : Nat} {bs : List Nat} {c : Cl} {cs : List Cl} (hb : L.bl = b :: bs) (hs : S.stack = c :: cs) {ia ib ic : Nat} (hia : ia < 16) (hib : ib < 16) (hic : ic < 16) {op : Int} (h13 : ¬ op = 13) (h14 : ¬ op = 14) (h15 : ¬ op = 15) (h11 : ¬ op = 11) (h12 : ¬ op = 12) (l : List Int) (la : Option Addr) (lc : Nat) (hl0 : 0 < l.length) (hl : IntsAt base w la l) :
 ReckC base P A w m S b c ⟨op, ia, ib, ic, l⟩ la lc := by
 unfold ReckC
 obtain ⟨R, hR⟩ : ∃ R, R = reckonsS c ⟨op, ia, ib, ic, l⟩ := ⟨_, rfl⟩
 rw [← hR]
 have hR2 : R = if (c.reg ib).p ∨ (c.reg ic).p then (c, 11) else if (reckonS op (c.reg ib).n (c.reg ic).n).2 then (c.put ia (num (reckonS op (c.reg ib).n (c.reg ic).n).1), 0) else ({ c with at_ := (⟨op, ia, ib, ic, l⟩ : In).lab 0 }, 0) := by rw [hR]; simp [reckonsS, h13, h14, h15, h11, h12]
 clear hR
 have hm := h.mlt
 obtain ⟨io, icc, hrow, hins, hreg⟩ := h.cls 0 b c (by rw [hb]; rfl) (by rw [hs]; rfl)
 have hbw := hrow.lt
 have hbl : b ∈ L.bl := by rw [hb]; exact List.mem_cons_self
 have y1 := hrow.cell (o := 1) rfl
 have hyz := hrow.frozen
 have hbb := h.high _ (h.ob _ hbl)
 obtain ⟨u0, u1, u2⟩ := Cl.get_reg hreg io icc hib
 have y00 := hrow.cell u0
 have y01 := hrow.cell u1
 have y02 := hrow.cell u2
 obtain ⟨s0, s1, s2⟩ := Cl.get_reg hreg io icc hic
 have z0 := hrow.cell s0
 have z1 := hrow.cell s1
 have z2 := hrow.cell s2
 have hia0 : (0 : Int) ≤ (ia : Int) := by omega
 have hia1 : (ia : Int) < 16 := by omega
 have hib0 : (0 : Int) ≤ (ib : Int) := by omega
 have hib1 : (ib : Int) < 16 := by omega
 have hic0 : (0 : Int) ≤ (ic : Int) := by omega
 have hic1 : (ic : Int) < 16 := by omega
 generalize hrb : c.reg (ib : Int) = rb at y00 y01 y02 hR2
 generalize hrc : c.reg (ic : Int) = rc at z0 z1 z2 hR2
 obtain ⟨yp, ya, yn⟩ := rb
 obtain ⟨zp, za, zn⟩ := rc
 simp only at y00 y01 y02 z0 z1 z2 hR2
 have HR := Lib.hid hR2
 have HH := Lib.hid (And.intro h (And.intro hb (And.intro hs (And.intro hrow (And.intro hins hreg)))))
 clear h hb hs hrow hins hreg hbl hR2 u0 u1 u2 s0 s1 s2 hrb hrc
 have b13 : (op == 13) = false := beq_false_of_ne h13
 have b14 : (op == 14) = false := beq_false_of_ne h14
 have b15 : (op == 15) = false := beq_false_of_ne h15
 have b11 : (op == 11) = false := beq_false_of_ne h11
 have b12 : (op == 12) = false := beq_false_of_ne h12
 have hK2 := Lib.hid fun w1 => reckon_c w1 op yn zn
 have hR3 := HR.out
 generalize reckonS op yn zn = rk at *
 obtain ⟨kn, ok⟩ := rk
 simp only at hK2 hR3
 clear HR
 have HR := Lib.hid hR3
 clear hR3
 obtain ⟨lb, lo, e0, kl⟩ := hl 0 l[0] (List.getElem?_eq_getElem hl0)
 subst e0
 have kl0 := kl.2
 have hlw := World.block_lt_of_cell? w _ kl0
 have hlab : (⟨op, ia, ib, ic, l⟩ : In).lab 0 = l[0] := by unfold In.lab; rw [List.getD_eq_getElem?_getD]; simp [hl0]
 have hll : (0 : Int) < (l.length : Int) := by omega
 simp only [Nat.add_zero] at kl0
 clear kl hl h13 h14 h15 h11 h12
 generalize l[0] = l0 at *
 go_enter Tryz.func104, Tryz.ntmps104
 go_wp2_with fail
 have hrx : Row (w.alloc (.cells #[.int .i64 op, .int .i64 ia, .int .i64 ib, .int .i64 ic, .slice (some ⟨lb, lo, none⟩) l.length lc] 128)) w.heap.size 128 [.int .i64 op, .int .i64 ia, .int .i64 ib, .int .i64 ic, .slice (some ⟨lb, lo, none⟩) l.length lc] := Row.new' rfl
 have hf0 : Fr Non w (w.alloc (.cells #[.int .i64 op, .int .i64 ia, .int .i64 ib, .int .i64 ic, .slice (some ⟨lb, lo, none⟩) l.length lc] 128)) := by exact (by repeat (first | exact .refl _ _ | assumption | apply Fr.drewN | apply Fr.drew | apply Fr.drewl | apply Fr.drewNl | apply Fr.alloc))
 have hs0 : (w.alloc (.cells #[.int .i64 op, .int .i64 ia, .int .i64 ib, .int .i64 ic, .slice (some ⟨lb, lo, none⟩) l.length lc] 128)).heap.size = w.heap.size + 1 := by simp
 generalize w.alloc (.cells #[.int .i64 op, .int .i64 ia, .int .i64 ib, .int .i64 ic, .slice (some ⟨lb, lo, none⟩) l.length lc] 128) = W at *
 obtain ⟨x0, x1, x2, x3, x4, xz⟩ := row5 hrx
 have yw0 := hf0.cell y00 id
 have yw1 := hf0.cell y01 id
 have yw2 := hf0.cell y02 id
 have zw0 := hf0.cell z0 id
 have zw1 := hf0.cell z1 id
 have zw2 := hf0.cell z2 id
 have HW := Lib.hid (And.intro hf0 hrx)
 clear hrx hf0 z0 z1 z2 y00 y01 y02
 have hxw : w.heap.size < W.heap.size := by omega
 have hbW : b < W.heap.size := by omega
 have cW := @Mix.cls_drew W [b, w.heap.size]
 refine Mix.wp_region_alt [2, 6, 9, 13] [(0, 0), (0, 1), (1, 2), (0, 3), (0, 4), (0, 5), (1, 6), (0, 7), (0, 8), (1, 9), (0, 10), (0, 11), (0, 12), (1, 13)] 14 15 [(2, 15), (2, 16), (2, 17)] [(2, 14), (2, 16), (2, 17)] (fun V => ∃ g, V = Mix.upon W [b, w.heap.size] g) (by kernel_rfl) (by kernel_rfl) cW ?_
 clear cW
 repeat (first | ((first | refine Mix.S_pure rfl rfl ?_ | refine Mix.S_load rfl rfl ?_); intro K hK; simp only [nA, nB, nC]; go_big_quiet_op; go_big_quiet_on) | refine Mix.S_skip0 rfl rfl ?_ | refine Mix.S_skip1 rfl rfl ?_)
 refine Mix.S_done ?_
 clear yw0 yw1 yw2 zw0 zw1 zw2
 refine ⟨?_, ?_⟩
 · refine Mix.N_eff (C := fun V => ∃ g, V = Mix.upon W [b, w.heap.size] g) (o := _) rfl rfl ?_
   intro K hK
   simp only [nA, nB, nC]
   go_simp
   refine hK _ _ ⟨Mix.cls_fr (D := Non) (by exact ((Fr.refl Non W).alloc _).drew.drewl) (by simp [Non]; omega), ?_⟩
   clear hK K
   have r1 : Row ((W.alloc (.cells #[.bool false, .int .i64 0, .int .i64 0] 40)).drew) (w.heap.size + 1) 40 [.bool false, .int .i64 0, .int .i64 0] := Row.drew (Row.new' hs0)
   have f1 : Fr Non W ((W.alloc (.cells #[.bool false, .int .i64 0, .int .i64 0] 40)).drew) := ((Fr.refl Non W).alloc _).drew
   have s1 : ((W.alloc (.cells #[.bool false, .int .i64 0, .int .i64 0] 40)).drew).heap.size = w.heap.size + 1 + 1 := by simp [hs0]
   generalize (W.alloc (.cells #[.bool false, .int .i64 0, .int .i64 0] 40)).drew = V1 at *
   refine Mix.S_eff (o := _) rfl rfl ?_
   intro K hK
   simp only [nA, nB, nC]
   go_simp
   refine hK _ _ ⟨Mix.cls_fr (D := Non) (by exact (Fr.refl Non V1).alloc _) (by simp [Non]; omega), ?_⟩
   clear hK K
   have r2 : Row (V1.alloc (.cells #[.bool false, .int .i64 0, .int .i64 0] 40)) (w.heap.size + 1 + 1) 40 [.bool false, .int .i64 0, .int .i64 0] := Row.new' s1
   have r1' : Row (V1.alloc (.cells #[.bool false, .int .i64 0, .int .i64 0] 40)) (w.heap.size + 1) 40 [.bool false, .int .i64 0, .int .i64 0] := r1.alloc _
   have f2 : Fr Non W (V1.alloc (.cells #[.bool false, .int .i64 0, .int .i64 0] 40)) := f1.alloc _
   have s2 : (V1.alloc (.cells #[.bool false, .int .i64 0, .int .i64 0] 40)).heap.size = w.heap.size + 1 + 1 + 1 := by simp [s1]
   generalize V1.alloc (.cells #[.bool false, .int .i64 0, .int .i64 0] 40) = V2 at *
   clear r1 f1 s1
   obtain ⟨p0, p1, p2, pz⟩ := row3 r1'
   refine Mix.S_eff (o := _) rfl rfl ?_
   intro K hK
   simp only [nA, nB, nC]
   go_simp
   refine hK _ _ ⟨Mix.cls_fr (D := fun x => x = w.heap.size + 1) (by exact Fr.set3 _ _ _ _ _ _ _ _) (by simp; omega), ?_⟩
   clear hK K p0 p1 p2 pz
   have ra : Row (((V2.setCell ⟨w.heap.size + 1, 0, none⟩ (.bool yp)).setCell ⟨w.heap.size + 1, 1, none⟩ (.int .i64 ya)).setCell ⟨w.heap.size + 1, 2, none⟩ (.int .i64 yn)) (w.heap.size + 1) 40 [.bool yp, .int .i64 ya, .int .i64 yn] := ((r1'.set_same 0 (.bool yp)).set_same 1 (.int .i64 ya)).set_same 2 (.int .i64 yn)
   have rb : Row (((V2.setCell ⟨w.heap.size + 1, 0, none⟩ (.bool yp)).setCell ⟨w.heap.size + 1, 1, none⟩ (.int .i64 ya)).setCell ⟨w.heap.size + 1, 2, none⟩ (.int .i64 yn)) (w.heap.size + 1 + 1) 40 [.bool false, .int .i64 0, .int .i64 0] := (Fr.set3 V2 (w.heap.size + 1) _ _ _ _ _ _).row r2 (by simp)
   have f3 : Fr (fun x => x = w.heap.size + 1) W (((V2.setCell ⟨w.heap.size + 1, 0, none⟩ (.bool yp)).setCell ⟨w.heap.size + 1, 1, none⟩ (.int .i64 ya)).setCell ⟨w.heap.size + 1, 2, none⟩ (.int .i64 yn)) := (f2.mono fun _ _ h => h.elim).trans (Fr.set3 _ _ _ _ _ _ _ _)
   have s3 : (((V2.setCell ⟨w.heap.size + 1, 0, none⟩ (.bool yp)).setCell ⟨w.heap.size + 1, 1, none⟩ (.int .i64 ya)).setCell ⟨w.heap.size + 1, 2, none⟩ (.int .i64 yn)).heap.size = w.heap.size + 1 + 1 + 1 := by simp [s2]
   generalize ((V2.setCell ⟨w.heap.size + 1, 0, none⟩ (.bool yp)).setCell ⟨w.heap.size + 1, 1, none⟩ (.int .i64 ya)).setCell ⟨w.heap.size + 1, 2, none⟩ (.int .i64 yn) = V3 at *
   clear r1' r2 f2 s2
   obtain ⟨p0, p1, p2, pz⟩ := row3 rb
   refine Mix.S_eff (o := _) rfl rfl ?_
   intro K hK
   simp only [nA, nB, nC]
   go_simp
   refine hK _ _ ⟨Mix.cls_fr (D := fun x => x = w.heap.size + 1 + 1) (by exact Fr.set3 _ _ _ _ _ _ _ _) (by simp; omega), ?_⟩
   clear hK K p0 p1 p2 pz
   have ra' : Row (((V3.setCell ⟨w.heap.size + 1 + 1, 0, none⟩ (.bool zp)).setCell ⟨w.heap.size + 1 + 1, 1, none⟩ (.int .i64 za)).setCell ⟨w.heap.size + 1 + 1, 2, none⟩ (.int .i64 zn)) (w.heap.size + 1) 40 [.bool yp, .int .i64 ya, .int .i64 yn] := (Fr.set3 V3 (w.heap.size + 1 + 1) _ _ _ _ _ _).row ra (by simp)
   have rb' : Row (((V3.setCell ⟨w.heap.size + 1 + 1, 0, none⟩ (.bool zp)).setCell ⟨w.heap.size + 1 + 1, 1, none⟩ (.int .i64 za)).setCell ⟨w.heap.size + 1 + 1, 2, none⟩ (.int .i64 zn)) (w.heap.size + 1 + 1) 40 [.bool zp, .int .i64 za, .int .i64 zn] := ((rb.set_same 0 (.bool zp)).set_same 1 (.int .i64 za)).set_same 2 (.int .i64 zn)
   have f4 : Fr (fun x => x = w.heap.size + 1 ∨ x = w.heap.size + 1 + 1) W (((V3.setCell ⟨w.heap.size + 1 + 1, 0, none⟩ (.bool zp)).setCell ⟨w.heap.size + 1 + 1, 1, none⟩ (.int .i64 za)).setCell ⟨w.heap.size + 1 + 1, 2, none⟩ (.int .i64 zn)) := (f3.mono fun _ _ h => Or.inl h).trans ((Fr.set3 _ _ _ _ _ _ _ _).mono fun _ _ h => Or.inr h)
   have s4 : (((V3.setCell ⟨w.heap.size + 1 + 1, 0, none⟩ (.bool zp)).setCell ⟨w.heap.size + 1 + 1, 1, none⟩ (.int .i64 za)).setCell ⟨w.heap.size + 1 + 1, 2, none⟩ (.int .i64 zn)).heap.size = w.heap.size + 1 + 1 + 1 := by simp [s3]
   generalize ((V3.setCell ⟨w.heap.size + 1 + 1, 0, none⟩ (.bool zp)).setCell ⟨w.heap.size + 1 + 1, 1, none⟩ (.int .i64 za)).setCell ⟨w.heap.size + 1 + 1, 2, none⟩ (.int .i64 zn) = V at *
   clear ra rb f3 s3
   refine Mix.S_done ?_
   have fV : Fr Non w V := HW.out.1.then f4 (fun x hx e => by rcases e with e | e <;> (subst e; omega))
   have rx : Row V w.heap.size 128 [.int .i64 op, .int .i64 ia, .int .i64 ib, .int .i64 ic, .slice (some ⟨lb, lo, none⟩) l.length lc] := f4.row HW.out.2 (by simp; omega)
   obtain ⟨p0, p1, p2, pz⟩ := row3 ra'
   obtain ⟨q0, q1, q2, qz⟩ := row3 rb'
   have HV := Lib.hid (And.intro fV (And.intro rx (And.intro ra' rb')))
   clear fV rx ra' rb' f4 x0 x1 x2 x3 x4 xz y1 hyz
   go_wp2_with fail
   have hN := Lib.hid (numbers_c (V.alloc (.cells #[.bool yp, .int .i64 ya, .int .i64 yn, .bool zp, .int .i64 za, .int .i64 zn] 40)) (w.heap.size + 1 + 1 + 1) 2 ⟨yp, ya, yn⟩ ⟨zp, za, zn⟩ (by exact (Row.new' s4 : Row (V.alloc (.cells #[.bool yp, .int .i64 ya, .int .i64 yn, .bool zp, .int .i64 za, .int .i64 zn] 40)) (w.heap.size + 1 + 1 + 1) 40 _).news))
   refine hN.out.mono ?_
   rintro e1 V5 ⟨rfl, f5⟩
   have f5' : Fr Non V V5 := Fr.trans (by exact (by repeat (first | exact .refl _ _ | assumption | apply Fr.drewN | apply Fr.drew | apply Fr.drewl | apply Fr.drewNl | apply Fr.alloc))) f5
   have s5 := f5'.size
   obtain ⟨p0', p1', p2', pz'⟩ := row3 (f5'.row HV.out.2.2.1 id)
   obtain ⟨q0', q1', q2', qz'⟩ := row3 (f5'.row HV.out.2.2.2 id)
   obtain ⟨x0, x1, x2, x3, x4, xz⟩ := row5 (f5'.row HV.out.2.1 id)
   have HX := Lib.hid (And.intro (HV.out.1.trans f5') (f5'.row HV.out.2.1 id))
   clear f5 f5' p0 p1 p2 pz q0 q1 q2 qz
   have hx5 : w.heap.size < V5.heap.size := by omega
   have hx6 : w.heap.size + 1 < V5.heap.size := by omega
   have hx7 : w.heap.size + 1 + 1 < V5.heap.size := by omega
   have hb5 : b < V5.heap.size := by omega
   cases yp
   · cases zp
     · have hR := HR.out
       rw [if_neg (by simp)] at hR
       have HR := Lib.hid hR
       clear hR
       go_wp2_with fail
       refine (hK2.out _).mono ?_
       rintro e2 V6 ⟨rfl, f6⟩
       have s6 := f6.size
       obtain ⟨x0', x1', x2', x3', x4', xz'⟩ := row5 (f6.row HX.out.2 id)
       have f6' : Fr Non w V6 := HX.out.1.trans f6
       have rb6 := f6'.row HH.out.2.2.2.1 id
       have i1 := rb6.cell (o := 1) rfl
       have iz := rb6.frozen
       have kl1 := f6'.cell kl0 id
       have HY6 := Lib.hid (And.intro f6' rb6)
       clear x0 x1 x2 x3 x4 xz p0' p1' p2' pz' q0' q1' q2' qz' f6 f6' rb6
       have hx5' : w.heap.size < V6.heap.size := by omega
       have hb6 : b < V6.heap.size := by omega
       cases ok
       · have hR := HR.out
         rw [if_neg (by simp), hlab] at hR
         have HR := Lib.hid hR
         clear hR
         go_wp2_with fail
         go_ret
         rw [HR.out]
         refine ⟨rfl, Aft.ahead HY6.out.1 ((HH.out.1.frN HY6.out.1).aftTop HH.out.2.1 ?_ (Fr.set1 _ _ _ _))⟩
         exact ClAt.setAt HY6.out.2 (HH.out.2.2.2.2.1.fr HY6.out.1 (high_non base)) HH.out.2.2.2.2.2 hbb _
       · have hR := HR.out
         rw [if_pos (by first | trivial | rfl | simp)] at hR
         have HR := Lib.hid hR
         clear hR i1 iz kl1
         go_wp2_with fail
         have cW := @Mix.cls_drew V6 [w.heap.size]
         refine Mix.wp_region_mix [2] [(0, 0), (0, 1), (1, 2), (0, 3), (0, 5), (0, 6), (2, 4), (0, 7), (2, 8)] (fun V => ∃ g, V = Mix.upon V6 [w.heap.size] g) (by kernel_rfl) (by kernel_rfl) cW ?_
         clear cW
         repeat (first | ((first | refine Mix.S_pure rfl rfl ?_ | refine Mix.S_load rfl rfl ?_); intro K hK; simp only [nA, nB, nC]; go_big_quiet_op; go_big_quiet_on) | refine Mix.S_skip0 rfl rfl ?_ | refine Mix.S_skip1 rfl rfl ?_)
         refine Mix.S_eff (o := _) rfl rfl ?_
         intro K hK
         simp only [nA, nB, nC]
         go_simp
         refine (number_c _ _).mono ?_
         rintro e1 V7 ⟨rfl, hf⟩
         refine hK _ _ ⟨Mix.cls_fr (D := Non) hf (by simp [Non]; omega), ?_⟩
         clear hK K
         have HY := Lib.hid (HY6.out.1.trans (Fr.trans (by exact (Fr.refl _ _).drew) hf))
         have s7 := hf.size
         simp only [World.size_drew] at s7
         clear hf
         obtain ⟨io', ic', hrow', hins', hreg'⟩ := ((HH.out.1.frN HY.out).cls 0 b c (by rw [HH.out.2.1]; rfl) (by rw [HH.out.2.2.1]; rfl))
         obtain ⟨u0, u1, u2⟩ := Cl.get_reg hreg' io' ic' hia
         have v0 := hrow'.cell u0
         have v1 := hrow'.cell u1
         have v2 := hrow'.cell u2
         have vz := hrow'.frozen
         have HT := Lib.hid (And.intro hrow' (And.intro hins' hreg'))
         clear hrow' hins' hreg' u0 u1 u2
         repeat (first | ((first | refine Mix.S_pure rfl rfl ?_ | refine Mix.S_load rfl rfl ?_); intro K hK; simp only [nA, nB, nC]; go_big_quiet_op; go_big_quiet_on) | refine Mix.S_skip0 rfl rfl ?_ | refine Mix.S_skip1 rfl rfl ?_)
         refine Mix.S_eff (o := _) rfl rfl ?_
         intro K hK
         simp only [nA, nB, nC]
         go_simp
         refine hK _ _ ⟨Mix.cls_fr (D := fun x => x = b) (by exact Fr.set3 _ _ _ _ _ _ _ _) (by simp; omega), ?_⟩
         clear hK K v0 v1 v2 vz
         repeat (first | ((first | refine Mix.S_pure rfl rfl ?_ | refine Mix.S_load rfl rfl ?_); intro K hK; simp only [nA, nB, nC]; go_big_quiet_op; go_big_quiet_on) | refine Mix.S_skip0 rfl rfl ?_ | refine Mix.S_skip1 rfl rfl ?_)
         refine Mix.S_done ?_
         go_wp2_with fail
         go_ret
         rw [HR.out]
         obtain ⟨hrow', hins', hreg'⟩ := HT.out
         exact ⟨rfl, Aft.ahead HY.out ((HH.out.1.frN HY.out).aftTop HH.out.2.1 (ClAt.put hrow' hins' hreg' hia hbb (num kn)) (Fr.set3 _ _ _ _ _ _ _ _))⟩
     · go_wp2_with fail
       go_ret
       rw [HR.out, if_pos (by simp)]
       refine ⟨rfl, ?_⟩
       rw [St.setTop_self (c := c) (cs := cs) (by exact HH.out.2.2.1)]
       exact HH.out.1.aftN HX.out.1
   · go_wp2_with fail
     go_ret
     rw [HR.out, if_pos (by simp)]
     refine ⟨rfl, ?_⟩
     rw [St.setTop_self (c := c) (cs := cs) (by exact HH.out.2.2.1)]
     exact HH.out.1.aftN HX.out.1
 · refine Mix.N_eff (C := fun V => ∃ g, V = Mix.upon W [b, w.heap.size] g) (o := _) rfl rfl ?_
   intro K hK
   simp only [nA, nB, nC]
   go_simp
   refine hK _ _ ⟨Mix.cls_fr (D := Non) (by exact ((Fr.refl Non W).alloc _).drew.drewl) (by simp [Non]; omega), ?_⟩
   clear hK K
   have r1 : Row ((W.alloc (.cells #[.bool false, .int .i64 0, .int .i64 0] 40)).drew) (w.heap.size + 1) 40 [.bool false, .int .i64 0, .int .i64 0] := Row.drew (Row.new' hs0)
   have f1 : Fr Non W ((W.alloc (.cells #[.bool false, .int .i64 0, .int .i64 0] 40)).drew) := ((Fr.refl Non W).alloc _).drew
   have s1 : ((W.alloc (.cells #[.bool false, .int .i64 0, .int .i64 0] 40)).drew).heap.size = w.heap.size + 1 + 1 := by simp [hs0]
   generalize (W.alloc (.cells #[.bool false, .int .i64 0, .int .i64 0] 40)).drew = V1 at *
   refine Mix.S_eff (o := _) rfl rfl ?_
   intro K hK
   simp only [nA, nB, nC]
   go_simp
   refine hK _ _ ⟨Mix.cls_fr (D := Non) (by exact (Fr.refl Non V1).alloc _) (by simp [Non]; omega), ?_⟩
   clear hK K
   have r2 : Row (V1.alloc (.cells #[.bool false, .int .i64 0, .int .i64 0] 40)) (w.heap.size + 1 + 1) 40 [.bool false, .int .i64 0, .int .i64 0] := Row.new' s1
   have r1' : Row (V1.alloc (.cells #[.bool false, .int .i64 0, .int .i64 0] 40)) (w.heap.size + 1) 40 [.bool false, .int .i64 0, .int .i64 0] := r1.alloc _
   have f2 : Fr Non W (V1.alloc (.cells #[.bool false, .int .i64 0, .int .i64 0] 40)) := f1.alloc _
   have s2 : (V1.alloc (.cells #[.bool false, .int .i64 0, .int .i64 0] 40)).heap.size = w.heap.size + 1 + 1 + 1 := by simp [s1]
   generalize V1.alloc (.cells #[.bool false, .int .i64 0, .int .i64 0] 40) = V2 at *
   clear r1 f1 s1
   obtain ⟨p0, p1, p2, pz⟩ := row3 r2
   refine Mix.S_eff (o := _) rfl rfl ?_
   intro K hK
   simp only [nA, nB, nC]
   go_simp
   refine hK _ _ ⟨Mix.cls_fr (D := fun x => x = w.heap.size + 1 + 1) (by exact Fr.set3 _ _ _ _ _ _ _ _) (by simp; omega), ?_⟩
   clear hK K p0 p1 p2 pz
   have ra : Row (((V2.setCell ⟨w.heap.size + 1 + 1, 0, none⟩ (.bool yp)).setCell ⟨w.heap.size + 1 + 1, 1, none⟩ (.int .i64 ya)).setCell ⟨w.heap.size + 1 + 1, 2, none⟩ (.int .i64 yn)) (w.heap.size + 1 + 1) 40 [.bool yp, .int .i64 ya, .int .i64 yn] := ((r2.set_same 0 (.bool yp)).set_same 1 (.int .i64 ya)).set_same 2 (.int .i64 yn)
   have rb : Row (((V2.setCell ⟨w.heap.size + 1 + 1, 0, none⟩ (.bool yp)).setCell ⟨w.heap.size + 1 + 1, 1, none⟩ (.int .i64 ya)).setCell ⟨w.heap.size + 1 + 1, 2, none⟩ (.int .i64 yn)) (w.heap.size + 1) 40 [.bool false, .int .i64 0, .int .i64 0] := (Fr.set3 V2 (w.heap.size + 1 + 1) _ _ _ _ _ _).row r1' (by simp)
   have f3 : Fr (fun x => x = w.heap.size + 1 + 1) W (((V2.setCell ⟨w.heap.size + 1 + 1, 0, none⟩ (.bool yp)).setCell ⟨w.heap.size + 1 + 1, 1, none⟩ (.int .i64 ya)).setCell ⟨w.heap.size + 1 + 1, 2, none⟩ (.int .i64 yn)) := (f2.mono fun _ _ h => h.elim).trans (Fr.set3 _ _ _ _ _ _ _ _)
   have s3 : (((V2.setCell ⟨w.heap.size + 1 + 1, 0, none⟩ (.bool yp)).setCell ⟨w.heap.size + 1 + 1, 1, none⟩ (.int .i64 ya)).setCell ⟨w.heap.size + 1 + 1, 2, none⟩ (.int .i64 yn)).heap.size = w.heap.size + 1 + 1 + 1 := by simp [s2]
   generalize ((V2.setCell ⟨w.heap.size + 1 + 1, 0, none⟩ (.bool yp)).setCell ⟨w.heap.size + 1 + 1, 1, none⟩ (.int .i64 ya)).setCell ⟨w.heap.size + 1 + 1, 2, none⟩ (.int .i64 yn) = V3 at *
   clear r1' r2 f2 s2
   obtain ⟨p0, p1, p2, pz⟩ := row3 rb
   refine Mix.S_eff (o := _) rfl rfl ?_
   intro K hK
   simp only [nA, nB, nC]
   go_simp
   refine hK _ _ ⟨Mix.cls_fr (D := fun x => x = w.heap.size + 1) (by exact Fr.set3 _ _ _ _ _ _ _ _) (by simp; omega), ?_⟩
   clear hK K p0 p1 p2 pz
   have ra' : Row (((V3.setCell ⟨w.heap.size + 1, 0, none⟩ (.bool zp)).setCell ⟨w.heap.size + 1, 1, none⟩ (.int .i64 za)).setCell ⟨w.heap.size + 1, 2, none⟩ (.int .i64 zn)) (w.heap.size + 1 + 1) 40 [.bool yp, .int .i64 ya, .int .i64 yn] := (Fr.set3 V3 (w.heap.size + 1) _ _ _ _ _ _).row ra (by simp)
   have rb' : Row (((V3.setCell ⟨w.heap.size + 1, 0, none⟩ (.bool zp)).setCell ⟨w.heap.size + 1, 1, none⟩ (.int .i64 za)).setCell ⟨w.heap.size + 1, 2, none⟩ (.int .i64 zn)) (w.heap.size + 1) 40 [.bool zp, .int .i64 za, .int .i64 zn] := ((rb.set_same 0 (.bool zp)).set_same 1 (.int .i64 za)).set_same 2 (.int .i64 zn)
   have f4 : Fr (fun x => x = w.heap.size + 1 + 1 ∨ x = w.heap.size + 1) W (((V3.setCell ⟨w.heap.size + 1, 0, none⟩ (.bool zp)).setCell ⟨w.heap.size + 1, 1, none⟩ (.int .i64 za)).setCell ⟨w.heap.size + 1, 2, none⟩ (.int .i64 zn)) := (f3.mono fun _ _ h => Or.inl h).trans ((Fr.set3 _ _ _ _ _ _ _ _).mono fun _ _ h => Or.inr h)
   have s4 : (((V3.setCell ⟨w.heap.size + 1, 0, none⟩ (.bool zp)).setCell ⟨w.heap.size + 1, 1, none⟩ (.int .i64 za)).setCell ⟨w.heap.size + 1, 2, none⟩ (.int .i64 zn)).heap.size = w.heap.size + 1 + 1 + 1 := by simp [s3]
   generalize ((V3.setCell ⟨w.heap.size + 1, 0, none⟩ (.bool zp)).setCell ⟨w.heap.size + 1, 1, none⟩ (.int .i64 za)).setCell ⟨w.heap.size + 1, 2, none⟩ (.int .i64 zn) = V at *
   clear ra rb f3 s3
   refine Mix.S_done ?_
   have fV : Fr Non w V := HW.out.1.then f4 (fun x hx e => by rcases e with e | e <;> (subst e; omega))
   have rx : Row V w.heap.size 128 [.int .i64 op, .int .i64 ia, .int .i64 ib, .int .i64 ic, .slice (some ⟨lb, lo, none⟩) l.length lc] := f4.row HW.out.2 (by simp; omega)
   obtain ⟨p0, p1, p2, pz⟩ := row3 ra'
   obtain ⟨q0, q1, q2, qz⟩ := row3 rb'
   have HV := Lib.hid (And.intro fV (And.intro rx (And.intro ra' rb')))
   clear fV rx ra' rb' f4 x0 x1 x2 x3 x4 xz y1 hyz
   go_wp2_with fail
   have hN := Lib.hid (numbers_c (V.alloc (.cells #[.bool yp, .int .i64 ya, .int .i64 yn, .bool zp, .int .i64 za, .int .i64 zn] 40)) (w.heap.size + 1 + 1 + 1) 2 ⟨yp, ya, yn⟩ ⟨zp, za, zn⟩ (by exact (Row.new' s4 : Row (V.alloc (.cells #[.bool yp, .int .i64 ya, .int .i64 yn, .bool zp, .int .i64 za, .int .i64 zn] 40)) (w.heap.size + 1 + 1 + 1) 40 _).news))
   refine hN.out.mono ?_
   rintro e1 V5 ⟨rfl, f5⟩
   have f5' : Fr Non V V5 := Fr.trans (by exact (by repeat (first | exact .refl _ _ | assumption | apply Fr.drewN | apply Fr.drew | apply Fr.drewl | apply Fr.drewNl | apply Fr.alloc))) f5
   have s5 := f5'.size
   obtain ⟨p0', p1', p2', pz'⟩ := row3 (f5'.row HV.out.2.2.1 id)
   obtain ⟨q0', q1', q2', qz'⟩ := row3 (f5'.row HV.out.2.2.2 id)
   obtain ⟨x0, x1, x2, x3, x4, xz⟩ := row5 (f5'.row HV.out.2.1 id)
   have HX := Lib.hid (And.intro (HV.out.1.trans f5') (f5'.row HV.out.2.1 id))
   clear f5 f5' p0 p1 p2 pz q0 q1 q2 qz
   have hx5 : w.heap.size < V5.heap.size := by omega
   have hx6 : w.heap.size + 1 < V5.heap.size := by omega
   have hx7 : w.heap.size + 1 + 1 < V5.heap.size := by omega
   have hb5 : b < V5.heap.size := by omega
   cases yp
   · cases zp
     · have hR := HR.out
       rw [if_neg (by simp)] at hR
       have HR := Lib.hid hR
       clear hR
       go_wp2_with fail
       refine (hK2.out _).mono ?_
       rintro e2 V6 ⟨rfl, f6⟩
       have s6 := f6.size
       obtain ⟨x0', x1', x2', x3', x4', xz'⟩ := row5 (f6.row HX.out.2 id)
       have f6' : Fr Non w V6 := HX.out.1.trans f6
       have rb6 := f6'.row HH.out.2.2.2.1 id
       have i1 := rb6.cell (o := 1) rfl
       have iz := rb6.frozen
       have kl1 := f6'.cell kl0 id
       have HY6 := Lib.hid (And.intro f6' rb6)
       clear x0 x1 x2 x3 x4 xz p0' p1' p2' pz' q0' q1' q2' qz' f6 f6' rb6
       have hx5' : w.heap.size < V6.heap.size := by omega
       have hb6 : b < V6.heap.size := by omega
       cases ok
       · have hR := HR.out
         rw [if_neg (by simp), hlab] at hR
         have HR := Lib.hid hR
         clear hR
         go_wp2_with fail
         go_ret
         rw [HR.out]
         refine ⟨rfl, Aft.ahead HY6.out.1 ((HH.out.1.frN HY6.out.1).aftTop HH.out.2.1 ?_ (Fr.set1 _ _ _ _))⟩
         exact ClAt.setAt HY6.out.2 (HH.out.2.2.2.2.1.fr HY6.out.1 (high_non base)) HH.out.2.2.2.2.2 hbb _
       · have hR := HR.out
         rw [if_pos (by first | trivial | rfl | simp)] at hR
         have HR := Lib.hid hR
         clear hR i1 iz kl1
         go_wp2_with fail
         have cW := @Mix.cls_drew V6 [w.heap.size]
         refine Mix.wp_region_mix [2] [(0, 0), (0, 1), (1, 2), (0, 3), (0, 5), (0, 6), (2, 4), (0, 7), (2, 8)] (fun V => ∃ g, V = Mix.upon V6 [w.heap.size] g) (by kernel_rfl) (by kernel_rfl) cW ?_
         clear cW
         repeat (first | ((first | refine Mix.S_pure rfl rfl ?_ | refine Mix.S_load rfl rfl ?_); intro K hK; simp only [nA, nB, nC]; go_big_quiet_op; go_big_quiet_on) | refine Mix.S_skip0 rfl rfl ?_ | refine Mix.S_skip1 rfl rfl ?_)
         refine Mix.S_eff (o := _) rfl rfl ?_
         intro K hK
         simp only [nA, nB, nC]
         go_simp
         refine (number_c _ _).mono ?_
         rintro e1 V7 ⟨rfl, hf⟩
         refine hK _ _ ⟨Mix.cls_fr (D := Non) hf (by simp [Non]; omega), ?_⟩
         clear hK K
         have HY := Lib.hid (HY6.out.1.trans (Fr.trans (by exact (Fr.refl _ _).drew) hf))
         have s7 := hf.size
         simp only [World.size_drew] at s7
         clear hf
         obtain ⟨io', ic', hrow', hins', hreg'⟩ := ((HH.out.1.frN HY.out).cls 0 b c (by rw [HH.out.2.1]; rfl) (by rw [HH.out.2.2.1]; rfl))
         obtain ⟨u0, u1, u2⟩ := Cl.get_reg hreg' io' ic' hia
         have v0 := hrow'.cell u0
         have v1 := hrow'.cell u1
         have v2 := hrow'.cell u2
         have vz := hrow'.frozen
         have HT := Lib.hid (And.intro hrow' (And.intro hins' hreg'))
         clear hrow' hins' hreg' u0 u1 u2
         repeat (first | ((first | refine Mix.S_pure rfl rfl ?_ | refine Mix.S_load rfl rfl ?_); intro K hK; simp only [nA, nB, nC]; go_big_quiet_op; go_big_quiet_on) | refine Mix.S_skip0 rfl rfl ?_ | refine Mix.S_skip1 rfl rfl ?_)
         refine Mix.S_eff (o := _) rfl rfl ?_
         intro K hK
         simp only [nA, nB, nC]
         go_simp
         refine hK _ _ ⟨Mix.cls_fr (D := fun x => x = b) (by exact Fr.set3 _ _ _ _ _ _ _ _) (by simp; omega), ?_⟩
         clear hK K v0 v1 v2 vz
         repeat (first | ((first | refine Mix.S_pure rfl rfl ?_ | refine Mix.S_load rfl rfl ?_); intro K hK; simp only [nA, nB, nC]; go_big_quiet_op; go_big_quiet_on) | refine Mix.S_skip0 rfl rfl ?_ | refine Mix.S_skip1 rfl rfl ?_)
         refine Mix.S_done ?_
         go_wp2_with fail
         go_ret
         rw [HR.out]
         obtain ⟨hrow', hins', hreg'⟩ := HT.out
         exact ⟨rfl, Aft.ahead HY.out ((HH.out.1.frN HY.out).aftTop HH.out.2.1 (ClAt.put hrow' hins' hreg' hia hbb (num kn)) (Fr.set3 _ _ _ _ _ _ _ _))⟩
     · go_wp2_with fail
       go_ret
       rw [HR.out, if_pos (by simp)]
       refine ⟨rfl, ?_⟩
       rw [St.setTop_self (c := c) (cs := cs) (by exact HH.out.2.2.1)]
       exact HH.out.1.aftN HX.out.1
   · go_wp2_with fail
     go_ret
     rw [HR.out, if_pos (by simp)]
     refine ⟨rfl, ?_⟩
     rw [St.setTop_self (c := c) (cs := cs) (by exact HH.out.2.2.1)]
     exact HH.out.1.aftN HX.out.1

set_option maxRecDepth 100000 in
set_option maxHeartbeats 2000000 in
theorem reckons_13 (h : ML base P A w m S L) {b : Nat} {bs : List Nat} {c : Cl} {cs : List Cl} (hb : L.bl = b :: bs) (hs : S.stack = c :: cs) (xa xb xc : Int) (l : List Int) (la : Option Addr) (lc : Nat) (hl0 : 0 < l.length) (hl : IntsAt base w la l) :
 ReckC base P A w m S b c ⟨13, xa, xb, xc, l⟩ la lc := by
 unfold ReckC
 have hR : reckonsS c ⟨13, xa, xb, xc, l⟩ = ({ c with at_ := (⟨13, xa, xb, xc, l⟩ : In).lab 0 }, 0) := by simp [reckonsS]
 rw [hR]
 clear hR
 have hm := h.mlt
 obtain ⟨io, ic, hrow, hins, hreg⟩ := h.cls 0 b c (by rw [hb]; rfl) (by rw [hs]; rfl)
 have hbw := hrow.lt
 have hbl : b ∈ L.bl := by rw [hb]; exact List.mem_cons_self
 have y1 := hrow.cell (o := 1) rfl
 have hyz := hrow.frozen
 have hbb := h.high _ (h.ob _ hbl)
 obtain ⟨lb, lo, e0, kl⟩ := hl 0 l[0] (List.getElem?_eq_getElem hl0)
 subst e0
 have kl0 := kl.2
 have hlw := World.block_lt_of_cell? w _ kl0
 have hlab : (⟨13, xa, xb, xc, l⟩ : In).lab 0 = l[0] := by unfold In.lab; rw [List.getD_eq_getElem?_getD]; simp [hl0]
 rw [hlab]
 have hll : (0 : Int) < (l.length : Int) := by omega
 simp only [Nat.add_zero] at kl0
 have HH := Lib.hid (And.intro h (And.intro hb (And.intro hs (And.intro hrow (And.intro hins hreg)))))
 clear kl hl h hb hs hrow hins hreg hbl hlab
 generalize l[0] = l0 at *
 go_enter Tryz.func104, Tryz.ntmps104
 go_wp2_with fail
 go_ret
 refine ⟨rfl, ?_⟩
 exact Aft.box (Fr.refl _ _) (HH.out.1.aftTop HH.out.2.1 (ClAt.setAt HH.out.2.2.2.1 HH.out.2.2.2.2.1 HH.out.2.2.2.2.2 hbb _) (Fr.set1 _ _ _ _)) (E := Non) ((Fr.refl _ _).alloc _) (fun _ h => h.elim) HH.out.1.lt HH.out.1.base_le

set_option maxRecDepth 100000 in
set_option maxHeartbeats 2000000 in
theorem reckons_14 (h : ML base P A w m S L) {b : Nat} {bs : List Nat} {c : Cl} {cs : List Cl} (hb : L.bl = b :: bs) (hs : S.stack = c :: cs) {ia : Nat} (hia : ia < 16) (xb xc : Int) (l : List Int) (la : Option Addr) (lc : Nat) (hl0 : 0 < l.length) (hl : IntsAt base w la l) :
 ReckC base P A w m S b c ⟨14, ia, xb, xc, l⟩ la lc := by
 unfold ReckC
 have hR : reckonsS c ⟨14, ia, xb, xc, l⟩ = goesS c ⟨14, ia, xb, xc, l⟩ := by simp [reckonsS]
 rw [hR]
 clear hR
 have hm := h.mlt
 have hfV : Fr Non w (w.alloc (.cells #[.int .i64 14, .int .i64 ia, .int .i64 xb, .int .i64 xc, .slice la l.length lc] 128)) := by exact (by repeat (first | exact .refl _ _ | assumption | apply Fr.drewN | apply Fr.drew | apply Fr.drewl | apply Fr.drewNl | apply Fr.alloc))
 have hG := Lib.hid (goes_14 (h.frN hfV) hb hs hia xb xc l la lc hl0 (hl.fr hfV (high_non base)))
 have HF := Lib.hid hfV
 clear h hb hs hl hfV
 unfold GoesC at hG
 generalize goesS c ⟨14, ia, xb, xc, l⟩ = R at *
 obtain ⟨c', er⟩ := R
 simp only at hG ⊢
 go_enter Tryz.func104, Tryz.ntmps104
 go_wp2_with fail
 refine hG.out.mono ?_
 rintro e1 w1 ⟨rfl, haft⟩
 have HA := Lib.hid haft
 clear haft
 go_wp2_with fail
 go_ret
 exact ⟨rfl, HA.out.ahead HF.out⟩

set_option maxRecDepth 100000 in
set_option maxHeartbeats 2000000 in
theorem reckons_15 (h : ML base P A w m S L) {b : Nat} {bs : List Nat} {c : Cl} {cs : List Cl} (hb : L.bl = b :: bs) (hs : S.stack = c :: cs) {ia : Nat} (hia : ia < 16) (xb xc : Int) (l : List Int) (la : Option Addr) (lc : Nat) (hl0 : 0 < l.length) (hl : IntsAt base w la l) :
 ReckC base P A w m S b c ⟨15, ia, xb, xc, l⟩ la lc := by
 unfold ReckC
 have hR : reckonsS c ⟨15, ia, xb, xc, l⟩ = goesS c ⟨15, ia, xb, xc, l⟩ := by simp [reckonsS]
 rw [hR]
 clear hR
 have hm := h.mlt
 have hfV : Fr Non w (w.alloc (.cells #[.int .i64 15, .int .i64 ia, .int .i64 xb, .int .i64 xc, .slice la l.length lc] 128)) := by exact (by repeat (first | exact .refl _ _ | assumption | apply Fr.drewN | apply Fr.drew | apply Fr.drewl | apply Fr.drewNl | apply Fr.alloc))
 have hG := Lib.hid (goes_15 (h.frN hfV) hb hs hia xb xc l la lc hl0 (hl.fr hfV (high_non base)))
 have HF := Lib.hid hfV
 clear h hb hs hl hfV
 unfold GoesC at hG
 generalize goesS c ⟨15, ia, xb, xc, l⟩ = R at *
 obtain ⟨c', er⟩ := R
 simp only at hG ⊢
 go_enter Tryz.func104, Tryz.ntmps104
 go_wp2_with fail
 refine hG.out.mono ?_
 rintro e1 w1 ⟨rfl, haft⟩
 have HA := Lib.hid haft
 clear haft
 go_wp2_with fail
 go_ret
 exact ⟨rfl, HA.out.ahead HF.out⟩

end

end Go.Proofs.YtlbomnbpahmphaaGreat

/- Walks: 'suspended' on a machine whose layout is hidden. Conditions: few calls, few events; what steps names a register. -/
namespace Go.Proofs.YtlbomnbpahmphaaGreat
open Go.RowKit

def stackLen (w : World) (m : Nat) : Nat := match w.cell? ⟨m, 5, none⟩ with | some (.slice _ n _) => n | _ => 0

section
variable {base : Nat} {P : Pr} {A : Nat → Prop} {w : World} {m : Nat} {S : St} {L : Lay}

theorem ML.stackLen (h : ML base P A w m S L) : stackLen w m = S.stack.length := by
 obtain ⟨ao, cap, e⟩ := h.c5l
 unfold Go.Proofs.YtlbomnbpahmphaaGreat.stackLen
 rw [e]

theorem Cl.get_tail {c : Cl} (h : c.regs.length = 16) (io : Option Addr) (ic : Nat) :
 (c.cs io ic)[53]? = some (.int .i64 c.role) ∧ (c.cs io ic)[54]? = some (.int .i64 c.into) ∧ (c.cs io ic)[55]? = some (.int .i64 c.label) := by
 have hf : (flat c.regs).length = 48 := by rw [flat_len, h]
 unfold Cl.cs
 refine ⟨?_, ?_, ?_⟩ <;> simp [hf, Wd.cs]

set_option maxRecDepth 100000 in
set_option maxHeartbeats 2000000 in
theorem suspended_m (h : ML base P A w m S L) (hn : S.stack.length ≤ 1000000000) (ht : S.told.length ≤ 1000000000) (hi : ∀ c ∈ S.stack, c.role = 1 → 0 ≤ c.into ∧ c.into < 16) (k n : Int) :
 Calls Tryz.prog 132 #[.pointer (some ⟨m, 0, none⟩), .agg #[.int .i64 k, .int .i64 n]] w fun e w' => ∃ v, e = .returned v ∧ Res w' w.heap.size v (suspS k n S S.stack).1 ∧ Aft base P A w w' m (suspS k n S S.stack).2 := by
 have hm := h.mlt
 have HH := Lib.hid (And.intro h (And.intro hn (And.intro ht hi)))
 obtain ⟨R, hR⟩ : ∃ R, R = suspS k n S S.stack := ⟨_, rfl⟩
 rw [← hR]
 have HR := Lib.hid hR
 clear h hn ht hi hR
 have hk : (k = 0 ∧ (k == 0) = true) ∨ (k ≠ 0 ∧ (k == 0) = false) := by by_cases h : k = 0 <;> simp [h]
 go_enter Tryz.func132, Tryz.ntmps132
 go_wp2_with fail
 go_loopw [] (fun wr => ∃ l L', ML base P A wr m { S with stack := l } L' ∧ R = suspS k n S l ∧ (∀ c ∈ l, c ∈ S.stack) ∧ l.length ≤ S.stack.length ∧ Row wr w.heap.size 44 [.int .i64 k, .int .i64 n] ∧ Fr (fun x => x = m) w wr) (fun wr => stackLen wr m)
 case atStart => exact ⟨S.stack, L, HH.out.1.frN (by exact (by repeat (first | exact .refl _ _ | assumption | apply Fr.drewN | apply Fr.drew | apply Fr.drewl | apply Fr.drewNl | apply Fr.alloc))), HR.out, fun _ h => h, Nat.le_refl _, by exact Row.new' rfl, by exact (Fr.refl _ _).alloc _⟩
 case round =>
  obtain ⟨l, L', hML, hRl, hsub, hle, hbox, hfr⟩ := hrel
  cases l with
  | nil =>
   obtain ⟨ao, cap, k5⟩ := hML.c5l
   simp only [List.length_nil] at k5
   have HX := Lib.hid (And.intro hML (And.intro hRl (And.intro hbox hfr)))
   clear hML hRl hsub hle hbox hfr
   go_wp2_with fail
   go_ret
   obtain ⟨hML, hRl, hbox, hfr⟩ := HX.out
   rw [hRl]
   exact ⟨_, rfl, Or.inr ⟨w.heap.size, k, n, rfl, rfl, hbox, Nat.le_refl _⟩, A, ⟨L', hML⟩, fun x hx => Or.inl hx, hfr.mono fun x _ hx => hx ▸ HH.out.1.om⟩
  | cons c cs =>
   obtain ⟨b, bs, hb, hbl, hcl⟩ := hML.atTop' rfl
   have hlen : L'.bl.length ≤ 1000000000 := by rw [hML.len]; exact Nat.le_trans hle HH.out.2.1
   have hP := Lib.hid (pop_m hML hb hlen)
   obtain ⟨ao, cap, k5⟩ := hML.c5l
   simp only [List.length_cons] at k5
   have h0 : (0 : Int) < (cs.length : Int) + 1 := by omega
   have hbm : b ≠ m := hML.bl_m (by rw [hb]; exact List.mem_cons_self)
   have hbt : L'.tv.ownBlock ≠ some b := hML.bl_tv (by rw [hb]; exact List.mem_cons_self)
   have hbn : b ∉ bs := by have := hML.nodup; rw [hb] at this; exact (List.nodup_cons.1 this).1
   have hlw : stackLen wr m = cs.length + 1 := hML.stackLen
   have hbb := hML.high _ (hML.ob b (by rw [hb]; exact List.mem_cons_self))
   have hin := HH.out.2.2.2 c (hsub c List.mem_cons_self)
   have HX := Lib.hid (And.intro hcl (And.intro hRl (And.intro hbox (And.intro hfr (And.intro hsub hle)))))
   have hszr := hfr.size
   clear hML hb hRl hsub hle hbox hfr hlen hbl hcl
   go_wp2_with fail
   refine hP.out.mono ?_
   rintro e1 w1 ⟨rfl, ⟨sv', hM1⟩, hf1⟩
   obtain ⟨io, ic, hrow, hins, hreg⟩ := HX.out.1.fr hf1 (fun x hx => by rw [hx]; exact HH.out.1.high _ HH.out.1.om) hbm
   obtain ⟨g53, g54, _⟩ := Cl.get_tail hreg io ic
   have y53 := hrow.cell g53
   have y54 := hrow.cell g54
   have hyz := hrow.frozen
   have hbw := hrow.lt
   obtain ⟨ao1, cap1, k51⟩ := hM1.c5l
   simp only [List.tail_cons] at k51
   have hbox1 := hf1.row HX.out.2.2.1 (by omega)
   have hlw1 : stackLen w1 m = cs.length := by have := hM1.stackLen; simpa using this
   have hfr1 := HX.out.2.2.2.1.trans hf1
   have hsz1 := hf1.size
   have hlt : stackLen w1 m < stackLen wr m := by omega
   obtain ⟨z0, z1, zz⟩ := row2 hbox1
   have H1 := Lib.hid (And.intro hM1 (And.intro hbox1 (And.intro hfr1 (And.intro hrow (And.intro hins hreg)))))
   clear hM1 hf1 hrow hins hreg g53 g54 hbox1 hfr1 k5 hlw hlw1
   by_cases hr : c.role = 1
   · cases cs with
     | nil =>
      rw [hr] at y53
      simp only [List.length_nil] at k51
      go_wp2_with fail
      obtain ⟨hM1, hbox1, hfr1, _⟩ := H1.out
      obtain ⟨_, hRl, _, _, hsub, hle⟩ := HX.out
      refine ⟨⟨[], _, hM1, ?_, by simp, by simp, hbox1, hfr1⟩, hlt⟩
      rw [hRl]
      simp [suspS]
     | cons d ds =>
      rw [hr] at y53
      obtain ⟨i0, i1⟩ := hin hr
      obtain ⟨i, hi⟩ := Int.eq_ofNat_of_zero_le i0
      rw [hi] at y54 i1
      have hi16 : (i : Int) < 16 := i1
      have hi0 : (0 : Int) ≤ (i : Int) := by omega
      simp only [List.length_cons] at k51
      have hd0 : (((ds.length : Int) + 1) == 0) = false := beq_false_of_ne (by omega)
      have hd1 : ¬ ((ds.length : Int) + 1 = 0) := by omega
      obtain ⟨hM1, hbox1, hfr1, hrow1, hins1, hreg1⟩ := H1.out
      obtain ⟨b', bs', hb', _, _⟩ := hM1.atTop' rfl
      change bs = b' :: bs' at hb'
      have hRR : R = (none, (if k = 0 then { S with stack := d :: ds }.tell 5 0 n else { S with stack := d :: ds }).setTop (d.put i (num 1))) := by
       rw [HX.out.2.1]
       simp only [suspS, hr, hi]
       simp [St.top]
      have hlen1 : ds.length + 1 ≤ 1000000000 := by
       have h1 := HX.out.2.2.2.2.2
       have h2 := HH.out.2.1
       simp only [List.length_cons] at h1
       omega
      have hbb1 : b ≠ b' := fun e => by
       have hn := hbn
       rw [hb'] at hn
       exact hn (by rw [e]; exact List.mem_cons_self)
      have hA1 : A b' := hM1.ob b' (by rw [hb']; exact List.mem_cons_self)
      rcases hk with ⟨rfl, hkb⟩ | ⟨hk0, hkb⟩
      · have hT := Lib.hid (tell_m hM1 (by exact HH.out.2.2.1) 5 0 0 n)
        have hRR := Lib.hid hRR
        clear hM1 hbox1 hfr1 hrow1 hins1 hreg1
        go_wp2_with fail
        refine hT.out.mono ?_
        rintro e1 w2 ⟨rfl, ⟨tv', A2, hM2, hA2⟩, hf2⟩
        obtain ⟨hM1, hbox1, hfr1, hrow1, hins1, hreg1⟩ := H1.out
        have hnb : ¬ (b = m ∨ L'.tv.ownBlock = some b) := by rintro (e | e); exact hbm e; exact hbt e
        have hrow2 := hf2.row hrow1 hnb
        have y54' := hrow2.cell (Cl.get_tail hreg1 io ic).2.1
        rw [hi] at y54'
        have hbw2 := hrow2.lt
        have HMV := Lib.hid (And.intro hM2 (And.intro hb' (And.intro (rfl : (({ S with stack := d :: ds } : St).tell 5 0 n).stack = d :: ds) (And.intro (show ∀ x, A2 x → A x ∨ w.heap.size ≤ x from fun x hx => (hA2 x hx).imp id (fun e => Nat.le_trans (Nat.le_trans hszr hsz1) e)) (show Fr A w w2 from (hfr1.mono fun x _ hx => hx ▸ HH.out.1.om).trans (hf2.mono fun x _ hx => by
         rcases hx with hx | hx
         · exact hx ▸ HH.out.1.om
         · exact hM1.ot x hx))))))
        have hlenV : (b' :: bs').length ≤ 1000000000 := by have := hM1.len; rw [hb'] at this; rw [this]; exact hlen1
        rw [← hb'] at hlenV
        have HRR : Hid (R = (none, (({ S with stack := d :: ds } : St).tell 5 0 n).setTop (d.put i (num 1)))) := Lib.hid (by rw [hRR.out, if_pos (by first | trivial | rfl | simp)])
        have hbb' : b ≠ b' := hbb1
        clear hM1 hbox1 hfr1 hrow1 hins1 hreg1 hM2 hA2 hf2 hrow2 hnb y53 y54 k51 z0 z1 zz hyz hb'
        go_wp2_with fail
        have cW := @Mix.cls_drew w2 [b]
        refine Mix.wp_region_mix [5] [(0, 0), (0, 2), (0, 3), (0, 4), (1, 5), (2, 1), (0, 7), (0, 8), (2, 6), (0, 9), (2, 10)] (fun U => ∃ g, U = Mix.upon w2 [b] g) (by kernel_rfl) (by kernel_rfl) cW ?_
        clear cW
        repeat (first | ((first | refine Mix.S_pure rfl rfl ?_ | refine Mix.S_load rfl rfl ?_); intro K hK; simp only [nA, nB, nC]; go_big_quiet_op; go_big_quiet_on) | refine Mix.S_skip0 rfl rfl ?_ | refine Mix.S_skip1 rfl rfl ?_)
        refine Mix.S_eff (o := _) rfl rfl ?_
        intro K hK
        simp only [nA, nB, nC]
        go_simp
        refine (top_m (HMV.out.1.frN (by exact (Fr.refl _ _).drew)) HMV.out.2.1 hlenV).mono ?_
        rintro e1 w3 ⟨rfl, hf⟩
        refine hK _ _ ⟨Mix.cls_fr (D := Non) hf (by simp [Non]; omega), ?_⟩
        clear hK K
        have hf3 : Fr Non w2 w3 := Fr.trans (by exact (Fr.refl _ _).drew) hf
        have hs3 := hf.size
        simp only [World.size_drew] at hs3
        clear hf
        repeat (first | ((first | refine Mix.S_pure rfl rfl ?_ | refine Mix.S_load rfl rfl ?_); intro K hK; simp only [nA, nB, nC]; go_big_quiet_op; go_big_quiet_on) | refine Mix.S_skip0 rfl rfl ?_ | refine Mix.S_skip1 rfl rfl ?_)
        refine Mix.S_eff (o := _) rfl rfl ?_
        intro K hK
        simp only [nA, nB, nC]
        go_simp
        refine (number_c _ 1).mono ?_
        rintro e1 w4 ⟨rfl, hf⟩
        refine hK _ _ ⟨Mix.cls_fr (D := Non) hf (by simp [Non]; omega), ?_⟩
        clear hK K
        have hf4 : Fr Non w2 w4 := hf3.trans hf
        have hs4 := hf.size
        clear hf hf3
        obtain ⟨io', ic', hrow', hins', hreg'⟩ := ((HMV.out.1.frN hf4).cls 0 b' d (by rw [HMV.out.2.1]; rfl) rfl)
        obtain ⟨e0, e1, e2⟩ := Cl.get_reg hreg' io' ic' (i := i) (by omega)
        have v0 := hrow'.cell e0
        have v1 := hrow'.cell e1
        have v2 := hrow'.cell e2
        have vz := hrow'.frozen
        have HF4 := Lib.hid (And.intro hf4 (And.intro hrow' (And.intro hins' hreg')))
        clear hf4 hrow' hins' hreg' e0 e1 e2
        repeat (first | ((first | refine Mix.S_pure rfl rfl ?_ | refine Mix.S_load rfl rfl ?_); intro K hK; simp only [nA, nB, nC]; go_big_quiet_op; go_big_quiet_on) | refine Mix.S_skip0 rfl rfl ?_ | refine Mix.S_skip1 rfl rfl ?_)
        refine Mix.S_eff (o := _) rfl rfl ?_
        intro K hK
        simp only [nA, nB, nC]
        go_simp
        refine hK _ _ ⟨Mix.cls_fr (D := fun x => x = b') (by exact Fr.set3 _ _ _ _ _ _ _ _) (by simp; exact ⟨by omega, hbb'⟩), ?_⟩
        clear hK K v0 v1 v2 vz
        repeat (first | ((first | refine Mix.S_pure rfl rfl ?_ | refine Mix.S_load rfl rfl ?_); intro K hK; simp only [nA, nB, nC]; go_big_quiet_op; go_big_quiet_on) | refine Mix.S_skip0 rfl rfl ?_ | refine Mix.S_skip1 rfl rfl ?_)
        refine Mix.S_done ?_
        go_wp2_with fail
        go_ret
        obtain ⟨hf4, hrow', hins', hreg'⟩ := HF4.out
        have hfin := ((HMV.out.1.frN hf4).upTop HMV.out.2.1 (ClAt.put hrow' hins' hreg' (i := i) (by omega) (HMV.out.1.high _ (HMV.out.1.ob _ (by rw [HMV.out.2.1]; exact List.mem_cons_self))) (num 1)) (Fr.set3 _ _ _ _ _ _ _ _))
        rw [HRR.out]
        refine ⟨_, rfl, Or.inl ⟨rfl, rfl⟩, _, ⟨_, hfin⟩, HMV.out.2.2.2.1, (HMV.out.2.2.2.2.trans (hf4.mono fun _ _ h => h.elim)).trans ((Fr.set3 _ _ _ _ _ _ _ _).mono fun x hx e => ?_)⟩
        exact e ▸ hA1
      · have hkn : (k == 0) = false := hkb
        have hlenV : (b' :: bs').length ≤ 1000000000 := by have := hM1.len; rw [hb'] at this; rw [this]; exact hlen1
        rw [← hb'] at hlenV
        have HMV := Lib.hid (And.intro hM1 (And.intro hb' (And.intro (rfl : ({ S with stack := d :: ds } : St).stack = d :: ds) (And.intro (show ∀ x, A x → A x ∨ w.heap.size ≤ x from fun x hx => Or.inl hx) (show Fr A w w1 from (hfr1.mono fun x _ hx => hx ▸ HH.out.1.om))))))
        have HRR : Hid (R = (none, ({ S with stack := d :: ds } : St).setTop (d.put i (num 1)))) := Lib.hid (by rw [hRR, if_neg hk0])
        have hbb' : b ≠ b' := hbb1
        clear hM1 hbox1 hfr1 hrow1 hins1 hreg1 hb' hRR
        go_wp2_with fail
        have cW := @Mix.cls_drew w1 [b]
        refine Mix.wp_region_mix [5] [(0, 0), (0, 2), (0, 3), (0, 4), (1, 5), (2, 1), (0, 7), (0, 8), (2, 6), (0, 9), (2, 10)] (fun U => ∃ g, U = Mix.upon w1 [b] g) (by kernel_rfl) (by kernel_rfl) cW ?_
        clear cW
        repeat (first | ((first | refine Mix.S_pure rfl rfl ?_ | refine Mix.S_load rfl rfl ?_); intro K hK; simp only [nA, nB, nC]; go_big_quiet_op; go_big_quiet_on) | refine Mix.S_skip0 rfl rfl ?_ | refine Mix.S_skip1 rfl rfl ?_)
        refine Mix.S_eff (o := _) rfl rfl ?_
        intro K hK
        simp only [nA, nB, nC]
        go_simp
        refine (top_m (HMV.out.1.frN (by exact (Fr.refl _ _).drew)) HMV.out.2.1 hlenV).mono ?_
        rintro e1 w3 ⟨rfl, hf⟩
        refine hK _ _ ⟨Mix.cls_fr (D := Non) hf (by simp [Non]; omega), ?_⟩
        clear hK K
        have hf3 : Fr Non w1 w3 := Fr.trans (by exact (Fr.refl _ _).drew) hf
        have hs3 := hf.size
        simp only [World.size_drew] at hs3
        clear hf
        repeat (first | ((first | refine Mix.S_pure rfl rfl ?_ | refine Mix.S_load rfl rfl ?_); intro K hK; simp only [nA, nB, nC]; go_big_quiet_op; go_big_quiet_on) | refine Mix.S_skip0 rfl rfl ?_ | refine Mix.S_skip1 rfl rfl ?_)
        refine Mix.S_eff (o := _) rfl rfl ?_
        intro K hK
        simp only [nA, nB, nC]
        go_simp
        refine (number_c _ 1).mono ?_
        rintro e1 w4 ⟨rfl, hf⟩
        refine hK _ _ ⟨Mix.cls_fr (D := Non) hf (by simp [Non]; omega), ?_⟩
        clear hK K
        have hf4 : Fr Non w1 w4 := hf3.trans hf
        have hs4 := hf.size
        clear hf hf3
        obtain ⟨io', ic', hrow', hins', hreg'⟩ := ((HMV.out.1.frN hf4).cls 0 b' d (by rw [HMV.out.2.1]; rfl) rfl)
        obtain ⟨e0, e1, e2⟩ := Cl.get_reg hreg' io' ic' (i := i) (by omega)
        have v0 := hrow'.cell e0
        have v1 := hrow'.cell e1
        have v2 := hrow'.cell e2
        have vz := hrow'.frozen
        have HF4 := Lib.hid (And.intro hf4 (And.intro hrow' (And.intro hins' hreg')))
        clear hf4 hrow' hins' hreg' e0 e1 e2
        repeat (first | ((first | refine Mix.S_pure rfl rfl ?_ | refine Mix.S_load rfl rfl ?_); intro K hK; simp only [nA, nB, nC]; go_big_quiet_op; go_big_quiet_on) | refine Mix.S_skip0 rfl rfl ?_ | refine Mix.S_skip1 rfl rfl ?_)
        refine Mix.S_eff (o := _) rfl rfl ?_
        intro K hK
        simp only [nA, nB, nC]
        go_simp
        refine hK _ _ ⟨Mix.cls_fr (D := fun x => x = b') (by exact Fr.set3 _ _ _ _ _ _ _ _) (by simp; exact ⟨by omega, hbb'⟩), ?_⟩
        clear hK K v0 v1 v2 vz
        repeat (first | ((first | refine Mix.S_pure rfl rfl ?_ | refine Mix.S_load rfl rfl ?_); intro K hK; simp only [nA, nB, nC]; go_big_quiet_op; go_big_quiet_on) | refine Mix.S_skip0 rfl rfl ?_ | refine Mix.S_skip1 rfl rfl ?_)
        refine Mix.S_done ?_
        go_wp2_with fail
        go_ret
        obtain ⟨hf4, hrow', hins', hreg'⟩ := HF4.out
        have hfin := ((HMV.out.1.frN hf4).upTop HMV.out.2.1 (ClAt.put hrow' hins' hreg' (i := i) (by omega) (HMV.out.1.high _ (HMV.out.1.ob _ (by rw [HMV.out.2.1]; exact List.mem_cons_self))) (num 1)) (Fr.set3 _ _ _ _ _ _ _ _))
        rw [HRR.out]
        refine ⟨_, rfl, Or.inl ⟨rfl, rfl⟩, _, ⟨_, hfin⟩, HMV.out.2.2.2.1, (HMV.out.2.2.2.2.trans (hf4.mono fun _ _ h => h.elim)).trans ((Fr.set3 _ _ _ _ _ _ _ _).mono fun x hx e => ?_)⟩
        exact e ▸ hA1
   · have hr' : (c.role == 1) = false := beq_false_of_ne hr
     have hrn : (c.role != 1) = true := by simp [hr]
     go_wp2_with fail
     obtain ⟨hM1, hbox1, hfr1, _⟩ := H1.out
     obtain ⟨_, hRl, _, _, hsub, hle⟩ := HX.out
     refine ⟨⟨cs, _, hM1, ?_, fun x hx => hsub x (List.mem_cons_of_mem _ hx), by simp only [List.length_cons] at hle; omega, hbox1, hfr1⟩, hlt⟩
     rw [hRl]
     simp [suspS, hr]
end

end Go.Proofs.YtlbomnbpahmphaaGreat

/- Walks: 'ends' on a machine whose layout is hidden. Conditions: few calls; what steps names a register. -/
namespace Go.Proofs.YtlbomnbpahmphaaGreat
open Go.RowKit

section
variable {base : Nat} {P : Pr} {A A1 : Nat → Prop} {w w1 w' : World} {m : Nat} {S S' : St} {L : Lay}

theorem Aft.step (hA : ∀ x, A1 x → A x ∨ w.heap.size ≤ x) (f : Fr A w w1) (k : Aft base P A1 w1 w' m S') : Aft base P A w w' m S' := by
 obtain ⟨A2, k1, k2, k3⟩ := k
 refine ⟨A2, k1, fun x hx => ?_, f.then k3 fun x hx e => ?_⟩
 · rcases k2 x hx with e | e
   · exact hA x e
   · exact Or.inr (Nat.le_trans f.size e)
 · rcases hA x e with e | e
   · exact e
   · omega

set_option maxRecDepth 100000 in
set_option maxHeartbeats 2000000 in
theorem ends_m (h : ML base P A w m S L) (hn : S.stack.length ≤ 1000000000) {c : Cl} {cs : List Cl} (hs : S.stack = c :: cs) (hi : c.role = 1 → 0 ≤ c.into ∧ c.into < 16) (x : In) (la : Option Addr) (lc : Nat) :
 Calls Tryz.prog 133 #[.pointer (some ⟨m, 0, none⟩), .agg #[.int .i64 x.op, .int .i64 x.a, .int .i64 x.b, .int .i64 x.c, .slice la x.l.length lc]] w fun e w' => ∃ v, e = .returned v ∧ Res w' w.heap.size v (endsS S x).1 ∧ Aft base P A w w' m (endsS S x).2 := by
 have hm := h.mlt
 obtain ⟨b, bs, hb, hbl, hcl⟩ := h.atTop' hs
 obtain ⟨io, ic, hrow, hins, hreg⟩ := hcl
 have hbw := hrow.lt
 have hbm : b ∈ L.bl := by rw [hb]; exact List.mem_cons_self
 have hlen : L.bl.length ≤ 1000000000 := by rw [h.len]; exact hn
 have htop : S.top = c := by unfold St.top; rw [hs]; rfl
 obtain ⟨R, hR⟩ : ∃ R, R = endsS S x := ⟨_, rfl⟩
 rw [← hR]
 unfold endsS at hR
 rw [htop, hs] at hR
 simp only [List.tail_cons] at hR
 have hT := Lib.hid fun w1 (f : Fr Non w w1) => top_m (h.frN f) hb hlen
 obtain ⟨f0, f1, f2⟩ := Cl.get_frame hreg io ic
 have y0 := hrow.cell f0
 have y1 := hrow.cell f1
 have y2 := hrow.cell f2
 clear f0 f1 f2
 have c2 := h.c2
 have hco : (if x.op = 28 then doneS else doneS) = doneS := by split <;> rfl
 clear hco
 generalize hfr : c.frame = fr at y0 y1 y2 hR
 obtain ⟨fp, fa, fn⟩ := fr
 simp only at y0 y1 y2
 rw [offS_eq] at hR
 obtain ⟨xop, xa, xb, xc, xl⟩ := x
 simp only at hR ⊢
 have hst : ∃ st : Int, st = (if xop = 28 then -2 else -1) ∧ ((xop = 28 ∧ (xop == 28) = true ∧ st = -2) ∨ (xop ≠ 28 ∧ (xop == 28) = false ∧ st = -1)) := by
  by_cases h : xop = 28 <;> simp [h]
 obtain ⟨st, hst1, hst2⟩ := hst
 rw [← hst1] at hR
 have hSt := Lib.hid fun w1 (f : Fr Non w w1) => store_i (h.mem.frN f) fp fa (offn fp fn 0) false 0 st
 generalize hmo : S.mem.store ⟨fp, fa, offn fp fn 0⟩ (num st) = mo at hR
 have hmo' : S.mem.store ⟨fp, fa, offn fp fn 0⟩ ⟨false, 0, st⟩ = mo := hmo
 rw [hmo'] at hSt
 obtain ⟨M', er⟩ := mo
 simp only at hSt hR
 have hcase : (er = 0 ∧ (er == 0) = true) ∨ (er ≠ 0 ∧ (er == 0) = false ∧ (er != 0) = true) := by by_cases h : er = 0 <;> simp [h]
 have HR := Lib.hid hR
 have HH := Lib.hid (And.intro h (And.intro hb (And.intro hs (And.intro hrow (And.intro hreg (And.intro (h.bl_m hbm) (And.intro (fun e => (h.sep m e).1 rfl : ¬ L.Dm m) (And.intro (fun e => (h.sep b e).2.2.2.2 hbm : ¬ L.Dm b) (And.intro hn (And.intro hi hlen))))))))))
 clear h hb hs hrow hreg hbm hn hi hR hmo hmo' htop hfr hins hbl hst1 hlen
 go_enter Tryz.func133, Tryz.ntmps133
 go_wp2_with fail
 refine (hT.out _ (by exact (by repeat (first | exact .refl _ _ | assumption | apply Fr.drewN | apply Fr.drew | apply Fr.drewl | apply Fr.drewNl | apply Fr.alloc)))).mono ?_
 rintro e1 w1 ⟨rfl, hf⟩
 have rx : Row w1 w.heap.size 128 [.int .i64 xop, .int .i64 xa, .int .i64 xb, .int .i64 xc, .slice la xl.length lc] := hf.row (by exact Row.new' rfl) id
 have hf1 : Fr Non w w1 := Fr.trans (by exact (by repeat (first | exact .refl _ _ | assumption | apply Fr.drewN | apply Fr.drew | apply Fr.drewl | apply Fr.drewNl | apply Fr.alloc))) hf
 have hs1 := hf1.size
 obtain ⟨x0, x1, x2, x3, x4, xz⟩ := row5 rx
 have yw0 := hf1.cell y0 id
 have yw1 := hf1.cell y1 id
 have yw2 := hf1.cell y2 id
 have k2 := hf1.cell c2 id
 have hxl := rx.lt
 have H1 := Lib.hid (And.intro hf1 rx)
 clear hf hf1 rx y0 y1 y2 c2
 have hm1 : m < w1.heap.size := by omega
 have hb1 : b < w1.heap.size := by omega
 rcases hst2 with ⟨hop, hopb, rfl⟩ | ⟨hop, hopb, rfl⟩
 · subst hop
   go_wp2_with fail
   have cW := @Mix.cls_drew w1 [m, b]
   refine Mix.wp_region_mix [3, 7] [(0, 0), (0, 1), (0, 2), (1, 3), (0, 4), (0, 5), (0, 6), (1, 7), (0, 9), (2, 8), (2, 10), (2, 11), (0, 12)] (fun V => ∃ g, V = Mix.upon w1 [m, b] g) (by kernel_rfl) (by kernel_rfl) cW ?_
   clear cW
   repeat (first | ((first | refine Mix.S_pure rfl rfl ?_ | refine Mix.S_load rfl rfl ?_); intro K hK; simp only [nA, nB, nC]; go_big_quiet_op; go_big_quiet_on) | refine Mix.S_skip0 rfl rfl ?_ | refine Mix.S_skip1 rfl rfl ?_)
   refine Mix.S_eff (o := _) rfl rfl ?_
   intro K hK
   simp only [nA, nB, nC]
   go_simp
   refine (off_c _ fp fa fn 0).mono ?_
   rintro e1 w2 ⟨rfl, hf⟩
   refine hK _ _ ⟨Mix.cls_fr (D := Non) hf (by simp [Non]; omega), ?_⟩
   clear hK K
   have hf2 : Fr Non w1 w2 := Fr.trans (by exact (Fr.refl _ _).drew) hf
   have hs2 := hf2.size
   clear hf
   refine Mix.S_eff (o := _) rfl rfl ?_
   intro K hK
   simp only [nA, nB, nC]
   go_simp
   refine (number_c _ (-2)).mono ?_
   rintro e1 w3 ⟨rfl, hf⟩
   refine hK _ _ ⟨Mix.cls_fr (D := Non) hf (by simp [Non]; omega), ?_⟩
   clear hK K
   have hf3 : Fr Non w1 w3 := hf2.trans hf
   have hs3 := hf3.size
   clear hf hf2
   have HF3 := Lib.hid hf3
   clear hf3
   refine Mix.S_eff (o := _) rfl rfl ?_
   intro K hK
   simp only [nA, nB, nC]
   go_simp
   refine (hSt.out _ (H1.out.1.trans HF3.out)).mono ?_
   rintro e1 w4 ⟨rfl, hM4, hf4⟩
   refine hK _ _ ⟨Mix.cls_fr (D := L.Dm) hf4 (by simp; exact ⟨⟨by omega, HH.out.2.2.2.2.2.2.1⟩, by omega, HH.out.2.2.2.2.2.2.2.1⟩), ?_⟩
   clear hK K
   have hf14 : Fr L.Dm w w4 := ((H1.out.1.trans HF3.out).mono (fun _ _ h => h.elim)).trans hf4
   have hs4 := hf14.size
   have hup := HH.out.1.upMem hf14 hM4 (fun b hb => Or.inl hb)
   have hAm := HH.out.1.aftMem hf14 hM4 (fun b hb => Or.inl hb)
   have rx4 := ((HF3.out.mono (fun _ _ h => h.elim)).trans hf4).row H1.out.2 (fun e => by have := HH.out.1.lt _ (HH.out.1.od _ e); omega)
   obtain ⟨x0', x1', x2', x3', x4', xz'⟩ := row5 rx4
   have rb4 := hf14.row HH.out.2.2.2.1 HH.out.2.2.2.2.2.2.2.1
   have HM := Lib.hid (And.intro hup (And.intro hAm (And.intro hf14 (And.intro rb4 rx4))))
   clear hup hAm hf14 hf4 hM4 rb4 rx4 x0 x1 x2 x3 x4 xz yw0 yw1 yw2 k2
   repeat (first | ((first | refine Mix.S_pure rfl rfl ?_ | refine Mix.S_load rfl rfl ?_); intro K hK; simp only [nA, nB, nC]; go_big_quiet_op; go_big_quiet_on) | refine Mix.S_skip0 rfl rfl ?_ | refine Mix.S_skip1 rfl rfl ?_)
   refine Mix.S_done ?_
   rcases hcase with ⟨rfl, he⟩ | ⟨hne, he, hen⟩
   · go_wp2_with fail
     refine (pop_m HM.out.1 (by exact HH.out.2.1) HH.out.2.2.2.2.2.2.2.2.2.2).mono ?_
     rintro e1 w5 ⟨rfl, ⟨sv', hM5⟩, hf5⟩
     have rb5 := hf5.row HM.out.2.2.2.1 HH.out.2.2.2.2.2.1
     obtain ⟨x0, x1, x2, x3, x4, xz⟩ := row5 (hf5.row HM.out.2.2.2.2 (by omega))
     have hs5 := hf5.size
     have hb5 : b < w5.heap.size := by omega
     have H5 := Lib.hid (And.intro hM5 (And.intro hf5 rb5))
     clear hM5 hf5 rb5 x0' x1' x2' x3' x4' xz'
     go_wp2_with (refine wpList_loadcall 36 b rfl ?_)
     refine ⟨_, H5.out.2.2, Cl.cs_len HH.out.2.2.2.2.1 io ic, ?_⟩
     have hD := aborted_m H5.out.1 (by have := HH.out.2.2.2.2.2.2.2.2.1; rw [HH.out.2.2.1] at this ⊢; simp only [List.length_cons, List.tail_cons] at this ⊢; omega) c HH.out.2.2.2.2.1 io c.fn.length ic
     have hR := HR.out
     rw [if_neg (by simp), if_pos (by first | trivial | rfl | simp)] at hR
     have HD := Lib.hid hD
     have HR := Lib.hid hR
     clear hD hR
     go_wp2_with fail
     refine HD.out.mono ?_
     rintro e2 w6 ⟨v, rfl, hres, haft⟩
     have HE := Lib.hid (And.intro hres haft)
     clear hres haft
     go_wp2_with fail
     go_ret
     rw [HR.out]
     have hE2 := HE.out
     rw [HH.out.2.2.1, List.tail_cons] at hE2
     refine ⟨_, rfl, hE2.1.lo (by omega), ?_⟩
     refine Aft.step (A1 := fun x => A x ∨ L.Dm x) (fun x hx => Or.inl (hx.elim id (HH.out.1.od x))) ((HM.out.2.2.1.mono fun x _ hx => HH.out.1.od x hx).trans (H5.out.2.1.mono fun x _ hx => hx ▸ HH.out.1.om)) hE2.2
   · have hE := Lib.hid fun w1 => failed_r w1 er hne
     go_wp2_with fail
     refine (hE.out _).mono ?_
     rintro e2 w5 ⟨v, rfl, hres, hf5⟩
     have HE := Lib.hid (And.intro hres hf5)
     clear hres hf5
     go_wp2_with fail
     go_ret
     rw [HR.out, if_pos hne]
     have hA2 := HM.out.2.1
     rw [HH.out.2.2.1] at hA2
     exact ⟨_, rfl, HE.out.1.lo (by omega), Aft.box (Fr.refl _ _) hA2 (E := Non) HE.out.2 (fun _ h => h.elim) HH.out.1.lt HH.out.1.base_le⟩
 · have hopn : ¬ xop = 28 := hop
   go_wp2_with fail
   have cW := @Mix.cls_drew w1 [m, b]
   refine Mix.wp_region_mix [3, 7] [(0, 0), (0, 1), (0, 2), (1, 3), (0, 4), (0, 5), (0, 6), (1, 7), (0, 9), (2, 8), (2, 10), (2, 11), (0, 12)] (fun V => ∃ g, V = Mix.upon w1 [m, b] g) (by kernel_rfl) (by kernel_rfl) cW ?_
   clear cW
   repeat (first | ((first | refine Mix.S_pure rfl rfl ?_ | refine Mix.S_load rfl rfl ?_); intro K hK; simp only [nA, nB, nC]; go_big_quiet_op; go_big_quiet_on) | refine Mix.S_skip0 rfl rfl ?_ | refine Mix.S_skip1 rfl rfl ?_)
   refine Mix.S_eff (o := _) rfl rfl ?_
   intro K hK
   simp only [nA, nB, nC]
   go_simp
   refine (off_c _ fp fa fn 0).mono ?_
   rintro e1 w2 ⟨rfl, hf⟩
   refine hK _ _ ⟨Mix.cls_fr (D := Non) hf (by simp [Non]; omega), ?_⟩
   clear hK K
   have hf2 : Fr Non w1 w2 := Fr.trans (by exact (Fr.refl _ _).drew) hf
   have hs2 := hf2.size
   clear hf
   refine Mix.S_eff (o := _) rfl rfl ?_
   intro K hK
   simp only [nA, nB, nC]
   go_simp
   refine (number_c _ (-1)).mono ?_
   rintro e1 w3 ⟨rfl, hf⟩
   refine hK _ _ ⟨Mix.cls_fr (D := Non) hf (by simp [Non]; omega), ?_⟩
   clear hK K
   have hf3 : Fr Non w1 w3 := hf2.trans hf
   have hs3 := hf3.size
   clear hf hf2
   have HF3 := Lib.hid hf3
   clear hf3
   refine Mix.S_eff (o := _) rfl rfl ?_
   intro K hK
   simp only [nA, nB, nC]
   go_simp
   refine (hSt.out _ (H1.out.1.trans HF3.out)).mono ?_
   rintro e1 w4 ⟨rfl, hM4, hf4⟩
   refine hK _ _ ⟨Mix.cls_fr (D := L.Dm) hf4 (by simp; exact ⟨⟨by omega, HH.out.2.2.2.2.2.2.1⟩, by omega, HH.out.2.2.2.2.2.2.2.1⟩), ?_⟩
   clear hK K
   have hf14 : Fr L.Dm w w4 := ((H1.out.1.trans HF3.out).mono (fun _ _ h => h.elim)).trans hf4
   have hs4 := hf14.size
   have hup := HH.out.1.upMem hf14 hM4 (fun b hb => Or.inl hb)
   have hAm := HH.out.1.aftMem hf14 hM4 (fun b hb => Or.inl hb)
   have rx4 := ((HF3.out.mono (fun _ _ h => h.elim)).trans hf4).row H1.out.2 (fun e => by have := HH.out.1.lt _ (HH.out.1.od _ e); omega)
   obtain ⟨x0', x1', x2', x3', x4', xz'⟩ := row5 rx4
   have rb4 := hf14.row HH.out.2.2.2.1 HH.out.2.2.2.2.2.2.2.1
   have HM := Lib.hid (And.intro hup (And.intro hAm (And.intro hf14 (And.intro rb4 rx4))))
   clear hup hAm hf14 hf4 hM4 rb4 rx4 x0 x1 x2 x3 x4 xz yw0 yw1 yw2 k2
   repeat (first | ((first | refine Mix.S_pure rfl rfl ?_ | refine Mix.S_load rfl rfl ?_); intro K hK; simp only [nA, nB, nC]; go_big_quiet_op; go_big_quiet_on) | refine Mix.S_skip0 rfl rfl ?_ | refine Mix.S_skip1 rfl rfl ?_)
   refine Mix.S_done ?_
   rcases hcase with ⟨rfl, he⟩ | ⟨hne, he, hen⟩
   · go_wp2_with fail
     refine (pop_m HM.out.1 (by exact HH.out.2.1) HH.out.2.2.2.2.2.2.2.2.2.2).mono ?_
     rintro e1 w5 ⟨rfl, ⟨sv', hM5⟩, hf5⟩
     have rb5 := hf5.row HM.out.2.2.2.1 HH.out.2.2.2.2.2.1
     obtain ⟨x0, x1, x2, x3, x4, xz⟩ := row5 (hf5.row HM.out.2.2.2.2 (by omega))
     have hs5 := hf5.size
     have hb5 : b < w5.heap.size := by omega
     have H5 := Lib.hid (And.intro hM5 (And.intro hf5 rb5))
     clear hM5 hf5 rb5 x0' x1' x2' x3' x4' xz'
     go_wp2_with (refine wpList_loadcall 41 b rfl ?_)
     refine ⟨_, H5.out.2.2, Cl.cs_len HH.out.2.2.2.2.1 io ic, ?_⟩
     have hD := done_m H5.out.1 (by have := HH.out.2.2.2.2.2.2.2.2.1; rw [HH.out.2.2.1] at this ⊢; simp only [List.length_cons, List.tail_cons] at this ⊢; omega) c HH.out.2.2.2.2.1 HH.out.2.2.2.2.2.2.2.2.2.1 io c.fn.length ic
     have hR := HR.out
     rw [if_neg (by simp), if_neg hop] at hR
     have HD := Lib.hid hD
     have HR := Lib.hid hR
     clear hD hR
     go_wp2_with fail
     refine HD.out.mono ?_
     rintro e2 w6 ⟨v, rfl, hres, haft⟩
     have HE := Lib.hid (And.intro hres haft)
     clear hres haft
     go_wp2_with fail
     go_ret
     rw [HR.out]
     have hE2 := HE.out
     rw [HH.out.2.2.1, List.tail_cons] at hE2
     refine ⟨_, rfl, hE2.1.lo (by omega), ?_⟩
     refine Aft.step (A1 := fun x => A x ∨ L.Dm x) (fun x hx => Or.inl (hx.elim id (HH.out.1.od x))) ((HM.out.2.2.1.mono fun x _ hx => HH.out.1.od x hx).trans (H5.out.2.1.mono fun x _ hx => hx ▸ HH.out.1.om)) hE2.2
   · have hE := Lib.hid fun w1 => failed_r w1 er hne
     go_wp2_with fail
     refine (hE.out _).mono ?_
     rintro e2 w5 ⟨v, rfl, hres, hf5⟩
     have HE := Lib.hid (And.intro hres hf5)
     clear hres hf5
     go_wp2_with fail
     go_ret
     rw [HR.out, if_pos hne]
     have hA2 := HM.out.2.1
     rw [HH.out.2.2.1] at hA2
     exact ⟨_, rfl, HE.out.1.lo (by omega), Aft.box (Fr.refl _ _) hA2 (E := Non) HE.out.2 (fun _ h => h.elim) HH.out.1.lt HH.out.1.base_le⟩
end

end Go.Proofs.YtlbomnbpahmphaaGreat
