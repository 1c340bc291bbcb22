/- Walks: 'ends' on a machine whose layout is hidden. Conditions: few calls; what steps names a register. -/
import Derived.Test.YtlbomnbpahmphaaKa16
namespace Go.Proofs.Ytlbomnbpahmphaa
open Go.RowKit

section
variable {base : Nat} {P : Pr} {A A1 : Nat → Prop} {w w1 w' : World} {m : Nat} {S S' : St} {L : Lay}

theorem Aft.step (hA : ∀ x, A1 x → A x ∨ w.heap.size ≤ x) (f : Fr A w w1) (k : Aft base P A1 w1 w' m S') : Aft base P A w w' m S' := by
  obtain ⟨A2, k1, k2, k3⟩ := k
  refine ⟨A2, k1, fun x hx => ?_, f.then k3 fun x hx e => ?_⟩
  · rcases k2 x hx with e | e
    · exact hA x e
    · exact Or.inr (Nat.le_trans f.size e)
  · rcases hA x e with e | e
    · exact e
    · omega

set_option maxRecDepth 100000 in
set_option maxHeartbeats 2000000 in
theorem ends_m (h : ML base P A w m S L) (hn : S.stack.length ≤ 1000000000) {c : Cl} {cs : List Cl} (hs : S.stack = c :: cs) (hi : c.role = 1 → 0 ≤ c.into ∧ c.into < 16) (x : In) (la : Option Addr) (lc : Nat) :
    Calls Try.prog 98 #[.pointer (some ⟨m, 0, none⟩), .agg #[.int .i64 x.op, .int .i64 x.a, .int .i64 x.b, .int .i64 x.c, .slice la x.l.length lc]] w fun e w' => ∃ v, e = .returned v ∧ Res w' w.heap.size v (endsS S x).1 ∧ Aft base P A w w' m (endsS S x).2 := by
  have hm := h.mlt
  obtain ⟨b, bs, hb, hbl, hcl⟩ := h.atTop' hs
  obtain ⟨io, ic, hrow, hins, hreg⟩ := hcl
  have hbw := hrow.lt
  have hbm : b ∈ L.bl := by rw [hb]; exact List.mem_cons_self
  have hlen : L.bl.length ≤ 1000000000 := by rw [h.len]; exact hn
  have htop : S.top = c := by unfold St.top; rw [hs]; rfl
  obtain ⟨R, hR⟩ : ∃ R, R = endsS S x := ⟨_, rfl⟩
  rw [← hR]
  unfold endsS at hR
  rw [htop, hs] at hR
  simp only [List.tail_cons] at hR
  have hT := Lib.hid fun w1 (f : Fr Non w w1) => top_m (h.frN f) hb hlen
  obtain ⟨f0, f1, f2⟩ := Cl.get_frame hreg io ic
  have y0 := hrow.cell f0
  have y1 := hrow.cell f1
  have y2 := hrow.cell f2
  clear f0 f1 f2
  have c2 := h.c2
  have hco : (if x.op = 28 then doneS else doneS) = doneS := by split <;> rfl
  clear hco
  generalize hfr : c.frame = fr at y0 y1 y2 hR
  obtain ⟨fp, fa, fn⟩ := fr
  simp only at y0 y1 y2
  rw [offS_eq] at hR
  obtain ⟨xop, xa, xb, xc, xl⟩ := x
  simp only at hR ⊢
  have hst : ∃ st : Int, st = (if xop = 28 then -2 else -1) ∧ ((xop = 28 ∧ (xop == 28) = true ∧ st = -2) ∨ (xop ≠ 28 ∧ (xop == 28) = false ∧ st = -1)) := by
    by_cases h : xop = 28 <;> simp [h]
  obtain ⟨st, hst1, hst2⟩ := hst
  rw [← hst1] at hR
  have hSt := Lib.hid fun w1 (f : Fr Non w w1) => store_i (h.mem.frN f) fp fa (offn fp fn 0) false 0 st
  generalize hmo : S.mem.store ⟨fp, fa, offn fp fn 0⟩ (num st) = mo at hR
  have hmo' : S.mem.store ⟨fp, fa, offn fp fn 0⟩ ⟨false, 0, st⟩ = mo := hmo
  rw [hmo'] at hSt
  obtain ⟨M', er⟩ := mo
  simp only at hSt hR
  have hcase : (er = 0 ∧ (er == 0) = true) ∨ (er ≠ 0 ∧ (er == 0) = false ∧ (er != 0) = true) := by by_cases h : er = 0 <;> simp [h]
  have HR := Lib.hid hR
  have HH := Lib.hid (And.intro h (And.intro hb (And.intro hs (And.intro hrow (And.intro hreg (And.intro (h.bl_m hbm) (And.intro (fun e => (h.sep m e).1 rfl : ¬ L.Dm m) (And.intro (fun e => (h.sep b e).2.2.2.2 hbm : ¬ L.Dm b) (And.intro hn (And.intro hi hlen))))))))))
  clear h hb hs hrow hreg hbm hn hi hR hmo hmo' htop hfr hins hbl hst1 hlen
  go_enter Try.func98, Try.ntmps98
  go_wp2_with fail
  refine (hT.out _ (by exact (by repeat (first | exact Fr.refl _ _ | assumption | refine Fr.drewN ?_ _ | refine Fr.drew ?_ | refine Fr.drewl ?_ | refine Fr.drewNl ?_ _ | refine Fr.alloc ?_ _)))).mono ?_
  rintro e1 w1 ⟨rfl, hf⟩
  have rx : Row w1 w.heap.size 112 [.int .i64 xop, .int .i64 xa, .int .i64 xb, .int .i64 xc, .slice la xl.length lc] := hf.row (by exact Row.new' rfl) id
  have hf1 : Fr Non w w1 := Fr.trans (by exact (by repeat (first | exact Fr.refl _ _ | assumption | refine Fr.drewN ?_ _ | refine Fr.drew ?_ | refine Fr.drewl ?_ | refine Fr.drewNl ?_ _ | refine Fr.alloc ?_ _))) hf
  have hs1 := hf1.size
  obtain ⟨x0, x1, x2, x3, x4, xz⟩ := row5 rx
  have yw0 := hf1.cell y0 id
  have yw1 := hf1.cell y1 id
  have yw2 := hf1.cell y2 id
  have k2 := hf1.cell c2 id
  have hxl := rx.lt
  have H1 := Lib.hid (And.intro hf1 rx)
  clear hf hf1 rx y0 y1 y2 c2
  have hm1 : m < w1.heap.size := by omega
  have hb1 : b < w1.heap.size := by omega
  rcases hst2 with ⟨hop, hopb, rfl⟩ | ⟨hop, hopb, rfl⟩
  · subst hop
    go_wp2_with fail
    have cW := @Mix.cls_drew w1 [m, b]
    refine Mix.wp_region_mix [3, 7] [(0, 0), (0, 1), (0, 2), (1, 3), (0, 4), (0, 5), (0, 6), (1, 7), (0, 9), (2, 8), (2, 10), (2, 11), (0, 12)] (fun V => ∃ g, V = Mix.upon w1 [m, b] g) (by kernel_rfl) (by kernel_rfl) cW ?_
    clear cW
    repeat (first | (refine Mix.S_pure (o := _) rfl rfl ?_; intro K hK; simp only [List.getElem_toArray, List.getElem_cons_zero, List.getElem_cons_succ]; go_big_quiet_op; go_big_quiet_on) | (refine Mix.S_load (o := _) rfl rfl ?_; intro K hK; simp only [List.getElem_toArray, List.getElem_cons_zero, List.getElem_cons_succ]; go_big_quiet_op; go_big_quiet_on) | refine Mix.S_skip0 (o := _) rfl rfl ?_ | refine Mix.S_skip1 (o := _) rfl rfl ?_)
    refine Mix.S_eff (o := _) rfl rfl ?_
    intro K hK
    simp only [List.getElem_toArray, List.getElem_cons_zero, List.getElem_cons_succ]
    go_simp
    refine (off_c _ fp fa fn 0).mono ?_
    rintro e1 w2 ⟨rfl, hf⟩
    refine hK _ _ ⟨Mix.cls_fr (D := Non) hf (by simp [Non]; omega), ?_⟩
    clear hK K
    have hf2 : Fr Non w1 w2 := Fr.trans (by exact (Fr.refl _ _).drew) hf
    have hs2 := hf2.size
    clear hf
    refine Mix.S_eff (o := _) rfl rfl ?_
    intro K hK
    simp only [List.getElem_toArray, List.getElem_cons_zero, List.getElem_cons_succ]
    go_simp
    refine (number_c _ (-2)).mono ?_
    rintro e1 w3 ⟨rfl, hf⟩
    refine hK _ _ ⟨Mix.cls_fr (D := Non) hf (by simp [Non]; omega), ?_⟩
    clear hK K
    have hf3 : Fr Non w1 w3 := hf2.trans hf
    have hs3 := hf3.size
    clear hf hf2
    have HF3 := Lib.hid hf3
    clear hf3
    refine Mix.S_eff (o := _) rfl rfl ?_
    intro K hK
    simp only [List.getElem_toArray, List.getElem_cons_zero, List.getElem_cons_succ]
    go_simp
    refine (hSt.out _ (H1.out.1.trans HF3.out)).mono ?_
    rintro e1 w4 ⟨rfl, hM4, hf4⟩
    refine hK _ _ ⟨Mix.cls_fr (D := L.Dm) hf4 (by simp; exact ⟨⟨by omega, HH.out.2.2.2.2.2.2.1⟩, by omega, HH.out.2.2.2.2.2.2.2.1⟩), ?_⟩
    clear hK K
    have hf14 : Fr L.Dm w w4 := ((H1.out.1.trans HF3.out).mono (fun _ _ h => h.elim)).trans hf4
    have hs4 := hf14.size
    have hup := HH.out.1.upMem hf14 hM4 (fun b hb => Or.inl hb)
    have hAm := HH.out.1.aftMem hf14 hM4 (fun b hb => Or.inl hb)
    have rx4 := ((HF3.out.mono (fun _ _ h => h.elim)).trans hf4).row H1.out.2 (fun e => by have := HH.out.1.lt _ (HH.out.1.od _ e); omega)
    obtain ⟨x0', x1', x2', x3', x4', xz'⟩ := row5 rx4
    have rb4 := hf14.row HH.out.2.2.2.1 HH.out.2.2.2.2.2.2.2.1
    have HM := Lib.hid (And.intro hup (And.intro hAm (And.intro hf14 (And.intro rb4 rx4))))
    clear hup hAm hf14 hf4 hM4 rb4 rx4 x0 x1 x2 x3 x4 xz yw0 yw1 yw2 k2
    repeat (first | (refine Mix.S_pure (o := _) rfl rfl ?_; intro K hK; simp only [List.getElem_toArray, List.getElem_cons_zero, List.getElem_cons_succ]; go_big_quiet_op; go_big_quiet_on) | (refine Mix.S_load (o := _) rfl rfl ?_; intro K hK; simp only [List.getElem_toArray, List.getElem_cons_zero, List.getElem_cons_succ]; go_big_quiet_op; go_big_quiet_on) | refine Mix.S_skip0 (o := _) rfl rfl ?_ | refine Mix.S_skip1 (o := _) rfl rfl ?_)
    refine Mix.S_done ?_
    rcases hcase with ⟨rfl, he⟩ | ⟨hne, he, hen⟩
    · go_wp2_with fail
      refine (pop_m HM.out.1 (by exact HH.out.2.1) HH.out.2.2.2.2.2.2.2.2.2.2).mono ?_
      rintro e1 w5 ⟨rfl, ⟨sv', hM5⟩, hf5⟩
      have rb5 := hf5.row HM.out.2.2.2.1 HH.out.2.2.2.2.2.1
      obtain ⟨x0, x1, x2, x3, x4, xz⟩ := row5 (hf5.row HM.out.2.2.2.2 (by omega))
      have hs5 := hf5.size
      have hb5 : b < w5.heap.size := by omega
      have H5 := Lib.hid (And.intro hM5 (And.intro hf5 rb5))
      clear hM5 hf5 rb5 x0' x1' x2' x3' x4' xz'
      go_wp2_with (refine wpList_loadcall 36 b rfl ?_)
      refine ⟨_, H5.out.2.2, Cl.cs_len HH.out.2.2.2.2.1 io ic, ?_⟩
      have hD := aborted_m H5.out.1 (by have := HH.out.2.2.2.2.2.2.2.2.1; rw [HH.out.2.2.1] at this ⊢; simp only [List.length_cons, List.tail_cons] at this ⊢; omega) c HH.out.2.2.2.2.1 io c.fn.length ic
      have hR := HR.out
      rw [if_neg (by simp), if_pos (by first | trivial | rfl | simp)] at hR
      have HD := Lib.hid hD
      have HR := Lib.hid hR
      clear hD hR
      go_wp2_with fail
      refine HD.out.mono ?_
      rintro e2 w6 ⟨v, rfl, hres, haft⟩
      have HE := Lib.hid (And.intro hres haft)
      clear hres haft
      go_wp2_with fail
      go_ret
      rw [HR.out]
      have hE2 := HE.out
      rw [HH.out.2.2.1, List.tail_cons] at hE2
      refine ⟨_, rfl, hE2.1.lo (by omega), ?_⟩
      refine Aft.step (A1 := fun x => A x ∨ L.Dm x) (fun x hx => Or.inl (hx.elim id (HH.out.1.od x))) ((HM.out.2.2.1.mono fun x _ hx => HH.out.1.od x hx).trans (H5.out.2.1.mono fun x _ hx => hx ▸ HH.out.1.om)) hE2.2
    · have hE := Lib.hid fun w1 => failed_r w1 er hne
      go_wp2_with fail
      refine (hE.out _).mono ?_
      rintro e2 w5 ⟨v, rfl, hres, hf5⟩
      have HE := Lib.hid (And.intro hres hf5)
      clear hres hf5
      go_wp2_with fail
      go_ret
      rw [HR.out, if_pos hne]
      have hA2 := HM.out.2.1
      rw [HH.out.2.2.1] at hA2
      exact ⟨_, rfl, HE.out.1.lo (by omega), Aft.box (Fr.refl _ _) hA2 (E := Non) HE.out.2 (fun _ h => h.elim) HH.out.1.lt HH.out.1.base_le⟩
  · have hopn : ¬ xop = 28 := hop
    go_wp2_with fail
    have cW := @Mix.cls_drew w1 [m, b]
    refine Mix.wp_region_mix [3, 7] [(0, 0), (0, 1), (0, 2), (1, 3), (0, 4), (0, 5), (0, 6), (1, 7), (0, 9), (2, 8), (2, 10), (2, 11), (0, 12)] (fun V => ∃ g, V = Mix.upon w1 [m, b] g) (by kernel_rfl) (by kernel_rfl) cW ?_
    clear cW
    repeat (first | (refine Mix.S_pure (o := _) rfl rfl ?_; intro K hK; simp only [List.getElem_toArray, List.getElem_cons_zero, List.getElem_cons_succ]; go_big_quiet_op; go_big_quiet_on) | (refine Mix.S_load (o := _) rfl rfl ?_; intro K hK; simp only [List.getElem_toArray, List.getElem_cons_zero, List.getElem_cons_succ]; go_big_quiet_op; go_big_quiet_on) | refine Mix.S_skip0 (o := _) rfl rfl ?_ | refine Mix.S_skip1 (o := _) rfl rfl ?_)
    refine Mix.S_eff (o := _) rfl rfl ?_
    intro K hK
    simp only [List.getElem_toArray, List.getElem_cons_zero, List.getElem_cons_succ]
    go_simp
    refine (off_c _ fp fa fn 0).mono ?_
    rintro e1 w2 ⟨rfl, hf⟩
    refine hK _ _ ⟨Mix.cls_fr (D := Non) hf (by simp [Non]; omega), ?_⟩
    clear hK K
    have hf2 : Fr Non w1 w2 := Fr.trans (by exact (Fr.refl _ _).drew) hf
    have hs2 := hf2.size
    clear hf
    refine Mix.S_eff (o := _) rfl rfl ?_
    intro K hK
    simp only [List.getElem_toArray, List.getElem_cons_zero, List.getElem_cons_succ]
    go_simp
    refine (number_c _ (-1)).mono ?_
    rintro e1 w3 ⟨rfl, hf⟩
    refine hK _ _ ⟨Mix.cls_fr (D := Non) hf (by simp [Non]; omega), ?_⟩
    clear hK K
    have hf3 : Fr Non w1 w3 := hf2.trans hf
    have hs3 := hf3.size
    clear hf hf2
    have HF3 := Lib.hid hf3
    clear hf3
    refine Mix.S_eff (o := _) rfl rfl ?_
    intro K hK
    simp only [List.getElem_toArray, List.getElem_cons_zero, List.getElem_cons_succ]
    go_simp
    refine (hSt.out _ (H1.out.1.trans HF3.out)).mono ?_
    rintro e1 w4 ⟨rfl, hM4, hf4⟩
    refine hK _ _ ⟨Mix.cls_fr (D := L.Dm) hf4 (by simp; exact ⟨⟨by omega, HH.out.2.2.2.2.2.2.1⟩, by omega, HH.out.2.2.2.2.2.2.2.1⟩), ?_⟩
    clear hK K
    have hf14 : Fr L.Dm w w4 := ((H1.out.1.trans HF3.out).mono (fun _ _ h => h.elim)).trans hf4
    have hs4 := hf14.size
    have hup := HH.out.1.upMem hf14 hM4 (fun b hb => Or.inl hb)
    have hAm := HH.out.1.aftMem hf14 hM4 (fun b hb => Or.inl hb)
    have rx4 := ((HF3.out.mono (fun _ _ h => h.elim)).trans hf4).row H1.out.2 (fun e => by have := HH.out.1.lt _ (HH.out.1.od _ e); omega)
    obtain ⟨x0', x1', x2', x3', x4', xz'⟩ := row5 rx4
    have rb4 := hf14.row HH.out.2.2.2.1 HH.out.2.2.2.2.2.2.2.1
    have HM := Lib.hid (And.intro hup (And.intro hAm (And.intro hf14 (And.intro rb4 rx4))))
    clear hup hAm hf14 hf4 hM4 rb4 rx4 x0 x1 x2 x3 x4 xz yw0 yw1 yw2 k2
    repeat (first | (refine Mix.S_pure (o := _) rfl rfl ?_; intro K hK; simp only [List.getElem_toArray, List.getElem_cons_zero, List.getElem_cons_succ]; go_big_quiet_op; go_big_quiet_on) | (refine Mix.S_load (o := _) rfl rfl ?_; intro K hK; simp only [List.getElem_toArray, List.getElem_cons_zero, List.getElem_cons_succ]; go_big_quiet_op; go_big_quiet_on) | refine Mix.S_skip0 (o := _) rfl rfl ?_ | refine Mix.S_skip1 (o := _) rfl rfl ?_)
    refine Mix.S_done ?_
    rcases hcase with ⟨rfl, he⟩ | ⟨hne, he, hen⟩
    · go_wp2_with fail
      refine (pop_m HM.out.1 (by exact HH.out.2.1) HH.out.2.2.2.2.2.2.2.2.2.2).mono ?_
      rintro e1 w5 ⟨rfl, ⟨sv', hM5⟩, hf5⟩
      have rb5 := hf5.row HM.out.2.2.2.1 HH.out.2.2.2.2.2.1
      obtain ⟨x0, x1, x2, x3, x4, xz⟩ := row5 (hf5.row HM.out.2.2.2.2 (by omega))
      have hs5 := hf5.size
      have hb5 : b < w5.heap.size := by omega
      have H5 := Lib.hid (And.intro hM5 (And.intro hf5 rb5))
      clear hM5 hf5 rb5 x0' x1' x2' x3' x4' xz'
      go_wp2_with (refine wpList_loadcall 41 b rfl ?_)
      refine ⟨_, H5.out.2.2, Cl.cs_len HH.out.2.2.2.2.1 io ic, ?_⟩
      have hD := done_m H5.out.1 (by have := HH.out.2.2.2.2.2.2.2.2.1; rw [HH.out.2.2.1] at this ⊢; simp only [List.length_cons, List.tail_cons] at this ⊢; omega) c HH.out.2.2.2.2.1 HH.out.2.2.2.2.2.2.2.2.2.1 io c.fn.length ic
      have hR := HR.out
      rw [if_neg (by simp), if_neg hop] at hR
      have HD := Lib.hid hD
      have HR := Lib.hid hR
      clear hD hR
      go_wp2_with fail
      refine HD.out.mono ?_
      rintro e2 w6 ⟨v, rfl, hres, haft⟩
      have HE := Lib.hid (And.intro hres haft)
      clear hres haft
      go_wp2_with fail
      go_ret
      rw [HR.out]
      have hE2 := HE.out
      rw [HH.out.2.2.1, List.tail_cons] at hE2
      refine ⟨_, rfl, hE2.1.lo (by omega), ?_⟩
      refine Aft.step (A1 := fun x => A x ∨ L.Dm x) (fun x hx => Or.inl (hx.elim id (HH.out.1.od x))) ((HM.out.2.2.1.mono fun x _ hx => HH.out.1.od x hx).trans (H5.out.2.1.mono fun x _ hx => hx ▸ HH.out.1.om)) hE2.2
    · have hE := Lib.hid fun w1 => failed_r w1 er hne
      go_wp2_with fail
      refine (hE.out _).mono ?_
      rintro e2 w5 ⟨v, rfl, hres, hf5⟩
      have HE := Lib.hid (And.intro hres hf5)
      clear hres hf5
      go_wp2_with fail
      go_ret
      rw [HR.out, if_pos hne]
      have hA2 := HM.out.2.1
      rw [HH.out.2.2.1] at hA2
      exact ⟨_, rfl, HE.out.1.lo (by omega), Aft.box (Fr.refl _ _) hA2 (E := Non) HE.out.2 (fun _ h => h.elim) HH.out.1.lt HH.out.1.base_le⟩
end

end Go.Proofs.Ytlbomnbpahmphaa
