/- Walks: 'suspended' on a machine whose layout is hidden. Conditions: few calls, few events; what steps names a register. -/
import Derived.MapKept
import Derived.Test.YtlbomnbpahmphaaSa12
namespace Go.Proofs.Ytlbomnbpahmphaa
open Go.RowKit

def stackLen (w : World) (m : Nat) : Nat := match w.cell? ⟨m, 5, none⟩ with | some (.slice _ n _) => n | _ => 0

section
variable {base : Nat} {P : Pr} {A : Nat → Prop} {w : World} {m : Nat} {S : St} {L : Lay}

theorem ML.stackLen (h : ML base P A w m S L) : stackLen w m = S.stack.length := by
  obtain ⟨ao, cap, e⟩ := h.c5l
  unfold Go.Proofs.Ytlbomnbpahmphaa.stackLen
  rw [e]

theorem Cl.get_tail {c : Cl} (h : c.regs.length = 16) (io : Option Addr) (ic : Nat) :
    (c.cs io ic)[53]? = some (.int .i64 c.role) ∧ (c.cs io ic)[54]? = some (.int .i64 c.into) ∧ (c.cs io ic)[55]? = some (.int .i64 c.label) := by
  have hf : (flat c.regs).length = 48 := by rw [flat_len, h]
  unfold Cl.cs
  refine ⟨?_, ?_, ?_⟩ <;> simp [List.getElem?_append, hf, Wd.cs]

set_option maxRecDepth 100000 in
set_option maxHeartbeats 2000000 in
theorem suspended_m (h : ML base P A w m S L) (hn : S.stack.length ≤ 1000000000) (ht : S.told.length ≤ 1000000000) (hi : ∀ c ∈ S.stack, c.role = 1 → 0 ≤ c.into ∧ c.into < 16) (k n : Int) :
    Calls Try.prog 97 #[.pointer (some ⟨m, 0, none⟩), .agg #[.int .i64 k, .int .i64 n]] w fun e w' => ∃ v, e = .returned v ∧ Res w' w.heap.size v (suspS k n S S.stack).1 ∧ Aft base P A w w' m (suspS k n S S.stack).2 := by
  have hm := h.mlt
  have HH := Lib.hid (And.intro h (And.intro hn (And.intro ht hi)))
  obtain ⟨R, hR⟩ : ∃ R, R = suspS k n S S.stack := ⟨_, rfl⟩
  rw [← hR]
  have HR := Lib.hid hR
  clear h hn ht hi hR
  have hk : (k = 0 ∧ (k == 0) = true) ∨ (k ≠ 0 ∧ (k == 0) = false) := by by_cases h : k = 0 <;> simp [h]
  go_enter Try.func97, Try.ntmps97
  go_wp2_with fail
  go_loopw [] (fun wr => ∃ l L', ML base P A wr m { S with stack := l } L' ∧ R = suspS k n S l ∧ (∀ c ∈ l, c ∈ S.stack) ∧ l.length ≤ S.stack.length ∧ Row wr w.heap.size 41 [.int .i64 k, .int .i64 n] ∧ Fr (fun x => x = m) w wr) (fun wr => stackLen wr m)
  case atStart => exact ⟨S.stack, L, HH.out.1.frN (by exact (by repeat (first | exact Fr.refl _ _ | assumption | refine Fr.drewN ?_ _ | refine Fr.drew ?_ | refine Fr.drewl ?_ | refine Fr.drewNl ?_ _ | refine Fr.alloc ?_ _))), HR.out, fun _ h => h, Nat.le_refl _, by exact Row.new' rfl, by exact (Fr.refl _ _).alloc _⟩
  case round =>
    obtain ⟨l, L', hML, hRl, hsub, hle, hbox, hfr⟩ := hrel
    cases l with
    | nil =>
      obtain ⟨ao, cap, k5⟩ := hML.c5l
      simp only [List.length_nil] at k5
      have HX := Lib.hid (And.intro hML (And.intro hRl (And.intro hbox hfr)))
      clear hML hRl hsub hle hbox hfr
      go_wp2_with fail
      go_ret
      obtain ⟨hML, hRl, hbox, hfr⟩ := HX.out
      rw [hRl]
      exact ⟨_, rfl, Or.inr ⟨w.heap.size, k, n, rfl, rfl, hbox, Nat.le_refl _⟩, A, ⟨L', hML⟩, fun x hx => Or.inl hx, hfr.mono fun x _ hx => hx ▸ HH.out.1.om⟩
    | cons c cs =>
      obtain ⟨b, bs, hb, hbl, hcl⟩ := hML.atTop' rfl
      have hlen : L'.bl.length ≤ 1000000000 := by rw [hML.len]; exact Nat.le_trans hle HH.out.2.1
      have hP := Lib.hid (pop_m hML hb hlen)
      obtain ⟨ao, cap, k5⟩ := hML.c5l
      simp only [List.length_cons] at k5
      have h0 : (0 : Int) < (cs.length : Int) + 1 := by omega
      have hbm : b ≠ m := hML.bl_m (by rw [hb]; exact List.mem_cons_self)
      have hbt : L'.tv.ownBlock ≠ some b := hML.bl_tv (by rw [hb]; exact List.mem_cons_self)
      have hbn : b ∉ bs := by have := hML.nodup; rw [hb] at this; exact (List.nodup_cons.1 this).1
      have hlw : stackLen wr m = cs.length + 1 := hML.stackLen
      have hbb := hML.high _ (hML.ob b (by rw [hb]; exact List.mem_cons_self))
      have hin := HH.out.2.2.2 c (hsub c List.mem_cons_self)
      have HX := Lib.hid (And.intro hcl (And.intro hRl (And.intro hbox (And.intro hfr (And.intro hsub hle)))))
      have hszr := hfr.size
      clear hML hb hRl hsub hle hbox hfr hlen hbl hcl
      go_wp2_with fail
      refine hP.out.mono ?_
      rintro e1 w1 ⟨rfl, ⟨sv', hM1⟩, hf1⟩
      obtain ⟨io, ic, hrow, hins, hreg⟩ := HX.out.1.fr hf1 (fun x hx => by rw [hx]; exact HH.out.1.high _ HH.out.1.om) hbm
      obtain ⟨g53, g54, _⟩ := Cl.get_tail hreg io ic
      have y53 := hrow.cell g53
      have y54 := hrow.cell g54
      have hyz := hrow.frozen
      have hbw := hrow.lt
      obtain ⟨ao1, cap1, k51⟩ := hM1.c5l
      simp only [List.tail_cons] at k51
      have hbox1 := hf1.row HX.out.2.2.1 (by omega)
      have hlw1 : stackLen w1 m = cs.length := by have := hM1.stackLen; simpa using this
      have hfr1 := HX.out.2.2.2.1.trans hf1
      have hsz1 := hf1.size
      have hlt : stackLen w1 m < stackLen wr m := by omega
      obtain ⟨z0, z1, zz⟩ := row2 hbox1
      have H1 := Lib.hid (And.intro hM1 (And.intro hbox1 (And.intro hfr1 (And.intro hrow (And.intro hins hreg)))))
      clear hM1 hf1 hrow hins hreg g53 g54 hbox1 hfr1 k5 hlw hlw1
      by_cases hr : c.role = 1
      · cases cs with
        | nil =>
          rw [hr] at y53
          simp only [List.length_nil] at k51
          go_wp2_with fail
          obtain ⟨hM1, hbox1, hfr1, _⟩ := H1.out
          obtain ⟨_, hRl, _, _, hsub, hle⟩ := HX.out
          refine ⟨⟨[], _, hM1, ?_, by simp, by simp, hbox1, hfr1⟩, hlt⟩
          rw [hRl]
          simp [suspS]
        | cons d ds =>
          rw [hr] at y53
          obtain ⟨i0, i1⟩ := hin hr
          obtain ⟨i, hi⟩ := Int.eq_ofNat_of_zero_le i0
          rw [hi] at y54 i1
          have hi16 : (i : Int) < 16 := i1
          have hi0 : (0 : Int) ≤ (i : Int) := by omega
          simp only [List.length_cons] at k51
          have hd0 : (((ds.length : Int) + 1) == 0) = false := beq_false_of_ne (by omega)
          have hd1 : ¬ ((ds.length : Int) + 1 = 0) := by omega
          obtain ⟨hM1, hbox1, hfr1, hrow1, hins1, hreg1⟩ := H1.out
          obtain ⟨b', bs', hb', _, _⟩ := hM1.atTop' rfl
          change bs = b' :: bs' at hb'
          have hRR : R = (none, (if k = 0 then { S with stack := d :: ds }.tell 5 0 n else { S with stack := d :: ds }).setTop (d.put i (num 1))) := by
            rw [HX.out.2.1]
            simp only [suspS, hr, hi]
            simp [St.top]
          have hlen1 : ds.length + 1 ≤ 1000000000 := by
            have h1 := HX.out.2.2.2.2.2
            have h2 := HH.out.2.1
            simp only [List.length_cons] at h1
            omega
          have hbb1 : b ≠ b' := fun e => by
            have hn := hbn
            rw [hb'] at hn
            exact hn (by rw [e]; exact List.mem_cons_self)
          have hA1 : A b' := hM1.ob b' (by rw [hb']; exact List.mem_cons_self)
          rcases hk with ⟨rfl, hkb⟩ | ⟨hk0, hkb⟩
          · have hT := Lib.hid (tell_m hM1 (by exact HH.out.2.2.1) 5 0 0 n)
            have hRR := Lib.hid hRR
            clear hM1 hbox1 hfr1 hrow1 hins1 hreg1
            go_wp2_with fail
            refine hT.out.mono ?_
            rintro e1 w2 ⟨rfl, ⟨tv', A2, hM2, hA2⟩, hf2⟩
            obtain ⟨hM1, hbox1, hfr1, hrow1, hins1, hreg1⟩ := H1.out
            have hnb : ¬ (b = m ∨ L'.tv.ownBlock = some b) := by rintro (e | e); exact hbm e; exact hbt e
            have hrow2 := hf2.row hrow1 hnb
            have y54' := hrow2.cell (Cl.get_tail hreg1 io ic).2.1
            rw [hi] at y54'
            have hbw2 := hrow2.lt
            have HMV := Lib.hid (And.intro hM2 (And.intro hb' (And.intro (rfl : (({ S with stack := d :: ds } : St).tell 5 0 n).stack = d :: ds) (And.intro (show ∀ x, A2 x → A x ∨ w.heap.size ≤ x from fun x hx => (hA2 x hx).imp id (fun e => Nat.le_trans (Nat.le_trans hszr hsz1) e)) (show Fr A w w2 from (hfr1.mono fun x _ hx => hx ▸ HH.out.1.om).trans (hf2.mono fun x _ hx => by
              rcases hx with hx | hx
              · exact hx ▸ HH.out.1.om
              · exact hM1.ot x hx))))))
            have hlenV : (b' :: bs').length ≤ 1000000000 := by have := hM1.len; rw [hb'] at this; rw [this]; exact hlen1
            rw [← hb'] at hlenV
            have HRR : Hid (R = (none, (({ S with stack := d :: ds } : St).tell 5 0 n).setTop (d.put i (num 1)))) := Lib.hid (by rw [hRR.out, if_pos (by first | trivial | rfl | simp)])
            have hbb' : b ≠ b' := hbb1
            clear hM1 hbox1 hfr1 hrow1 hins1 hreg1 hM2 hA2 hf2 hrow2 hnb y53 y54 k51 z0 z1 zz hyz hb'
            go_wp2_with fail
            have cW := @Mix.cls_drew w2 [b]
            refine Mix.wp_region_mix [5] [(0, 0), (0, 2), (0, 3), (0, 4), (1, 5), (2, 1), (0, 7), (0, 8), (2, 6), (0, 9), (2, 10)] (fun U => ∃ g, U = Mix.upon w2 [b] g) (by kernel_rfl) (by kernel_rfl) cW ?_
            clear cW
            repeat (first | (refine Mix.S_pure (o := _) rfl rfl ?_; intro K hK; simp only [List.getElem_toArray, List.getElem_cons_zero, List.getElem_cons_succ]; go_big_quiet_op; go_big_quiet_on) | (refine Mix.S_load (o := _) rfl rfl ?_; intro K hK; simp only [List.getElem_toArray, List.getElem_cons_zero, List.getElem_cons_succ]; go_big_quiet_op; go_big_quiet_on) | refine Mix.S_skip0 (o := _) rfl rfl ?_ | refine Mix.S_skip1 (o := _) rfl rfl ?_)
            refine Mix.S_eff (o := _) rfl rfl ?_
            intro K hK
            simp only [List.getElem_toArray, List.getElem_cons_zero, List.getElem_cons_succ]
            go_simp
            refine (top_m (HMV.out.1.frN (by exact (Fr.refl _ _).drew)) HMV.out.2.1 hlenV).mono ?_
            rintro e1 w3 ⟨rfl, hf⟩
            refine hK _ _ ⟨Mix.cls_fr (D := Non) hf (by simp [Non]; omega), ?_⟩
            clear hK K
            have hf3 : Fr Non w2 w3 := Fr.trans (by exact (Fr.refl _ _).drew) hf
            have hs3 := hf.size
            simp only [World.size_drew] at hs3
            clear hf
            repeat (first | (refine Mix.S_pure (o := _) rfl rfl ?_; intro K hK; simp only [List.getElem_toArray, List.getElem_cons_zero, List.getElem_cons_succ]; go_big_quiet_op; go_big_quiet_on) | (refine Mix.S_load (o := _) rfl rfl ?_; intro K hK; simp only [List.getElem_toArray, List.getElem_cons_zero, List.getElem_cons_succ]; go_big_quiet_op; go_big_quiet_on) | refine Mix.S_skip0 (o := _) rfl rfl ?_ | refine Mix.S_skip1 (o := _) rfl rfl ?_)
            refine Mix.S_eff (o := _) rfl rfl ?_
            intro K hK
            simp only [List.getElem_toArray, List.getElem_cons_zero, List.getElem_cons_succ]
            go_simp
            refine (number_c _ 1).mono ?_
            rintro e1 w4 ⟨rfl, hf⟩
            refine hK _ _ ⟨Mix.cls_fr (D := Non) hf (by simp [Non]; omega), ?_⟩
            clear hK K
            have hf4 : Fr Non w2 w4 := hf3.trans hf
            have hs4 := hf.size
            clear hf hf3
            obtain ⟨io', ic', hrow', hins', hreg'⟩ := ((HMV.out.1.frN hf4).cls 0 b' d (by rw [HMV.out.2.1]; rfl) rfl)
            obtain ⟨e0, e1, e2⟩ := Cl.get_reg hreg' io' ic' (i := i) (by omega)
            have v0 := hrow'.cell e0
            have v1 := hrow'.cell e1
            have v2 := hrow'.cell e2
            have vz := hrow'.frozen
            have HF4 := Lib.hid (And.intro hf4 (And.intro hrow' (And.intro hins' hreg')))
            clear hf4 hrow' hins' hreg' e0 e1 e2
            repeat (first | (refine Mix.S_pure (o := _) rfl rfl ?_; intro K hK; simp only [List.getElem_toArray, List.getElem_cons_zero, List.getElem_cons_succ]; go_big_quiet_op; go_big_quiet_on) | (refine Mix.S_load (o := _) rfl rfl ?_; intro K hK; simp only [List.getElem_toArray, List.getElem_cons_zero, List.getElem_cons_succ]; go_big_quiet_op; go_big_quiet_on) | refine Mix.S_skip0 (o := _) rfl rfl ?_ | refine Mix.S_skip1 (o := _) rfl rfl ?_)
            refine Mix.S_eff (o := _) rfl rfl ?_
            intro K hK
            simp only [List.getElem_toArray, List.getElem_cons_zero, List.getElem_cons_succ]
            go_simp
            refine hK _ _ ⟨Mix.cls_fr (D := fun x => x = b') (by exact Fr.set3 _ _ _ _ _ _ _ _) (by simp; exact ⟨by omega, hbb'⟩), ?_⟩
            clear hK K v0 v1 v2 vz
            repeat (first | (refine Mix.S_pure (o := _) rfl rfl ?_; intro K hK; simp only [List.getElem_toArray, List.getElem_cons_zero, List.getElem_cons_succ]; go_big_quiet_op; go_big_quiet_on) | (refine Mix.S_load (o := _) rfl rfl ?_; intro K hK; simp only [List.getElem_toArray, List.getElem_cons_zero, List.getElem_cons_succ]; go_big_quiet_op; go_big_quiet_on) | refine Mix.S_skip0 (o := _) rfl rfl ?_ | refine Mix.S_skip1 (o := _) rfl rfl ?_)
            refine Mix.S_done ?_
            go_wp2_with fail
            go_ret
            obtain ⟨hf4, hrow', hins', hreg'⟩ := HF4.out
            have hfin := ((HMV.out.1.frN hf4).upTop HMV.out.2.1 (ClAt.put hrow' hins' hreg' (i := i) (by omega) (HMV.out.1.high _ (HMV.out.1.ob _ (by rw [HMV.out.2.1]; exact List.mem_cons_self))) (num 1)) (Fr.set3 _ _ _ _ _ _ _ _))
            rw [HRR.out]
            refine ⟨_, rfl, Or.inl ⟨rfl, rfl⟩, _, ⟨_, hfin⟩, HMV.out.2.2.2.1, (HMV.out.2.2.2.2.trans (hf4.mono fun _ _ h => h.elim)).trans ((Fr.set3 _ _ _ _ _ _ _ _).mono fun x hx e => ?_)⟩
            exact e ▸ hA1
          · have hkn : (k == 0) = false := hkb
            have hlenV : (b' :: bs').length ≤ 1000000000 := by have := hM1.len; rw [hb'] at this; rw [this]; exact hlen1
            rw [← hb'] at hlenV
            have HMV := Lib.hid (And.intro hM1 (And.intro hb' (And.intro (rfl : ({ S with stack := d :: ds } : St).stack = d :: ds) (And.intro (show ∀ x, A x → A x ∨ w.heap.size ≤ x from fun x hx => Or.inl hx) (show Fr A w w1 from (hfr1.mono fun x _ hx => hx ▸ HH.out.1.om))))))
            have HRR : Hid (R = (none, ({ S with stack := d :: ds } : St).setTop (d.put i (num 1)))) := Lib.hid (by rw [hRR, if_neg hk0])
            have hbb' : b ≠ b' := hbb1
            clear hM1 hbox1 hfr1 hrow1 hins1 hreg1 hb' hRR
            go_wp2_with fail
            have cW := @Mix.cls_drew w1 [b]
            refine Mix.wp_region_mix [5] [(0, 0), (0, 2), (0, 3), (0, 4), (1, 5), (2, 1), (0, 7), (0, 8), (2, 6), (0, 9), (2, 10)] (fun U => ∃ g, U = Mix.upon w1 [b] g) (by kernel_rfl) (by kernel_rfl) cW ?_
            clear cW
            repeat (first | (refine Mix.S_pure (o := _) rfl rfl ?_; intro K hK; simp only [List.getElem_toArray, List.getElem_cons_zero, List.getElem_cons_succ]; go_big_quiet_op; go_big_quiet_on) | (refine Mix.S_load (o := _) rfl rfl ?_; intro K hK; simp only [List.getElem_toArray, List.getElem_cons_zero, List.getElem_cons_succ]; go_big_quiet_op; go_big_quiet_on) | refine Mix.S_skip0 (o := _) rfl rfl ?_ | refine Mix.S_skip1 (o := _) rfl rfl ?_)
            refine Mix.S_eff (o := _) rfl rfl ?_
            intro K hK
            simp only [List.getElem_toArray, List.getElem_cons_zero, List.getElem_cons_succ]
            go_simp
            refine (top_m (HMV.out.1.frN (by exact (Fr.refl _ _).drew)) HMV.out.2.1 hlenV).mono ?_
            rintro e1 w3 ⟨rfl, hf⟩
            refine hK _ _ ⟨Mix.cls_fr (D := Non) hf (by simp [Non]; omega), ?_⟩
            clear hK K
            have hf3 : Fr Non w1 w3 := Fr.trans (by exact (Fr.refl _ _).drew) hf
            have hs3 := hf.size
            simp only [World.size_drew] at hs3
            clear hf
            repeat (first | (refine Mix.S_pure (o := _) rfl rfl ?_; intro K hK; simp only [List.getElem_toArray, List.getElem_cons_zero, List.getElem_cons_succ]; go_big_quiet_op; go_big_quiet_on) | (refine Mix.S_load (o := _) rfl rfl ?_; intro K hK; simp only [List.getElem_toArray, List.getElem_cons_zero, List.getElem_cons_succ]; go_big_quiet_op; go_big_quiet_on) | refine Mix.S_skip0 (o := _) rfl rfl ?_ | refine Mix.S_skip1 (o := _) rfl rfl ?_)
            refine Mix.S_eff (o := _) rfl rfl ?_
            intro K hK
            simp only [List.getElem_toArray, List.getElem_cons_zero, List.getElem_cons_succ]
            go_simp
            refine (number_c _ 1).mono ?_
            rintro e1 w4 ⟨rfl, hf⟩
            refine hK _ _ ⟨Mix.cls_fr (D := Non) hf (by simp [Non]; omega), ?_⟩
            clear hK K
            have hf4 : Fr Non w1 w4 := hf3.trans hf
            have hs4 := hf.size
            clear hf hf3
            obtain ⟨io', ic', hrow', hins', hreg'⟩ := ((HMV.out.1.frN hf4).cls 0 b' d (by rw [HMV.out.2.1]; rfl) rfl)
            obtain ⟨e0, e1, e2⟩ := Cl.get_reg hreg' io' ic' (i := i) (by omega)
            have v0 := hrow'.cell e0
            have v1 := hrow'.cell e1
            have v2 := hrow'.cell e2
            have vz := hrow'.frozen
            have HF4 := Lib.hid (And.intro hf4 (And.intro hrow' (And.intro hins' hreg')))
            clear hf4 hrow' hins' hreg' e0 e1 e2
            repeat (first | (refine Mix.S_pure (o := _) rfl rfl ?_; intro K hK; simp only [List.getElem_toArray, List.getElem_cons_zero, List.getElem_cons_succ]; go_big_quiet_op; go_big_quiet_on) | (refine Mix.S_load (o := _) rfl rfl ?_; intro K hK; simp only [List.getElem_toArray, List.getElem_cons_zero, List.getElem_cons_succ]; go_big_quiet_op; go_big_quiet_on) | refine Mix.S_skip0 (o := _) rfl rfl ?_ | refine Mix.S_skip1 (o := _) rfl rfl ?_)
            refine Mix.S_eff (o := _) rfl rfl ?_
            intro K hK
            simp only [List.getElem_toArray, List.getElem_cons_zero, List.getElem_cons_succ]
            go_simp
            refine hK _ _ ⟨Mix.cls_fr (D := fun x => x = b') (by exact Fr.set3 _ _ _ _ _ _ _ _) (by simp; exact ⟨by omega, hbb'⟩), ?_⟩
            clear hK K v0 v1 v2 vz
            repeat (first | (refine Mix.S_pure (o := _) rfl rfl ?_; intro K hK; simp only [List.getElem_toArray, List.getElem_cons_zero, List.getElem_cons_succ]; go_big_quiet_op; go_big_quiet_on) | (refine Mix.S_load (o := _) rfl rfl ?_; intro K hK; simp only [List.getElem_toArray, List.getElem_cons_zero, List.getElem_cons_succ]; go_big_quiet_op; go_big_quiet_on) | refine Mix.S_skip0 (o := _) rfl rfl ?_ | refine Mix.S_skip1 (o := _) rfl rfl ?_)
            refine Mix.S_done ?_
            go_wp2_with fail
            go_ret
            obtain ⟨hf4, hrow', hins', hreg'⟩ := HF4.out
            have hfin := ((HMV.out.1.frN hf4).upTop HMV.out.2.1 (ClAt.put hrow' hins' hreg' (i := i) (by omega) (HMV.out.1.high _ (HMV.out.1.ob _ (by rw [HMV.out.2.1]; exact List.mem_cons_self))) (num 1)) (Fr.set3 _ _ _ _ _ _ _ _))
            rw [HRR.out]
            refine ⟨_, rfl, Or.inl ⟨rfl, rfl⟩, _, ⟨_, hfin⟩, HMV.out.2.2.2.1, (HMV.out.2.2.2.2.trans (hf4.mono fun _ _ h => h.elim)).trans ((Fr.set3 _ _ _ _ _ _ _ _).mono fun x hx e => ?_)⟩
            exact e ▸ hA1
      · have hr' : (c.role == 1) = false := beq_false_of_ne hr
        have hrn : (c.role != 1) = true := by simp [hr]
        go_wp2_with fail
        obtain ⟨hM1, hbox1, hfr1, _⟩ := H1.out
        obtain ⟨_, hRl, _, _, hsub, hle⟩ := HX.out
        refine ⟨⟨cs, _, hM1, ?_, fun x hx => hsub x (List.mem_cons_of_mem _ hx), by simp only [List.length_cons] at hle; omega, hbox1, hfr1⟩, hlt⟩
        rw [hRl]
        simp [suspS, hr]
end

end Go.Proofs.Ytlbomnbpahmphaa

/- Walks: 'ends' on a machine whose layout is hidden. Conditions: few calls; what steps names a register. -/
namespace Go.Proofs.Ytlbomnbpahmphaa
open Go.RowKit

section
variable {base : Nat} {P : Pr} {A A1 : Nat → Prop} {w w1 w' : World} {m : Nat} {S S' : St} {L : Lay}

theorem Aft.step (hA : ∀ x, A1 x → A x ∨ w.heap.size ≤ x) (f : Fr A w w1) (k : Aft base P A1 w1 w' m S') : Aft base P A w w' m S' := by
  obtain ⟨A2, k1, k2, k3⟩ := k
  refine ⟨A2, k1, fun x hx => ?_, f.then k3 fun x hx e => ?_⟩
  · rcases k2 x hx with e | e
    · exact hA x e
    · exact Or.inr (Nat.le_trans f.size e)
  · rcases hA x e with e | e
    · exact e
    · omega

set_option maxRecDepth 100000 in
set_option maxHeartbeats 2000000 in
theorem ends_m (h : ML base P A w m S L) (hn : S.stack.length ≤ 1000000000) {c : Cl} {cs : List Cl} (hs : S.stack = c :: cs) (hi : c.role = 1 → 0 ≤ c.into ∧ c.into < 16) (x : In) (la : Option Addr) (lc : Nat) :
    Calls Try.prog 98 #[.pointer (some ⟨m, 0, none⟩), .agg #[.int .i64 x.op, .int .i64 x.a, .int .i64 x.b, .int .i64 x.c, .slice la x.l.length lc]] w fun e w' => ∃ v, e = .returned v ∧ Res w' w.heap.size v (endsS S x).1 ∧ Aft base P A w w' m (endsS S x).2 := by
  have hm := h.mlt
  obtain ⟨b, bs, hb, hbl, hcl⟩ := h.atTop' hs
  obtain ⟨io, ic, hrow, hins, hreg⟩ := hcl
  have hbw := hrow.lt
  have hbm : b ∈ L.bl := by rw [hb]; exact List.mem_cons_self
  have hlen : L.bl.length ≤ 1000000000 := by rw [h.len]; exact hn
  have htop : S.top = c := by unfold St.top; rw [hs]; rfl
  obtain ⟨R, hR⟩ : ∃ R, R = endsS S x := ⟨_, rfl⟩
  rw [← hR]
  unfold endsS at hR
  rw [htop, hs] at hR
  simp only [List.tail_cons] at hR
  have hT := Lib.hid fun w1 (f : Fr Non w w1) => top_m (h.frN f) hb hlen
  obtain ⟨f0, f1, f2⟩ := Cl.get_frame hreg io ic
  have y0 := hrow.cell f0
  have y1 := hrow.cell f1
  have y2 := hrow.cell f2
  clear f0 f1 f2
  have c2 := h.c2
  have hco : (if x.op = 28 then doneS else doneS) = doneS := by split <;> rfl
  clear hco
  generalize hfr : c.frame = fr at y0 y1 y2 hR
  obtain ⟨fp, fa, fn⟩ := fr
  simp only at y0 y1 y2
  rw [offS_eq] at hR
  obtain ⟨xop, xa, xb, xc, xl⟩ := x
  simp only at hR ⊢
  have hst : ∃ st : Int, st = (if xop = 28 then -2 else -1) ∧ ((xop = 28 ∧ (xop == 28) = true ∧ st = -2) ∨ (xop ≠ 28 ∧ (xop == 28) = false ∧ st = -1)) := by
    by_cases h : xop = 28 <;> simp [h]
  obtain ⟨st, hst1, hst2⟩ := hst
  rw [← hst1] at hR
  have hSt := Lib.hid fun w1 (f : Fr Non w w1) => store_i (h.mem.frN f) fp fa (offn fp fn 0) false 0 st
  generalize hmo : S.mem.store ⟨fp, fa, offn fp fn 0⟩ (num st) = mo at hR
  have hmo' : S.mem.store ⟨fp, fa, offn fp fn 0⟩ ⟨false, 0, st⟩ = mo := hmo
  rw [hmo'] at hSt
  obtain ⟨M', er⟩ := mo
  simp only at hSt hR
  have hcase : (er = 0 ∧ (er == 0) = true) ∨ (er ≠ 0 ∧ (er == 0) = false ∧ (er != 0) = true) := by by_cases h : er = 0 <;> simp [h]
  have HR := Lib.hid hR
  have HH := Lib.hid (And.intro h (And.intro hb (And.intro hs (And.intro hrow (And.intro hreg (And.intro (h.bl_m hbm) (And.intro (fun e => (h.sep m e).1 rfl : ¬ L.Dm m) (And.intro (fun e => (h.sep b e).2.2.2.2 hbm : ¬ L.Dm b) (And.intro hn (And.intro hi hlen))))))))))
  clear h hb hs hrow hreg hbm hn hi hR hmo hmo' htop hfr hins hbl hst1 hlen
  go_enter Try.func98, Try.ntmps98
  go_wp2_with fail
  refine (hT.out _ (by exact (by repeat (first | exact Fr.refl _ _ | assumption | refine Fr.drewN ?_ _ | refine Fr.drew ?_ | refine Fr.drewl ?_ | refine Fr.drewNl ?_ _ | refine Fr.alloc ?_ _)))).mono ?_
  rintro e1 w1 ⟨rfl, hf⟩
  have rx : Row w1 w.heap.size 112 [.int .i64 xop, .int .i64 xa, .int .i64 xb, .int .i64 xc, .slice la xl.length lc] := hf.row (by exact Row.new' rfl) id
  have hf1 : Fr Non w w1 := Fr.trans (by exact (by repeat (first | exact Fr.refl _ _ | assumption | refine Fr.drewN ?_ _ | refine Fr.drew ?_ | refine Fr.drewl ?_ | refine Fr.drewNl ?_ _ | refine Fr.alloc ?_ _))) hf
  have hs1 := hf1.size
  obtain ⟨x0, x1, x2, x3, x4, xz⟩ := row5 rx
  have yw0 := hf1.cell y0 id
  have yw1 := hf1.cell y1 id
  have yw2 := hf1.cell y2 id
  have k2 := hf1.cell c2 id
  have hxl := rx.lt
  have H1 := Lib.hid (And.intro hf1 rx)
  clear hf hf1 rx y0 y1 y2 c2
  have hm1 : m < w1.heap.size := by omega
  have hb1 : b < w1.heap.size := by omega
  rcases hst2 with ⟨hop, hopb, rfl⟩ | ⟨hop, hopb, rfl⟩
  · subst hop
    go_wp2_with fail
    have cW := @Mix.cls_drew w1 [m, b]
    refine Mix.wp_region_mix [3, 7] [(0, 0), (0, 1), (0, 2), (1, 3), (0, 4), (0, 5), (0, 6), (1, 7), (0, 9), (2, 8), (2, 10), (2, 11), (0, 12)] (fun V => ∃ g, V = Mix.upon w1 [m, b] g) (by kernel_rfl) (by kernel_rfl) cW ?_
    clear cW
    repeat (first | (refine Mix.S_pure (o := _) rfl rfl ?_; intro K hK; simp only [List.getElem_toArray, List.getElem_cons_zero, List.getElem_cons_succ]; go_big_quiet_op; go_big_quiet_on) | (refine Mix.S_load (o := _) rfl rfl ?_; intro K hK; simp only [List.getElem_toArray, List.getElem_cons_zero, List.getElem_cons_succ]; go_big_quiet_op; go_big_quiet_on) | refine Mix.S_skip0 (o := _) rfl rfl ?_ | refine Mix.S_skip1 (o := _) rfl rfl ?_)
    refine Mix.S_eff (o := _) rfl rfl ?_
    intro K hK
    simp only [List.getElem_toArray, List.getElem_cons_zero, List.getElem_cons_succ]
    go_simp
    refine (off_c _ fp fa fn 0).mono ?_
    rintro e1 w2 ⟨rfl, hf⟩
    refine hK _ _ ⟨Mix.cls_fr (D := Non) hf (by simp [Non]; omega), ?_⟩
    clear hK K
    have hf2 : Fr Non w1 w2 := Fr.trans (by exact (Fr.refl _ _).drew) hf
    have hs2 := hf2.size
    clear hf
    refine Mix.S_eff (o := _) rfl rfl ?_
    intro K hK
    simp only [List.getElem_toArray, List.getElem_cons_zero, List.getElem_cons_succ]
    go_simp
    refine (number_c _ (-2)).mono ?_
    rintro e1 w3 ⟨rfl, hf⟩
    refine hK _ _ ⟨Mix.cls_fr (D := Non) hf (by simp [Non]; omega), ?_⟩
    clear hK K
    have hf3 : Fr Non w1 w3 := hf2.trans hf
    have hs3 := hf3.size
    clear hf hf2
    have HF3 := Lib.hid hf3
    clear hf3
    refine Mix.S_eff (o := _) rfl rfl ?_
    intro K hK
    simp only [List.getElem_toArray, List.getElem_cons_zero, List.getElem_cons_succ]
    go_simp
    refine (hSt.out _ (H1.out.1.trans HF3.out)).mono ?_
    rintro e1 w4 ⟨rfl, hM4, hf4⟩
    refine hK _ _ ⟨Mix.cls_fr (D := L.Dm) hf4 (by simp; exact ⟨⟨by omega, HH.out.2.2.2.2.2.2.1⟩, by omega, HH.out.2.2.2.2.2.2.2.1⟩), ?_⟩
    clear hK K
    have hf14 : Fr L.Dm w w4 := ((H1.out.1.trans HF3.out).mono (fun _ _ h => h.elim)).trans hf4
    have hs4 := hf14.size
    have hup := HH.out.1.upMem hf14 hM4 (fun b hb => Or.inl hb)
    have hAm := HH.out.1.aftMem hf14 hM4 (fun b hb => Or.inl hb)
    have rx4 := ((HF3.out.mono (fun _ _ h => h.elim)).trans hf4).row H1.out.2 (fun e => by have := HH.out.1.lt _ (HH.out.1.od _ e); omega)
    obtain ⟨x0', x1', x2', x3', x4', xz'⟩ := row5 rx4
    have rb4 := hf14.row HH.out.2.2.2.1 HH.out.2.2.2.2.2.2.2.1
    have HM := Lib.hid (And.intro hup (And.intro hAm (And.intro hf14 (And.intro rb4 rx4))))
    clear hup hAm hf14 hf4 hM4 rb4 rx4 x0 x1 x2 x3 x4 xz yw0 yw1 yw2 k2
    repeat (first | (refine Mix.S_pure (o := _) rfl rfl ?_; intro K hK; simp only [List.getElem_toArray, List.getElem_cons_zero, List.getElem_cons_succ]; go_big_quiet_op; go_big_quiet_on) | (refine Mix.S_load (o := _) rfl rfl ?_; intro K hK; simp only [List.getElem_toArray, List.getElem_cons_zero, List.getElem_cons_succ]; go_big_quiet_op; go_big_quiet_on) | refine Mix.S_skip0 (o := _) rfl rfl ?_ | refine Mix.S_skip1 (o := _) rfl rfl ?_)
    refine Mix.S_done ?_
    rcases hcase with ⟨rfl, he⟩ | ⟨hne, he, hen⟩
    · go_wp2_with fail
      refine (pop_m HM.out.1 (by exact HH.out.2.1) HH.out.2.2.2.2.2.2.2.2.2.2).mono ?_
      rintro e1 w5 ⟨rfl, ⟨sv', hM5⟩, hf5⟩
      have rb5 := hf5.row HM.out.2.2.2.1 HH.out.2.2.2.2.2.1
      obtain ⟨x0, x1, x2, x3, x4, xz⟩ := row5 (hf5.row HM.out.2.2.2.2 (by omega))
      have hs5 := hf5.size
      have hb5 : b < w5.heap.size := by omega
      have H5 := Lib.hid (And.intro hM5 (And.intro hf5 rb5))
      clear hM5 hf5 rb5 x0' x1' x2' x3' x4' xz'
      go_wp2_with (refine wpList_loadcall 36 b rfl ?_)
      refine ⟨_, H5.out.2.2, Cl.cs_len HH.out.2.2.2.2.1 io ic, ?_⟩
      have hD := aborted_m H5.out.1 (by have := HH.out.2.2.2.2.2.2.2.2.1; rw [HH.out.2.2.1] at this ⊢; simp only [List.length_cons, List.tail_cons] at this ⊢; omega) c HH.out.2.2.2.2.1 io c.fn.length ic
      have hR := HR.out
      rw [if_neg (by simp), if_pos (by first | trivial | rfl | simp)] at hR
      have HD := Lib.hid hD
      have HR := Lib.hid hR
      clear hD hR
      go_wp2_with fail
      refine HD.out.mono ?_
      rintro e2 w6 ⟨v, rfl, hres, haft⟩
      have HE := Lib.hid (And.intro hres haft)
      clear hres haft
      go_wp2_with fail
      go_ret
      rw [HR.out]
      have hE2 := HE.out
      rw [HH.out.2.2.1, List.tail_cons] at hE2
      refine ⟨_, rfl, hE2.1.lo (by omega), ?_⟩
      refine Aft.step (A1 := fun x => A x ∨ L.Dm x) (fun x hx => Or.inl (hx.elim id (HH.out.1.od x))) ((HM.out.2.2.1.mono fun x _ hx => HH.out.1.od x hx).trans (H5.out.2.1.mono fun x _ hx => hx ▸ HH.out.1.om)) hE2.2
    · have hE := Lib.hid fun w1 => failed_r w1 er hne
      go_wp2_with fail
      refine (hE.out _).mono ?_
      rintro e2 w5 ⟨v, rfl, hres, hf5⟩
      have HE := Lib.hid (And.intro hres hf5)
      clear hres hf5
      go_wp2_with fail
      go_ret
      rw [HR.out, if_pos hne]
      have hA2 := HM.out.2.1
      rw [HH.out.2.2.1] at hA2
      exact ⟨_, rfl, HE.out.1.lo (by omega), Aft.box (Fr.refl _ _) hA2 (E := Non) HE.out.2 (fun _ h => h.elim) HH.out.1.lt HH.out.1.base_le⟩
  · have hopn : ¬ xop = 28 := hop
    go_wp2_with fail
    have cW := @Mix.cls_drew w1 [m, b]
    refine Mix.wp_region_mix [3, 7] [(0, 0), (0, 1), (0, 2), (1, 3), (0, 4), (0, 5), (0, 6), (1, 7), (0, 9), (2, 8), (2, 10), (2, 11), (0, 12)] (fun V => ∃ g, V = Mix.upon w1 [m, b] g) (by kernel_rfl) (by kernel_rfl) cW ?_
    clear cW
    repeat (first | (refine Mix.S_pure (o := _) rfl rfl ?_; intro K hK; simp only [List.getElem_toArray, List.getElem_cons_zero, List.getElem_cons_succ]; go_big_quiet_op; go_big_quiet_on) | (refine Mix.S_load (o := _) rfl rfl ?_; intro K hK; simp only [List.getElem_toArray, List.getElem_cons_zero, List.getElem_cons_succ]; go_big_quiet_op; go_big_quiet_on) | refine Mix.S_skip0 (o := _) rfl rfl ?_ | refine Mix.S_skip1 (o := _) rfl rfl ?_)
    refine Mix.S_eff (o := _) rfl rfl ?_
    intro K hK
    simp only [List.getElem_toArray, List.getElem_cons_zero, List.getElem_cons_succ]
    go_simp
    refine (off_c _ fp fa fn 0).mono ?_
    rintro e1 w2 ⟨rfl, hf⟩
    refine hK _ _ ⟨Mix.cls_fr (D := Non) hf (by simp [Non]; omega), ?_⟩
    clear hK K
    have hf2 : Fr Non w1 w2 := Fr.trans (by exact (Fr.refl _ _).drew) hf
    have hs2 := hf2.size
    clear hf
    refine Mix.S_eff (o := _) rfl rfl ?_
    intro K hK
    simp only [List.getElem_toArray, List.getElem_cons_zero, List.getElem_cons_succ]
    go_simp
    refine (number_c _ (-1)).mono ?_
    rintro e1 w3 ⟨rfl, hf⟩
    refine hK _ _ ⟨Mix.cls_fr (D := Non) hf (by simp [Non]; omega), ?_⟩
    clear hK K
    have hf3 : Fr Non w1 w3 := hf2.trans hf
    have hs3 := hf3.size
    clear hf hf2
    have HF3 := Lib.hid hf3
    clear hf3
    refine Mix.S_eff (o := _) rfl rfl ?_
    intro K hK
    simp only [List.getElem_toArray, List.getElem_cons_zero, List.getElem_cons_succ]
    go_simp
    refine (hSt.out _ (H1.out.1.trans HF3.out)).mono ?_
    rintro e1 w4 ⟨rfl, hM4, hf4⟩
    refine hK _ _ ⟨Mix.cls_fr (D := L.Dm) hf4 (by simp; exact ⟨⟨by omega, HH.out.2.2.2.2.2.2.1⟩, by omega, HH.out.2.2.2.2.2.2.2.1⟩), ?_⟩
    clear hK K
    have hf14 : Fr L.Dm w w4 := ((H1.out.1.trans HF3.out).mono (fun _ _ h => h.elim)).trans hf4
    have hs4 := hf14.size
    have hup := HH.out.1.upMem hf14 hM4 (fun b hb => Or.inl hb)
    have hAm := HH.out.1.aftMem hf14 hM4 (fun b hb => Or.inl hb)
    have rx4 := ((HF3.out.mono (fun _ _ h => h.elim)).trans hf4).row H1.out.2 (fun e => by have := HH.out.1.lt _ (HH.out.1.od _ e); omega)
    obtain ⟨x0', x1', x2', x3', x4', xz'⟩ := row5 rx4
    have rb4 := hf14.row HH.out.2.2.2.1 HH.out.2.2.2.2.2.2.2.1
    have HM := Lib.hid (And.intro hup (And.intro hAm (And.intro hf14 (And.intro rb4 rx4))))
    clear hup hAm hf14 hf4 hM4 rb4 rx4 x0 x1 x2 x3 x4 xz yw0 yw1 yw2 k2
    repeat (first | (refine Mix.S_pure (o := _) rfl rfl ?_; intro K hK; simp only [List.getElem_toArray, List.getElem_cons_zero, List.getElem_cons_succ]; go_big_quiet_op; go_big_quiet_on) | (refine Mix.S_load (o := _) rfl rfl ?_; intro K hK; simp only [List.getElem_toArray, List.getElem_cons_zero, List.getElem_cons_succ]; go_big_quiet_op; go_big_quiet_on) | refine Mix.S_skip0 (o := _) rfl rfl ?_ | refine Mix.S_skip1 (o := _) rfl rfl ?_)
    refine Mix.S_done ?_
    rcases hcase with ⟨rfl, he⟩ | ⟨hne, he, hen⟩
    · go_wp2_with fail
      refine (pop_m HM.out.1 (by exact HH.out.2.1) HH.out.2.2.2.2.2.2.2.2.2.2).mono ?_
      rintro e1 w5 ⟨rfl, ⟨sv', hM5⟩, hf5⟩
      have rb5 := hf5.row HM.out.2.2.2.1 HH.out.2.2.2.2.2.1
      obtain ⟨x0, x1, x2, x3, x4, xz⟩ := row5 (hf5.row HM.out.2.2.2.2 (by omega))
      have hs5 := hf5.size
      have hb5 : b < w5.heap.size := by omega
      have H5 := Lib.hid (And.intro hM5 (And.intro hf5 rb5))
      clear hM5 hf5 rb5 x0' x1' x2' x3' x4' xz'
      go_wp2_with (refine wpList_loadcall 41 b rfl ?_)
      refine ⟨_, H5.out.2.2, Cl.cs_len HH.out.2.2.2.2.1 io ic, ?_⟩
      have hD := done_m H5.out.1 (by have := HH.out.2.2.2.2.2.2.2.2.1; rw [HH.out.2.2.1] at this ⊢; simp only [List.length_cons, List.tail_cons] at this ⊢; omega) c HH.out.2.2.2.2.1 HH.out.2.2.2.2.2.2.2.2.2.1 io c.fn.length ic
      have hR := HR.out
      rw [if_neg (by simp), if_neg hop] at hR
      have HD := Lib.hid hD
      have HR := Lib.hid hR
      clear hD hR
      go_wp2_with fail
      refine HD.out.mono ?_
      rintro e2 w6 ⟨v, rfl, hres, haft⟩
      have HE := Lib.hid (And.intro hres haft)
      clear hres haft
      go_wp2_with fail
      go_ret
      rw [HR.out]
      have hE2 := HE.out
      rw [HH.out.2.2.1, List.tail_cons] at hE2
      refine ⟨_, rfl, hE2.1.lo (by omega), ?_⟩
      refine Aft.step (A1 := fun x => A x ∨ L.Dm x) (fun x hx => Or.inl (hx.elim id (HH.out.1.od x))) ((HM.out.2.2.1.mono fun x _ hx => HH.out.1.od x hx).trans (H5.out.2.1.mono fun x _ hx => hx ▸ HH.out.1.om)) hE2.2
    · have hE := Lib.hid fun w1 => failed_r w1 er hne
      go_wp2_with fail
      refine (hE.out _).mono ?_
      rintro e2 w5 ⟨v, rfl, hres, hf5⟩
      have HE := Lib.hid (And.intro hres hf5)
      clear hres hf5
      go_wp2_with fail
      go_ret
      rw [HR.out, if_pos hne]
      have hA2 := HM.out.2.1
      rw [HH.out.2.2.1] at hA2
      exact ⟨_, rfl, HE.out.1.lo (by omega), Aft.box (Fr.refl _ _) hA2 (E := Non) HE.out.2 (fun _ h => h.elim) HH.out.1.lt HH.out.1.base_le⟩
end

end Go.Proofs.Ytlbomnbpahmphaa

/- Laws: a map with integer keys, read and written at one key. Condition: the block holds the map's entries. -/
namespace Go.Proofs.Ytlbomnbpahmphaa
open Go.RowKit

def mfind (l : List (Int × Value)) (k : Int) : Option Value := match l with | [] => none | x :: l => if x.1 == k then some x.2 else mfind l k
def mset (l : List (Int × Value)) (k : Int) (v : Value) : List (Int × Value) := match l with | [] => [(k, v)] | x :: l => if x.1 == k then (k, v) :: l else x :: mset l k v
def MapAt (w : World) (b : Nat) (l : List (Int × Value)) : Prop :=
  ∃ es clock, w.heap[b]? = some (.map es clock) ∧ es.toList.map (fun x => (x.key, x.val)) = l.map (fun x => (.int .i64 x.1, x.2)) ∧ (∀ x ∈ es, x.born < clock)
theorem MapAt.fr {w w' : World} {b : Nat} {l : List (Int × Value)} {E : Nat → Prop} (h : MapAt w b l) (f : Fr E w w') (hE : ¬ E b) : MapAt w' b l := by
  obtain ⟨es, clock, h1, h2, h3⟩ := h
  exact ⟨es, clock, (f.keep b (lt_of_block h1) hE).trans h1, h2, h3⟩
theorem MapAt.lt {w : World} {b : Nat} {l : List (Int × Value)} (h : MapAt w b l) : b < w.heap.size := by
  obtain ⟨es, clock, h1, _⟩ := h
  exact lt_of_block h1
theorem EvAt.map {w : World} {b : Nat} {l : List (Int × Int)} (h : EvAt w b l) : MapAt w b (l.map fun x => (x.1, .int .i64 x.2)) := by
  obtain ⟨es, clock, h1, h2, h3⟩ := h
  exact ⟨es, clock, h1, by rw [List.map_map]; exact h2, h3⟩
theorem EvAt.of {w : World} {b : Nat} {l : List (Int × Int)} (h : MapAt w b (l.map fun x => (x.1, .int .i64 x.2))) : EvAt w b l := by
  obtain ⟨es, clock, h1, h2, h3⟩ := h
  exact ⟨es, clock, h1, by rw [List.map_map] at h2; exact h2, h3⟩
theorem mfind_ev (l : List (Int × Int)) (k : Int) : mfind (l.map fun x => (x.1, .int .i64 x.2)) k = (evOf l k).map (fun n => .int .i64 n) := by
  induction l with
  | nil => rfl
  | cons x l ih =>
    simp only [List.map_cons, mfind, evOf, List.find?_cons] at *
    by_cases h : (x.1 == k) = true
    · simp [h]
    · simp [h, ih]
theorem mset_ev (l : List (Int × Int)) (k n : Int) (h : evOf l k = none) : mset (l.map fun x => (x.1, .int .i64 x.2)) k (.int .i64 n) = (l ++ [(k, n)]).map fun x => (x.1, .int .i64 x.2) := by
  induction l with
  | nil => rfl
  | cons x l ih =>
    simp only [List.map_cons, mset, evOf, List.find?_cons, List.cons_append] at *
    by_cases h2 : (x.1 == k) = true
    · simp [h2] at h
    · simp only [h2, Bool.false_eq_true, if_false] at *
      rw [ih (by simpa using h)]

theorem findNow_map (k : Int) : ∀ (es : List MapEntry) (l : List (Int × Value)) (i : Nat), es.map (fun x => (x.key, x.val)) = l.map (fun x => (.int .i64 x.1, x.2)) →
    (mfind l k = none ∧ Instr.findNow (.int .i64) (.int .i64 k) es i = some none ∧ mset l k = fun v => l ++ [(k, v)]) ∨
    ∃ j v, mfind l k = some v ∧ Instr.findNow (.int .i64) (.int .i64 k) es i = some (some (i + j, v)) ∧ (∃ e, es[j]? = some e ∧ e.key = .int .i64 k) ∧ (∀ u, mset l k u = l.set j (k, u)) := by
  intro es
  induction es with
  | nil =>
    intro l i h
    cases l with
    | nil => exact Or.inl ⟨rfl, rfl, rfl⟩
    | cons _ _ => cases h
  | cons e es ih =>
    intro l i h
    cases l with
    | nil => cases h
    | cons x l =>
      simp only [List.map_cons, List.cons.injEq, Prod.mk.injEq] at h
      obtain ⟨⟨h1, h2⟩, h3⟩ := h
      by_cases hk : x.1 = k
      · refine Or.inr ⟨0, x.2, ?_, ?_, ⟨e, rfl, by rw [h1, hk]⟩, fun u => ?_⟩
        · simp [mfind, hk]
        · simp [Instr.findNow, Instr.sameNow, h1, h2, hk]
        · simp [mset, hk]
      · have hk' : (x.1 == k) = false := beq_false_of_ne hk
        have hk2 : (k == x.1) = false := beq_false_of_ne (fun e => hk e.symm)
        rcases ih l (i + 1) h3 with ⟨a1, a2, a3⟩ | ⟨j, v, a1, a2, ⟨e', a3, a4⟩, a5⟩
        · refine Or.inl ⟨by simp [mfind, hk', a1], by simp [Instr.findNow, Instr.sameNow, h1, hk2, a2], ?_⟩
          funext v
          simp [mset, hk', a3]
        · refine Or.inr ⟨j + 1, v, by simp [mfind, hk', a1], ?_, ⟨e', by simpa using a3, a4⟩, fun u => by simp [mset, hk', a5]⟩
          simp [Instr.findNow, Instr.sameNow, h1, hk2, a2]
          omega

section
variable {P : Program} {w : World} {T K E : TypeId} {b : Nat} {l : List (Int × Value)}

theorem isKey_int (k : Int) : MapKept.IsKey (.int .i64) (.int .i64 k) := by simp [MapKept.IsKey]

theorem run_lookup_ok (h : MapAt w b l) (hT : P.underlying T = some (.map K E)) (hK : P.underlying K = some (.int .i64)) (z : Value) (hz : (zeroValue E).run P w = .ok z w) (k : Int) :
    (Instr.lookup T (.map (some b)) (.int .i64 k) true).run P w = .ok (.tuple #[(mfind l k).getD z, .bool (mfind l k).isSome]) w := by
  obtain ⟨es, clock, h1, h2, h3⟩ := h
  rcases findNow_map k es.toList l 0 h2 with ⟨a1, a2, _⟩ | ⟨j, v, a1, a2, _⟩
  · simp [Instr.lookup, run_underlying hT, MapKept.run_getObj_map h1, MapKept.run_checkKey hK (isKey_int k), MapKept.run_findKey hK a2, hz, a1, Result.andThen]
  · simp [Instr.lookup, run_underlying hT, MapKept.run_getObj_map h1, MapKept.run_checkKey hK (isKey_int k), MapKept.run_findKey hK a2, a1, Result.andThen]
theorem run_lookup_one (h : MapAt w b l) (hT : P.underlying T = some (.map K E)) (hK : P.underlying K = some (.int .i64)) (z : Value) (hz : (zeroValue E).run P w = .ok z w) (k : Int) :
    (Instr.lookup T (.map (some b)) (.int .i64 k) false).run P w = .ok ((mfind l k).getD z) w := by
  obtain ⟨es, clock, h1, h2, h3⟩ := h
  rcases findNow_map k es.toList l 0 h2 with ⟨a1, a2, _⟩ | ⟨j, v, a1, a2, _⟩
  · simp [Instr.lookup, run_underlying hT, MapKept.run_getObj_map h1, MapKept.run_checkKey hK (isKey_int k), MapKept.run_findKey hK a2, hz, a1, Result.andThen]
  · simp [Instr.lookup, run_underlying hT, MapKept.run_getObj_map h1, MapKept.run_checkKey hK (isKey_int k), MapKept.run_findKey hK a2, a1, Result.andThen]
theorem setIf_fr {o : Obj} (h : w.heap[b]? = some o) (o' : Obj) : Fr (fun x => x = b) w { w with heap := w.heap.setIfInBounds b o' } :=
  ⟨rfl, rfl, rfl, by simp, fun x _ hx => (MapKept.heap_set h).2 x hx⟩
theorem run_update_map (h : MapAt w b l) (hT : P.underlying T = some (.map K E)) (hK : P.underlying K = some (.int .i64)) (k : Int) (v : Value) :
    ∃ w', (Instr.mapUpdate T (.map (some b)) (.int .i64 k) v).run P w = .ok () w' ∧ MapAt w' b (mset l k v) ∧ Fr (fun x => x = b) w w' := by
  obtain ⟨es, clock, h1, h2, h3⟩ := h
  rcases findNow_map k es.toList l 0 h2 with ⟨a1, a2, a3⟩ | ⟨j, v', a1, a2, ⟨e, a3, a4⟩, a5⟩
  · refine ⟨{ w with heap := w.heap.setIfInBounds b (.map (es.push { key := .int .i64 k, val := v, born := clock }) (clock + 1)) }, by simp [Instr.mapUpdate, run_underlying hT, MapKept.run_getObj_map h1, MapKept.run_checkKey hK (isKey_int k), MapKept.run_findKey hK a2, MapKept.run_setObj_map _ h1, Result.andThen], ⟨_, _, (MapKept.heap_set h1).1, ?_, ?_⟩, setIf_fr h1 _⟩
    · rw [a3]
      simp [h2]
    · intro x hx
      simp only [Array.mem_push] at hx
      rcases hx with hx | rfl
      · have := h3 x hx; omega
      · exact Nat.lt_succ_self _
  · have hj : es[j]? = some e := by simpa using a3
    simp only [Nat.zero_add] at a2
    refine ⟨{ w with heap := w.heap.setIfInBounds b (.map (es.modify j fun e => { e with key := .int .i64 k, val := v }) clock) }, by simp [Instr.mapUpdate, run_underlying hT, MapKept.run_getObj_map h1, MapKept.run_checkKey hK (isKey_int k), MapKept.run_findKey hK a2, hj, a4, MapKept.run_keyThatStays (isKey_int k), MapKept.run_setObj_map _ h1, Result.andThen], ⟨_, _, (MapKept.heap_set h1).1, ?_, ?_⟩, setIf_fr h1 _⟩
    · rw [a5]
      rw [List.map_set, ← h2]
      apply List.ext_getElem?
      intro i
      simp only [List.getElem?_map, List.getElem?_set, Array.toList_modify, List.getElem?_modify, List.length_map, Array.length_toList]
      by_cases hij : j = i
      · subst hij
        have hl : j < es.size := (Array.getElem?_eq_some_iff.1 hj).1
        simp [hj, hl]
      · simp [hij]
    · intro x hx
      have hx2 : x ∈ (es.modify j fun e => { e with key := .int .i64 k, val := v }).toList := Array.mem_toList_iff.2 hx
      obtain ⟨i, hi⟩ := List.mem_iff_getElem?.1 hx2
      simp only [Array.toList_modify, List.getElem?_modify] at hi
      obtain ⟨y, hy, rfl⟩ := Option.map_eq_some_iff.1 hi
      have hmem : y ∈ es := by
        have := List.mem_of_getElem? hy
        simpa using this
      have := h3 y hmem
      split <;> exact this
end

end Go.Proofs.Ytlbomnbpahmphaa
