/- Walk: 'ExecRefuses': the whole law answers true. Conditions: the program, the bools, the acts, lie as they are read. -/
import Derived.Deep.CutRange
import Derived.Test.YtlbomnbpahmphaaGreatR45
import Derived.Test.YtlbomnbpahmphaaGreatR47
import Derived.Test.YtlbomnbpahmphaaGreatR48
import Derived.Test.YtlbomnbpahmphaaGreatR53
namespace Go.Proofs.YtlbomnbpahmphaaGreat
open Go.RowKit

def actY (k a : Int) : Ay := ⟨⟨k, a, 0, []⟩, none, 0⟩
def fourY (kind : Int) : List Ay := [actY kind 3, actY 1 (-1), actY 6 1099511627776, actY 4 1099511627776]
theorem fourY_x (kind : Int) : (fourY kind).map Ay.x = fourX kind := rfl
def fourC (kind : Int) : Array Value := #[.int .i64 kind, .int .i64 3, .int .i64 0, .slice none 0 0, .int .i64 1, .int .i64 (-1), .int .i64 0, .slice none 0 0, .int .i64 6, .int .i64 1099511627776, .int .i64 0, .slice none 0 0, .int .i64 4, .int .i64 1099511627776, .int .i64 0, .slice none 0 0]

/-- The three appends that make the script with what is refused in it. -/
theorem refs_runs {base : Nat} {w : World} (hw : base ≤ w.heap.size) (ys zs : List Ay) (ao bo : Option Addr) (ac bc k r : Nat) (hk : ys.length = k) (hr : zs.length = r) (hb : k + r ≤ 100) (kind : Int) (hy : AyLie base w ao ys) (hz : AyLie base w bo zs) :
 ∃ (x1 : Option Addr) (c1 : Nat) (wA : World) (x2 : Option Addr) (c2 : Nat) (wB : World) (x3 : Option Addr) (c3 : Nat) (wC : World),
  (Builtin.append_ #[65, 65] 65 #[.slice none 0 0, .slice ao k ac]).run Tryz.prog w = .ok (.slice x1 k c1) wA ∧
  (Builtin.append_ #[65, 65] 65 #[.slice x1 k c1, .slice (some ⟨wA.heap.size, 0, none⟩) 4 4]).run Tryz.prog (wA.alloc (.cells (fourC kind) 69)) = .ok (.slice x2 (k + 4) c2) wB ∧
  (Builtin.append_ #[65, 65] 65 #[.slice x2 (k + 4) c2, .slice bo r bc]).run Tryz.prog wB = .ok (.slice x3 (k + 4 + r) c3) wC ∧
  Rw base wC (.slice x3 (k + 4 + r) c3) (ys ++ fourY kind ++ zs) ∧ Fr (fun x => base ≤ x) w wC := by
 have lieC : ∀ {W : World} {o : Option Addr} {l : List Ay} {n : Nat}, AyLie base W o l → l.length = n → 0 < n → ∃ b o', o = some ⟨b, o', none⟩ ∧ ∀ (j : Nat) (u : Value), (ays l)[j]? = some u → W.cell? ⟨b, o' + j, none⟩ = some u := fun h e h0 => by
  obtain ⟨b, o, e, hc⟩ := h (by omega)
  exact ⟨b, o, e, fun j u hu => (hc j u hu).2⟩
 obtain ⟨x1, c1, wA, r1, o1, f1, g1⟩ := rw_app (Rw.nil base w) hw ao k ac hk (lieC hy hk) (by simp; omega)
 simp only [List.length_nil, Nat.zero_add, List.nil_append] at r1 o1 g1
 have sA := f1.size
 have F1 : Fr (fun x => base ≤ x) w wA := f1.mono fun x _ e => by cases e
 have fA : Fr Non wA (wA.alloc (.cells (fourC kind) 69)) := (Fr.refl _ _).alloc _
 obtain ⟨x2, c2, wB, r2, o2, f2, g2⟩ := rw_app (o1.fr fA fun _ _ h => h) (by simp; omega) (some ⟨wA.heap.size, 0, none⟩) 4 4 (zs := fourY kind) rfl (fun _ => ⟨_, 0, rfl, (Row.new' rfl).news⟩) (by omega)
 rw [hk] at r2 o2 g2
 have F2 : Fr (fun x => base ≤ x) w wB := (F1.then fA fun _ _ h => h.elim).then f2 fun x _ e => o1.low x e
 have l2 : (ys ++ fourY kind).length = k + 4 := by simp [hk, fourY]
 obtain ⟨x3, c3, wC, r3, o3, f3, g3⟩ := rw_app o2 (by have := F2.size; omega) bo r bc hr (fun h0 => by
  obtain ⟨b, o, e, hc⟩ := hz (by omega)
  exact ⟨b, o, e, fun j u hu => ((hc j u hu).fr F2 fun x h => h).2⟩) (by rw [l2]; omega)
 rw [l2] at r3 o3 g3
 exact ⟨x1, c1, wA, x2, c2, wB, x3, c3, wC, r1, r2, r3, o3, F2.then f3 fun x _ e => o2.low x e⟩

theorem Evs.beg2 {w : World} {a : Option Addr} {l m : List Ev} (h : Evs w a (l ++ m)) : Evs w a l := fun h0 => by
 obtain ⟨b, o, e, hc⟩ := h (by simp; omega)
 refine ⟨b, o, e, fun j u hu => hc j u ?_⟩
 rw [evs_append, List.getElem?_append_left (List.getElem?_eq_some_iff.1 hu).1]
 exact hu
theorem Evs.from2 {w : World} {a : Option Addr} {l : List Ev} {n c : Nat} (h : Evs w a l) (hc : l.length ≤ c) : Evs w (if c = n then a else a.map (·.add (n * 4))) (l.drop n) := fun h0 => by
 rw [List.length_drop] at h0
 obtain ⟨b, o, rfl, hh⟩ := h (by omega)
 rw [if_neg (by omega)]
 refine ⟨b, o + n * 4, ?_, fun j u hu => ?_⟩
 · show some (Addr.add _ _) = _
   unfold Addr.add
   by_cases hk0 : n * 4 = 0
   · rw [if_pos hk0, hk0]; rfl
   · rw [if_neg hk0]
 · have hl : (evs (l.take n)).length = n * 4 := by rw [evs_len, List.length_take]; congr 1; omega
   have := hh (n * 4 + j) u (by rw [← List.take_append_drop n l, evs_append, List.getElem?_append_right (by omega), hl, Nat.add_sub_cancel_left]; exact hu)
   rw [← Nat.add_assoc] at this
   exact this

def fourW : Array Value := #[.int .i64 1, .int .i64 3, .int .i64 0, .int .i64 0, .int .i64 1, .int .i64 (-1), .int .i64 0, .int .i64 0, .int .i64 1, .int .i64 1099511627776, .int .i64 0, .int .i64 0, .int .i64 1, .int .i64 1099511627776, .int .i64 0, .int .i64 0]
theorem four_lit (w : World) : Evs (w.alloc (.cells fourW 74)) (some ⟨w.heap.size, 0, none⟩) fourE := fun _ =>
 ⟨_, 0, rfl, (Row.new w fourW _).news⟩
theorem refs_num {N1 N2 kk rn d1 d2 : Nat} (n1 : N1 = kk + rn) (n2 : N2 = kk + 4 + rn) (hc1 : N1 ≤ d1) (hc2 : N2 ≤ d2) (hm2 : d2 ≤ maxLen) :
 (decide ((N1 : Int) < (kk : Int)) = false ∧ decide (N1 < kk) = false ∧ ((N2 : Int) != (N1 : Int) + 4) = false ∧ IntKind.i64.wrap ((N1 : Int) + 4) = (N1 : Int) + 4 ∧ IntKind.i64.wrap ((kk : Int) + 4) = (kk : Int) + 4) ∧
 ((0 : Int) ≤ (kk : Int) ∧ (kk : Int) ≤ (d1 : Int) ∧ (kk : Int) ≤ (d2 : Int) ∧ kk ≤ d1 ∧ kk ≤ d2 ∧ (kk : Int) ≤ (N1 : Int) ∧ kk ≤ N1) ∧
 ((0 : Int) ≤ (kk : Int) + 4 ∧ (kk : Int) + 4 ≤ (N2 : Int) ∧ kk + 4 ≤ N2 ∧ (kk : Int) + 4 ≤ (d2 : Int) ∧ kk + 4 ≤ d2 ∧ (kk : Int) ≤ (kk : Int) + 4 ∧ N1 - kk = rn ∧ N2 - (kk + 4) = rn ∧ kk + 4 - kk = 4 ∧ ¬ d2 = kk) := by
 have := hm2
 refine ⟨⟨decide_eq_false (by omega), decide_eq_false (by omega), ?_, IntWalk.i64_in _ (by unfold maxLen at *; omega), IntWalk.i64_in _ (by unfold maxLen at *; omega)⟩, by omega, by omega⟩
 rw [show N2 = N1 + 4 by omega]; simp

set_option maxRecDepth 100000 in
set_option maxHeartbeats 1000000 in
theorem refuses_c (w : World) (P : Pr) (v : Value) (hP : PrAt w.heap.size P w v) (opn : List Bool) (oo : Option Addr) (oc : Nat) (hopn : BoolsAt w.heap.size w oo opn) (ao : Option Addr) (ac : Nat) (l : List Ax) (hl : AxAt w.heap.size w ao l) (hac : l.length ≤ ac) (fuel words tasks at_ kind : Int) :
 Calls Tryz.prog 4 #[v, .slice oo opn.length oc, .slice ao l.length ac, .int .i64 fuel, .int .i64 words, .int .i64 tasks, .int .i64 at_, .int .i64 kind] w fun e w' => e = .returned (.bool true) ∧ Fr Non w w' := by
 obtain ⟨fo, fc, co, cc, rfl, hfu, hco⟩ := hP.val
 have HH := Lib.hid (And.intro hP (And.intro hl (And.intro hopn (And.intro hfu hco))))
 clear hP hl hfu hco hopn
 go_enter Tryz.func4, Tryz.ntmps4
 go_wp2_with fail
 refine (works21_c _).mono ?_
 rintro e1 w1 ⟨rfl, hf1⟩
 have r7 : Row w1 w.heap.size 25 [.slice fo P.funs.length fc, .slice co P.cos.length cc] := hf1.new_row id
 have hf1' : Fr Non w w1 := Fr.trans (by exact (by repeat (first | exact .refl _ _ | assumption | apply Fr.drewN | apply Fr.drew | apply Fr.drewl | apply Fr.drewNl | apply Fr.alloc))) hf1
 have HF1 := Lib.hid hf1'
 obtain ⟨q0, q1, qz⟩ := row2 r7
 have R1 := Lib.hid r7
 clear hf1 hf1' r7
 have hOv := Lib.hid (over21_c (HH.out.1.fr HF1.out (high_non _)) ao l.length ac fuel words)
 go_wp2_with fail
 refine hOv.out.mono ?_
 rintro e2 w2 ⟨⟨b, rfl, hb40⟩, hf2⟩
 have HF2 := Lib.hid (HF1.out.trans hf2)
 have R2 := Lib.hid (hf2.row R1.out id)
 obtain ⟨p0, p1, pz⟩ := row2 R2.out
 clear hf2 q0 q1 qz hOv
 cases b with
 | true =>
  clear hb40
  go_wp2_with fail
  go_ret
  exact ⟨rfl, HF2.out⟩
 | false =>
  obtain ⟨hl40, hf3000, hz⟩ := hb40 rfl
  clear hb40 hz
  by_cases g1 : at_ < 0
  · have d1 : decide (at_ < 0) = true := decide_eq_true g1
    go_wp2_with fail
    go_ret
    exact ⟨rfl, HF2.out⟩
  have d1 : decide (at_ < 0) = false := decide_eq_false g1
  by_cases g2 : (l.length : Int) < at_
  · have d2 : decide ((l.length : Int) < at_) = true := decide_eq_true g2
    go_wp2_with fail
    go_ret
    exact ⟨rfl, HF2.out⟩
  have d2 : decide ((l.length : Int) < at_) = false := decide_eq_false g2
  by_cases g3 : 0 ≤ kind ∧ kind ≤ 6
  · have d3 : decide (0 ≤ kind) = true := decide_eq_true g3.1
    have d4 : decide (kind ≤ 6) = true := decide_eq_true g3.2
    clear g3
    go_wp2_with fail
    go_ret
    exact ⟨rfl, HF2.out⟩
  have hkd : kind < 0 ∨ 6 < kind := by omega
  clear g3
  have HKD := Lib.hid hkd
  have hd3 : (decide (0 ≤ kind) = true ∧ decide (kind ≤ 6) = false) ∨ decide (0 ≤ kind) = false := by
   by_cases h : 0 ≤ kind
   · exact Or.inl ⟨decide_eq_true h, decide_eq_false (by omega)⟩
   · exact Or.inr (decide_eq_false h)
  clear hkd
  obtain ⟨k, rfl⟩ : ∃ k : Nat, at_ = (k : Int) := ⟨at_.toNat, by omega⟩
  have hk : k ≤ l.length := by omega
  have hkc : k ≤ ac := by omega
  have hs2 := HF2.out.size
  obtain ⟨Y, hYx, hYl, hYi⟩ := ay_at ((HH.out.2.1.fr HF2.out (high_non _)).up hs2)
  have hYn : Y.length = l.length := by rw [← hYx, List.length_map]
  obtain ⟨sd, hsd⟩ : ∃ sd : Option Addr, sd = if ac = k then ao else ao.map (·.add (k * 4)) := ⟨_, rfl⟩
  have hY1 : AyLie w2.heap.size w2 ao (Y.take k) := fun h0 => by
   rw [List.length_take] at h0
   obtain ⟨b, o, e, hc⟩ := hYl (by omega)
   refine ⟨b, o, e, fun j u hu => hc j u ?_⟩
   rw [← List.take_append_drop k Y, ays_append, List.getElem?_append_left (List.getElem?_eq_some_iff.1 hu).1]
   exact hu
  have hY2 : AyLie w2.heap.size w2 sd (Y.drop k) := fun h0 => by
   rw [List.length_drop] at h0
   obtain ⟨b, o, rfl, hc⟩ := hYl (by omega)
   rw [if_neg (by omega)] at hsd
   refine ⟨b, o + k * 4, ?_, fun j u hu => ?_⟩
   · rw [hsd]
     show some (Addr.add _ _) = _
     unfold Addr.add
     by_cases hk0 : k * 4 = 0
     · rw [if_pos hk0, hk0]; rfl
     · rw [if_neg hk0]
   · have hl : (ays (Y.take k)).length = k * 4 := by rw [ays_len, List.length_take]; congr 1; omega
     have := hc (k * 4 + j) u (by rw [← List.take_append_drop k Y, ays_append, List.getElem?_append_right (by omega), hl, Nat.add_sub_cancel_left]; exact hu)
     rw [← Nat.add_assoc] at this
     exact this
  obtain ⟨r0, hr0⟩ : ∃ r0, l.length - k = r0 := ⟨_, rfl⟩
  have l1 : (Y.take k).length = k := by rw [List.length_take]; omega
  have l2 : (Y.drop k).length = r0 := by rw [List.length_drop]; omega
  obtain ⟨x1, c1, wA, x2, c2, wB, x3, c3, wC, r1, r2, r3, ho3, hF⟩ := refs_runs (Nat.le_refl w2.heap.size) (Y.take k) (Y.drop k) ao sd ac (ac - k) k r0 l1 l2 (by omega) kind hY1 hY2
  have n3 : (Y.take k ++ fourY kind ++ Y.drop k).length = k + 4 + r0 := by simp only [List.length_append, l1, l2]; rfl
  have m3 : (Y.take k ++ fourY kind ++ Y.drop k).map Ay.x = l.take k ++ fourX kind ++ l.drop k := by simp only [List.map_append, List.map_take, List.map_drop, hYx, fourY_x]
  have i3 : ∀ y ∈ Y.take k ++ fourY kind ++ Y.drop k, IntsAt w2.heap.size wC y.la y.x.args := fun y hy => by
   refine IntsAt.fr hF (fun x h => h) ?_
   rcases List.mem_append.1 hy with hy | hy
   · rcases List.mem_append.1 hy with hy | hy
     · exact hYi y (List.mem_of_mem_take hy)
     · intro i n hn
       have : y.x.args = [] := by
        simp only [fourY, List.mem_cons, List.not_mem_nil, or_false] at hy
        rcases hy with rfl | rfl | rfl | rfl <;> rfl
       rw [this] at hn
       simp at hn
   · exact hYi y (List.mem_of_mem_drop hy)
  have sF := hF.size
  have A3 : AxAt wC.heap.size wC x3 (l.take k ++ fourX kind ++ l.drop k) := by
   have ho := ho3.own
   rw [← n3] at ho
   rw [← m3]
   exact ax_of ho (fun g hg => ho.lt hg) fun y hy => (i3 y hy).up sF
  have k3 : (l.take k ++ fourX kind ++ l.drop k).length = k + 4 + r0 := by rw [← m3, List.length_map, n3]
  have hwC : Fr Non w wC := HF2.out.then hF fun x hx e => by omega
  have hPF := HH.out.1.fr hwC (high_non _)
  have hoF := HH.out.2.2.1.fr hwC (high_non _)
  have hlF := HH.out.2.1.fr hwC (high_non _)
  have hRa := fun wz (f : Fr Non wC wz) => run_e wz P _ ((hPF.fr f (high_non _)).up (by have := f.size; omega)) opn oo oc ((hoF.fr f (high_non _)).up (by have := f.size; omega)) ao ac l ((hlF.fr f (high_non _)).up (by have := f.size; omega)) (by omega) fuel words tasks hf3000
  have hRb := fun wz (f : Fr Non wC wz) => run_e wz P _ ((hPF.fr f (high_non _)).up (by have := f.size; omega)) opn oo oc ((hoF.fr f (high_non _)).up (by have := f.size; omega)) x3 c3 _ ((A3.fr f (high_non _)).up f.size) (by rw [k3]; omega) fuel words tasks hf3000
  have hRc := fun wz (f : Fr Non wC wz) => run_e wz P _ ((hPF.fr f (high_non _)).up (by have := f.size; omega)) opn oo oc ((hoF.fr f (high_non _)).up (by have := f.size; omega)) ao ac (l.take k) (((hlF.take k).fr f (high_non _)).up (by have := f.size; omega)) (by rw [List.length_take]; omega) fuel words tasks hf3000
  rw [k3] at hRb
  rw [show (l.take k).length = k by rw [List.length_take]; omega] at hRc
  have hT := refuses_x (P := P) (opn := opn) (fuel := fuel) (words := words) (tasks := tasks) hf3000 HH.out.1.lab (l.take k) (l.drop k) (by rw [List.length_take]; omega) HKD.out
  rw [List.take_append_drop] at hT
  have hl1 := runX_len (P := P) (opn := opn) (words := words) (tasks := tasks) hf3000 l (by omega) HH.out.1.lab
  have hl2 := runX_len (P := P) (opn := opn) (words := words) (tasks := tasks) hf3000 (l.take k ++ fourX kind ++ l.drop k) (by rw [k3]; omega) HH.out.1.lab
  have hl0 := runX_len (P := P) (opn := opn) (words := words) (tasks := tasks) hf3000 (l.take k) (by rw [List.length_take]; omega) HH.out.1.lab
  generalize runX P opn l fuel words tasks = T1 at *
  generalize runX P opn (l.take k ++ fourX kind ++ l.drop k) fuel words tasks = T2 at *
  generalize runX P opn (l.take k) fuel words tasks = T0 at *
  have HR := Lib.hid (And.intro hRa (And.intro hRb (And.intro hRc (And.intro hT (And.intro hl1 (And.intro hl2 hl0))))))
  have HW := Lib.hid (And.intro hwC (hF.row R2.out (by have := R2.out.lt; omega)))
  obtain ⟨t0, t1, tz⟩ := row2 HW.out.2
  have tl := HW.out.2.lt
  clear ho3 hF hYi hYx hY1 hY2 hYl hYn l1 l2 n3 m3 i3 A3 k3 hPF hoF hlF hRa hRb hRc hT hl1 hl2 hl0 hwC p1 pz
  have hk0 : (0 : Int) ≤ (k : Int) := by omega
  have hki : (k : Int) ≤ (ac : Int) := by omega
  have hkl : (k : Int) ≤ (l.length : Int) := by omega
  unfold fourC at r2
  have HSD := Lib.hid hsd
  clear hsd
  have d2n : decide (l.length < k) = false := decide_eq_false (by omega)
  go_upto_region 5 with fail
  go_cut [54] from 28 to 164 (fun s54 wx => s54 = .bool false ∧ wx = w2)
  case first =>
   rcases hd3 with ⟨d3, d4⟩ | d3
   all_goals go_wp2_with fail
   all_goals go_meet
   all_goals exact ⟨rfl, rfl⟩
  case rest =>
   obtain ⟨rfl, hwc⟩ := hcut
   subst hwc
   clear hd3
   go_upto_region 10 with (at_builtin; first | refine wpList_app rfl (.tmp 56) (.tmp 59) _ rfl rfl rfl _ rfl r1 ?_ | refine wpList_app rfl (.tmp 61) (.tmp 67) _ rfl rfl rfl _ rfl r2 ?_)
   clear r1 r2
   go_cut [19] from 28 to 164 (fun s19 wx => s19 = .slice x3 (k + 4 + r0) c3 ∧ wx = wC)
   case first =>
    have hsd := HSD.out
    rw [hsd] at r3
    clear hsd
    by_cases hck : ac = k
    · subst hck
      obtain rfl : r0 = 0 := by omega
      rw [if_pos rfl, Nat.sub_self] at r3
      go_wp2_with (at_builtin; refine wpList_app rfl (.tmp 69) (.tmp 72) _ rfl rfl rfl _ rfl r3 ?_)
      go_meet
      exact ⟨rfl, rfl⟩
    · rw [if_neg hck] at r3
      go_wp2_with (at_builtin; refine wpList_app rfl (.tmp 69) (.tmp 72) _ rfl rfl rfl _ rfl r3 ?_)
      go_meet
      exact ⟨rfl, rfl⟩
   case rest =>
    obtain ⟨rfl, hwc2⟩ := hcut
    subst hwc2
    clear r3 HSD
    rename World => wC
    go_wp2_with fail
    refine (HR.out.1 _ (by exact (by repeat (first | exact .refl _ _ | assumption | apply Fr.drewN | apply Fr.drew | apply Fr.drewl | apply Fr.drewNl | apply Fr.alloc)))).mono ?_
    rintro e3 w3 ⟨ta, rfl, hoa, hga, hf3⟩
    have hf3' : Fr Non wC w3 := Fr.trans (by exact (by repeat (first | exact .refl _ _ | assumption | apply Fr.drewN | apply Fr.drew | apply Fr.drewl | apply Fr.drewNl | apply Fr.alloc))) hf3
    obtain ⟨a1, d1, rfl, hc1, hm1, hz6, hz7⟩ := hoa.form
    obtain ⟨u0, u1, uz⟩ := row2 (hf3'.row HW.out.2 id)
    have HA := Lib.hid (And.intro hoa hf3')
    clear hoa hga hf3 hf3' hz6 hz7 t0 t1 tz
    go_wp2_with fail
    refine (HR.out.2.1 _ (HA.out.2.trans (by exact (by repeat (first | exact .refl _ _ | assumption | apply Fr.drewN | apply Fr.drew | apply Fr.drewl | apply Fr.drewNl | apply Fr.alloc))))).mono ?_
    rintro e4 w4 ⟨tb, rfl, hob, hgb, hf4⟩
    have hf4' : Fr Non w3 w4 := Fr.trans (by exact (by repeat (first | exact .refl _ _ | assumption | apply Fr.drewN | apply Fr.drew | apply Fr.drewl | apply Fr.drewNl | apply Fr.alloc))) hf4
    obtain ⟨a2, d2, rfl, hc2, hm2, hz6, hz7⟩ := hob.form
    have hva := (HA.out.1.fr hf4' (fun _ _ => id)).evs.2
    have hvb := hob.evs.2
    have HB := Lib.hid (And.intro (HA.out.2.trans hf4') (And.intro hva hvb))
    have R4 := Lib.hid ((HA.out.2.trans hf4').row HW.out.2 id)
    clear hob hgb hf4 hf4' hz6 hz7 u0 u1 uz hva hvb
    obtain ⟨u0, u1, uz⟩ := row2 R4.out
    have rl := R4.out.lt
    go_wp2_with fail
    have cW := @Mix.cls_drew w4 [w.heap.size]
    refine Mix.wp_region_mix [0] [(1, 0), (0, 1), (0, 2), (0, 3), (0, 4), (0, 5), (0, 6), (0, 7), (2, 8), (0, 9)] (fun U => ∃ g, U = Mix.upon w4 [w.heap.size] g) (by kernel_rfl) (by kernel_rfl) cW ?_
    clear cW
    repeat (first | ((first | refine Mix.S_pure rfl rfl ?_ | refine Mix.S_load rfl rfl ?_); intro K hK; simp only [nA, nB, nC]; go_big_quiet_op; go_big_quiet_on) | refine Mix.S_skip0 rfl rfl ?_ | refine Mix.S_skip1 rfl rfl ?_)
    refine Mix.S_eff (o := _) rfl rfl ?_
    intro K hK
    simp only [nA, nB, nC]
    go_simp
    refine (HR.out.2.2.1 _ (HB.out.1.trans (by exact (Fr.refl _ _).drew))).mono ?_
    rintro e5 w5 ⟨tc, rfl, hoc, hgc, hf5⟩
    have hf5' : Fr Non w4 w5 := Fr.trans (by exact (Fr.refl _ _).drew) hf5
    refine hK _ _ ⟨Mix.cls_fr (D := Non) hf5 (by simp [Non]; omega), ?_⟩
    clear hK K
    obtain ⟨a3, d3, rfl, hc3, hm3, hz6, hz7⟩ := hoc.form
    have hvc := hoc.evs.2
    have H5 := Lib.hid (And.intro hf5' hvc)
    have R5 := Lib.hid (hf5'.row R4.out id)
    have hE := Lib.hid (ends21_c w5 a3 d3 T0 hvc (by have := HR.out.2.2.2.2.2.2; omega))
    clear hoc hgc hf5 hf5' hz6 hz7 u0 u1 uz hvc
    repeat (first | ((first | refine Mix.S_pure rfl rfl ?_ | refine Mix.S_load rfl rfl ?_); intro K hK; simp only [nA, nB, nC]; go_big_quiet_op; go_big_quiet_on) | refine Mix.S_skip0 rfl rfl ?_ | refine Mix.S_skip1 rfl rfl ?_)
    refine Mix.S_done ?_
    go_wp2_with fail
    refine hE.out.mono ?_
    rintro e6 w6 ⟨rfl, hf6⟩
    have H6 := Lib.hid (And.intro (HB.out.1.trans (H5.out.1.trans hf6)) (H5.out.1.trans hf6))
    have R6 := Lib.hid (hf6.row R5.out id)
    clear hf6 hE
    rcases HR.out.2.2.2.1 with ⟨he, hTT⟩ | ⟨he, hv, r, hT1, hT2⟩
    · rw [he]
      subst hTT
      have hS := Lib.hid fun wz (f : Fr Non w6 wz) => same21_c wz a1 a2 d1 d2 T2 ((HB.out.2.1.fr (H6.out.2.trans f) (fun _ _ => id))) ((HB.out.2.2.fr (H6.out.2.trans f) (fun _ _ => id))) (by have := HR.out.2.2.2.2.1; omega)
      go_wp2_with fail
      refine (hS.out _ (by exact (by repeat (first | exact .refl _ _ | assumption | apply Fr.drewN | apply Fr.drew | apply Fr.drewl | apply Fr.drewNl | apply Fr.alloc)))).mono ?_
      rintro e7 w7 ⟨rfl, hf7⟩
      have H7 := Lib.hid (H6.out.1.trans hf7)
      clear hf7 hS
      go_wp2_with fail
      go_ret
      exact ⟨rfl, HW.out.1.trans H7.out⟩
    · rw [he]
      have hwz : Fr Non w w6 := HW.out.1.trans H6.out.1
      have hV := Lib.hid (rvalid_c fo fc co cc (HH.out.2.2.2.1.fr hwz (high_non _)) (HH.out.2.2.2.2.fr hwz (high_non _)) hwz.size HH.out.1.lab)
      rw [hv] at hV
      obtain ⟨u0, u1, uz⟩ := row2 R6.out
      have rl6 := R6.out.lt
      clear hwz he hv
      go_wp2_with fail
      refine hV.out.mono ?_
      rintro e7 w7 ⟨rfl, hf7⟩
      have h47 : Fr Non w4 w7 := H6.out.2.trans hf7
      have hva := HB.out.2.1.fr h47 (fun _ _ => id)
      have hvb := HB.out.2.2.fr h47 (fun _ _ => id)
      have H7 := Lib.hid (H6.out.1.trans hf7)
      clear hf7 hV h47 u0 u1 uz
      have hb1 := HR.out.2.2.2.2.1
      have hb2 := HR.out.2.2.2.2.2.1
      have hb0 := HR.out.2.2.2.2.2.2
      rw [hT1] at hva hb1
      rw [hT2] at hvb hb2
      have hc1' := hc1
      have hc2' := hc2
      rw [hT1] at hc1'
      rw [hT2] at hc2'
      have va1 : Evs w7 a1 T0 := hva.beg2
      have vb1 : Evs w7 a2 T0 := by rw [List.append_assoc] at hvb; exact hvb.beg2
      have va2 := hva.from2 (n := T0.length) hc1'
      rw [show (T0 ++ r).drop T0.length = r by simp] at va2
      have vb2 := hvb.from2 (n := T0.length + 4) hc2'
      rw [show (T0 ++ fourE ++ r).drop (T0.length + 4) = r by rw [show T0.length + 4 = (T0 ++ fourE).length by simp [fourE]]; simp] at vb2
      have vb3 := hvb.from2 (n := T0.length) hc2'
      rw [show (T0 ++ fourE ++ r).drop T0.length = fourE ++ r by rw [List.append_assoc]; simp] at vb3
      have vb3 : Evs w7 _ fourE := vb3.beg2
      have n1 : T1.length = T0.length + r.length := by rw [hT1]; simp
      have n2 : T2.length = T0.length + 4 + r.length := by rw [hT2]; simp [fourE]; omega
      have hS1 := fun wz (f : Fr Non w7 wz) => same21_c wz a1 a2 d1 d2 T0 (va1.fr f (fun _ _ => id)) (vb1.fr f (fun _ _ => id)) (by omega)
      have hS2 := fun wz (f : Fr Non w7 wz) => same21_c wz _ _ (d1 - T0.length) (d2 - (T0.length + 4)) r (va2.fr f (fun _ _ => id)) (vb2.fr f (fun _ _ => id)) (by have := HR.out.2.2.2.2.1; omega)
      have hS3 := fun wz bo bc (f : Fr Non w7 wz) h => same21_c wz _ bo (d2 - T0.length) bc fourE (vb3.fr f (fun _ _ => id)) h (by simp [fourE])
      have HS := Lib.hid (And.intro hS1 (And.intro hS2 hS3))
      clear hva hvb va1 va2 vb1 vb2 vb3 hS1 hS2 hS3 hT1 hT2 hb0 hb1 hb2 hc1' hc2'
      generalize T1.length = N1 at *
      generalize T2.length = N2 at *
      generalize r.length = rn at *
      generalize T0.length = kk at *
      obtain ⟨⟨i1, i1', i2, hwn, hwk⟩, ⟨j0, j1, j2, j1', j2', j3, j3'⟩, j4, j5, j5', j6, j6', j7, j8, j9, j10, j11⟩ := refs_num n1 n2 hc1 hc2 hm2
      have HN := Lib.hid (And.intro n1 n2)
      clear n1 n2
      rw [← HN.out.1, show kk + (fourE.length + rn) = N2 by have := HN.out.2; rw [show fourE.length = 4 from rfl]; omega]
      go_wp2_with fail
      have cW := @Mix.cls_drew w7 []
      refine Mix.wp_region_mix [] [(0, 0), (0, 1), (0, 2), (0, 3), (0, 4), (0, 5), (2, 6), (0, 7)] (fun U => ∃ g, U = Mix.upon w7 [] g) (by kernel_rfl) (by kernel_rfl) cW ?_
      clear cW
      repeat (first | ((first | refine Mix.S_pure rfl rfl ?_ | refine Mix.S_load rfl rfl ?_); intro K hK; simp only [nA, nB, nC]; go_big_quiet_op; go_big_quiet_on) | refine Mix.S_skip0 rfl rfl ?_ | refine Mix.S_skip1 rfl rfl ?_)
      refine Mix.S_eff (o := _) rfl rfl ?_
      intro K hK
      simp only [nA, nB, nC]
      go_simp
      refine (HS.out.1 _ (by exact (Fr.refl _ _).drew)).mono ?_
      rintro e8 w8 ⟨rfl, hf8⟩
      have hf8' : Fr Non w7 w8 := Fr.trans (by exact (Fr.refl _ _).drew) hf8
      refine hK _ _ ⟨Mix.cls_fr (D := Non) hf8 (by simp), ?_⟩
      clear hK K
      have H8 := Lib.hid hf8'
      clear hf8 hf8'
      repeat (first | ((first | refine Mix.S_pure rfl rfl ?_ | refine Mix.S_load rfl rfl ?_); intro K hK; simp only [nA, nB, nC]; go_big_quiet_op; go_big_quiet_on) | refine Mix.S_skip0 rfl rfl ?_ | refine Mix.S_skip1 rfl rfl ?_)
      refine Mix.S_done ?_
      go_wp2_with fail
      have cW := @Mix.cls_drew w8 []
      refine Mix.wp_region_mix [] [(0, 0), (0, 1), (0, 2), (0, 3), (0, 4), (0, 5), (0, 6), (2, 7), (0, 8)] (fun U => ∃ g, U = Mix.upon w8 [] g) (by kernel_rfl) (by kernel_rfl) cW ?_
      clear cW
      repeat (first | ((first | refine Mix.S_pure rfl rfl ?_ | refine Mix.S_load rfl rfl ?_); intro K hK; simp only [nA, nB, nC]; go_big_quiet_op; go_big_quiet_on) | refine Mix.S_skip0 rfl rfl ?_ | refine Mix.S_skip1 rfl rfl ?_)
      refine Mix.S_eff (o := _) rfl rfl ?_
      intro K hK
      simp only [nA, nB, nC]
      go_simp
      refine (HS.out.2.1 _ (H8.out.trans (by exact (Fr.refl _ _).drew))).mono ?_
      rintro e9 w9 ⟨rfl, hf9⟩
      have hf9' : Fr Non w8 w9 := Fr.trans (by exact (Fr.refl _ _).drew) hf9
      refine hK _ _ ⟨Mix.cls_fr (D := Non) hf9 (by simp), ?_⟩
      clear hK K
      have H9 := Lib.hid (H8.out.trans hf9')
      clear hf9 hf9'
      repeat (first | ((first | refine Mix.S_pure rfl rfl ?_ | refine Mix.S_load rfl rfl ?_); intro K hK; simp only [nA, nB, nC]; go_big_quiet_op; go_big_quiet_on) | refine Mix.S_skip0 rfl rfl ?_ | refine Mix.S_skip1 rfl rfl ?_)
      refine Mix.S_done ?_
      generalize (if d1 = kk then a1 else Option.map (fun x : Addr => x.add (kk * 4)) a1) = sv1
      generalize (if d2 = kk + 4 then a2 else Option.map (fun x : Addr => x.add ((kk + 4) * 4)) a2) = sv2
      go_wp2_with fail
      rw [if_neg j11] at HS
      refine (HS.out.2.2 _ _ _ (by exact Fr.alloc H9.out _) (four_lit w9)).mono ?_
      rintro e10 w10 ⟨rfl, hf10⟩
      have H10 := Lib.hid ((Fr.alloc H9.out _).trans hf10)
      clear hf10
      go_wp2_with fail
      go_ret
      exact ⟨rfl, HW.out.1.trans (H7.out.trans H10.out)⟩
end Go.Proofs.YtlbomnbpahmphaaGreat
