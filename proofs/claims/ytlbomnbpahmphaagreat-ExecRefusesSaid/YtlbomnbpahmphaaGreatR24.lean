/- Where the driver of tasks lies, with its engine and its machine. No condition. -/
import Derived.Test.YtlbomnbpahmphaaGreatR19
import Derived.Test.YtlbomnbpahmphaaGreatR23
import Derived.Test.YtlbomnbpahmphaaGreatR17
import Derived.Test.YtlbomnbpahmphaaGreatR12
namespace Go.Proofs.YtlbomnbpahmphaaGreat
open Go.RowKit

def Tk.cs (t : Tk) : List Value := [.int .i64 t.frame, .bool t.live, .bool t.done, .int .i64 t.n, .bool t.waits, .int .i64 t.event]

/-- What stays where it is. -/
structure Ey where
 d : Nat
 m : Nat
 opx : Nat
 mbx : Nat
 fbx : Nat
 ubx : Nat
 ocx : Nat
 oo : Option Addr
 oc : Nat
/-- What changes. -/
structure Ex where
 fv : Value
 tv : Value
 qv : Value
 rv : Value

def Ey.f0 (Y : Ey) : Value := .func (.func 59) #[] #[ptr Y.opx, ptr Y.mbx, ptr Y.fbx]
def Ey.f1 (Y : Ey) : Value := .func (.func 60) #[] #[ptr Y.ocx, ptr Y.mbx, ptr Y.fbx, ptr Y.ubx]
def Ey.f2 (Y : Ey) : Value := .func (.func 61) #[] #[ptr Y.ocx, ptr Y.mbx, ptr Y.fbx, ptr Y.ubx]
def Ey.f3 (Y : Ey) : Value := .func (.func 19) #[ptr Y.m] #[]
def Ey.f4 (Y : Ey) : Value := .func (.func 22) #[ptr Y.m] #[]

def dbox (Y : Ey) (X : Ex) (over : Bool) : Bb := (Y.d, 165, [Y.f0, Y.f1, Y.f2, Y.f3, Y.f4, X.tv, X.qv, X.rv, .bool over])
def fbox (Y : Ey) (X : Ex) : Bb := (Y.fbx, 35, [X.fv])
def ebox (Y : Ey) (E : En) : List Bb := [(Y.opx, 64, [.slice Y.oo E.opn.length Y.oc]), (Y.mbx, 29, [ptr Y.m]), (Y.ubx, 3, [.int .i64 E.fuel]), (Y.ocx, 120, [.func (.func 57) #[] #[]])]
def tbs : List Nat → List Tk → List Bb
 | b :: bs, t :: ts => (b, 180, t.cs) :: tbs bs ts
 | _, _ => []
def oR (X : Ex) (l : List Ev) : Ow := ⟨X.rv, 74, 4, l.length, evs l⟩
def oQ (X : Ex) (l : List Int) : Ow := ⟨X.qv, 3, 1, l.length, qints l⟩
def oT (X : Ex) (tb : List Nat) (n : Nat) : Ow := ⟨X.tv, 181, 1, n, tb.map ptr⟩
def oF (X : Ex) (l : List Wd) : Ow := ⟨X.fv, 40, 3, l.length, flat l⟩

/-- The bools lie below the base. -/
def BoolsAt (base : Nat) (w : World) (ao : Option Addr) (l : List Bool) : Prop := ∀ (i : Nat) (b : Bool), l[i]? = some b → ∃ g o, ao = some ⟨g, o, none⟩ ∧ CB base w g (o + i) (.bool b)
theorem BoolsAt.fr {base : Nat} {w w' : World} {ao : Option Addr} {l : List Bool} {E : Nat → Prop} (h : BoolsAt base w ao l) (f : Fr E w w') (hE : High base E) : BoolsAt base w' ao l := fun i b hb => by
 obtain ⟨g, o, e, hc⟩ := h i b hb
 exact ⟨g, o, e, hc.fr f hE⟩

/-- The driver D lies at Y, X; the boxes 'ex' lie beside it. -/
structure DI (base : Nat) (E : En) (Y : Ey) (tb : List Nat) (w0 w : World) (X : Ex) (D : Dr) (ex : List Bb) : Prop where
 pk : Pk base E.P Y.m w0 w D.S (dbox Y X D.over :: fbox Y X :: (ebox Y E ++ (tbs tb D.tasks ++ ex))) [oR X D.trace, oQ X D.queue, oT X tb D.tasks.length, oF X D.frames]
 len : tb.length = D.tasks.length
 opn : BoolsAt base w0 Y.oo E.opn

section
variable {base : Nat} {E : En} {Y : Ey} {tb : List Nat} {w0 w w' : World} {X : Ex} {D : Dr} {ex : List Bb}

theorem tbs_get : ∀ {tb : List Nat} {ts : List Tk} {i : Nat} {t : Tk}, tb.length = ts.length → ts[i]? = some t → ∃ b pre post, tb[i]? = some b ∧ tbs tb ts = pre ++ (b, 180, t.cs) :: post ∧ ∀ u, tbs tb (ts.set i u) = pre ++ (b, 180, u.cs) :: post
 | b :: tb, t :: ts, 0, u, _, h => by
  simp only [List.getElem?_cons_zero, Option.some.injEq] at h
  subst h
  exact ⟨b, [], tbs tb ts, rfl, rfl, fun _ => rfl⟩
 | b :: tb, t :: ts, i + 1, u, hl, h => by
  obtain ⟨c, pre, post, h1, h2, h3⟩ := tbs_get (tb := tb) (ts := ts) (i := i) (t := u) (by simpa using hl) (by simpa using h)
  refine ⟨c, (b, 180, t.cs) :: pre, post, by simpa using h1, by rw [tbs, h2]; rfl, fun x => ?_⟩
  rw [List.set_cons_succ, tbs, h3]
  rfl
 | [], [], _, _, _, h => by simp at h
 | _ :: _, [], _, _, _, h => by simp at h
 | [], _ :: _, _, _, hl, _ => by simp at hl
theorem tbs_snoc : ∀ {tb : List Nat} {ts : List Tk} (b : Nat) (t : Tk), tb.length = ts.length → tbs (tb ++ [b]) (ts ++ [t]) = tbs tb ts ++ [(b, 180, t.cs)]
 | [], [], _, _, _ => rfl
 | c :: tb, u :: ts, b, t, h => by
  rw [List.cons_append, List.cons_append, tbs, tbs, tbs_snoc b t (by simpa using h)]
  rfl
 | _ :: _, [], _, _, h => by simp at h
 | [], _ :: _, _, _, h => by simp at h

theorem DI.frN (h : DI base E Y tb w0 w X D ex) (f : Fr Non w w') : DI base E Y tb w0 w' X D ex := ⟨h.pk.frN f, h.len, h.opn⟩
theorem DI.less (h : DI base E Y tb w0 w X D ex) {ex' : List Bb} (hp : List.Sublist ex' ex) : DI base E Y tb w0 w X D ex' :=
 ⟨h.pk.less ((((hp.append_left _).append_left _).cons_cons _).cons_cons _), h.len, h.opn⟩
theorem DI.box (h : DI base E Y tb w0 w X D ex) (c : List Value) (T : TypeId) : DI base E Y tb w0 (w.alloc (.cells c.toArray T)) X D ((w.heap.size, T, c) :: ex) := by
 refine ⟨(h.pk.box c T).perm ?_, h.len, h.opn⟩
 have : (dbox Y X D.over :: fbox Y X :: (ebox Y E ++ (tbs tb D.tasks ++ ((w.heap.size, T, c) :: ex)))) = (dbox Y X D.over :: fbox Y X :: (ebox Y E ++ tbs tb D.tasks)) ++ ((w.heap.size, T, c) :: ex) := by simp
 rw [this]
 have h2 : (w.heap.size, T, c) :: (dbox Y X D.over :: fbox Y X :: (ebox Y E ++ (tbs tb D.tasks ++ ex))) = (w.heap.size, T, c) :: ((dbox Y X D.over :: fbox Y X :: (ebox Y E ++ tbs tb D.tasks)) ++ ex) := by simp
 rw [h2]
 exact List.perm_middle.symm
theorem DI.exrow (h : DI base E Y tb w0 w X D ex) {g : Nat} {T : TypeId} {c : List Value} (hm : (g, T, c) ∈ ex) : Row w g T c :=
 h.pk.row (e := (g, T, c)) (by simp [hm])
/-- The first box beside has changed. -/
theorem DI.exset {g : Nat} {T : TypeId} {c c' : List Value} (h : DI base E Y tb w0 w X D ((g, T, c) :: ex)) (hr : Row w' g T c') (f : Fr (fun x => x = g) w w') : DI base E Y tb w0 w' X D ((g, T, c') :: ex) := by
 have e : ∀ c, List.Perm (dbox Y X D.over :: fbox Y X :: (ebox Y E ++ (tbs tb D.tasks ++ ((g, T, c) :: ex)))) ((g, T, c) :: ((dbox Y X D.over :: fbox Y X :: (ebox Y E ++ tbs tb D.tasks)) ++ ex)) := fun c => by
  have : (dbox Y X D.over :: fbox Y X :: (ebox Y E ++ (tbs tb D.tasks ++ ((g, T, c) :: ex)))) = (dbox Y X D.over :: fbox Y X :: (ebox Y E ++ tbs tb D.tasks)) ++ ((g, T, c) :: ex) := by simp
  rw [this]
  exact List.perm_middle
 exact ⟨((h.pk.perm (e c)).set hr f).perm (e c').symm, h.len, h.opn⟩
theorem DI.drow (h : DI base E Y tb w0 w X D ex) : Row w Y.d 165 [Y.f0, Y.f1, Y.f2, Y.f3, Y.f4, X.tv, X.qv, X.rv, .bool D.over] := h.pk.row (e := dbox Y X D.over) List.mem_cons_self
theorem DI.frow (h : DI base E Y tb w0 w X D ex) : Row w Y.fbx 35 [X.fv] := h.pk.row (e := fbox Y X) (List.mem_cons_of_mem _ List.mem_cons_self)
theorem DI.orow (h : DI base E Y tb w0 w X D ex) : Row w Y.opx 64 [.slice Y.oo E.opn.length Y.oc] := h.pk.row (e := (Y.opx, 64, [.slice Y.oo E.opn.length Y.oc])) (by simp [ebox])
theorem DI.mrow (h : DI base E Y tb w0 w X D ex) : Row w Y.mbx 29 [ptr Y.m] := h.pk.row (e := (Y.mbx, 29, [ptr Y.m])) (by simp [ebox])
theorem DI.urow (h : DI base E Y tb w0 w X D ex) : Row w Y.ubx 3 [.int .i64 E.fuel] := h.pk.row (e := (Y.ubx, 3, [.int .i64 E.fuel])) (by simp [ebox])
theorem DI.crow (h : DI base E Y tb w0 w X D ex) : Row w Y.ocx 120 [.func (.func 57) #[] #[]] := h.pk.row (e := (Y.ocx, 120, [.func (.func 57) #[] #[]])) (by simp [ebox])
theorem DI.oR (h : DI base E Y tb w0 w X D ex) : Own w X.rv 74 4 D.trace.length (evs D.trace) := h.pk.own (o := Go.Proofs.YtlbomnbpahmphaaGreat.oR X D.trace) List.mem_cons_self
theorem DI.oQ (h : DI base E Y tb w0 w X D ex) : Own w X.qv 3 1 D.queue.length (qints D.queue) := h.pk.own (o := Go.Proofs.YtlbomnbpahmphaaGreat.oQ X D.queue) (by simp)
theorem DI.oT (h : DI base E Y tb w0 w X D ex) : Own w X.tv 181 1 D.tasks.length (tb.map ptr) := h.pk.own (o := Go.Proofs.YtlbomnbpahmphaaGreat.oT X tb D.tasks.length) (by simp)
theorem DI.oF (h : DI base E Y tb w0 w X D ex) : Own w X.fv 40 3 D.frames.length (flat D.frames) := h.pk.own (o := Go.Proofs.YtlbomnbpahmphaaGreat.oF X D.frames) (by simp)
/-- A task: where it lies. -/
theorem DI.task (h : DI base E Y tb w0 w X D ex) {i : Nat} {t : Tk} (ht : D.tasks[i]? = some t) : ∃ b, tb[i]? = some b ∧ Row w b 180 t.cs ∧
 ∀ w' u, Row w' b 180 (Tk.cs u) → Fr (fun x => x = b) w w' → DI base E Y tb w0 w' X { D with tasks := D.tasks.set i u } ex := by
 obtain ⟨b, pre, post, h1, h2, h3⟩ := tbs_get h.len ht
 have e : ∀ c : List Value, List.Perm (dbox Y X D.over :: fbox Y X :: (ebox Y E ++ ((pre ++ (b, 180, c) :: post) ++ ex))) ((b, 180, c) :: ((dbox Y X D.over :: fbox Y X :: (ebox Y E ++ pre)) ++ (post ++ ex))) := fun c => by
  have : (dbox Y X D.over :: fbox Y X :: (ebox Y E ++ ((pre ++ (b, 180, c) :: post) ++ ex))) = (dbox Y X D.over :: fbox Y X :: (ebox Y E ++ pre)) ++ ((b, 180, c) :: (post ++ ex)) := by simp
  rw [this]
  exact List.perm_middle
 have hp := h.pk
 rw [h2] at hp
 have hp := hp.perm (e t.cs)
 refine ⟨b, h1, hp.row (e := (b, 180, t.cs)) List.mem_cons_self, fun w' u hr f => ⟨?_, by simp [h.len], h.opn⟩⟩
 have hq := (hp.set hr f).perm (e u.cs).symm
 rw [← h3 u] at hq
 simpa using hq

/-- The driver's own cells have changed. -/
theorem DI.dset (h : DI base E Y tb w0 w X D ex) {over : Bool} (hr : Row w' Y.d 165 [Y.f0, Y.f1, Y.f2, Y.f3, Y.f4, X.tv, X.qv, X.rv, .bool over]) (f : Fr (fun x => x = Y.d) w w') : DI base E Y tb w0 w' X { D with over := over } ex :=
 ⟨h.pk.set hr f, h.len, h.opn⟩
/-- The trace has another row; the queue; the tasks. -/
theorem DI.rset (h : DI base E Y tb w0 w X D ex) {v : Value} {l : List Ev} (hr : Row w' Y.d 165 [Y.f0, Y.f1, Y.f2, Y.f3, Y.f4, X.tv, X.qv, v, .bool D.over]) (ho : Own w' v 74 4 l.length (evs l)) (f : Fr (fun x => x = Y.d ∨ X.rv.ownBlock = some x) w w') (hg : ∀ x, v.ownBlock = some x → X.rv.ownBlock = some x ∨ w.heap.size ≤ x) :
 DI base E Y tb w0 w' { X with rv := v } { D with trace := l } ex :=
 ⟨h.pk.both (o' := ⟨v, 74, 4, l.length, evs l⟩) hr ho f hg, h.len, h.opn⟩
theorem DI.qset (h : DI base E Y tb w0 w X D ex) {v : Value} {l : List Int} (hr : Row w' Y.d 165 [Y.f0, Y.f1, Y.f2, Y.f3, Y.f4, X.tv, v, X.rv, .bool D.over]) (ho : Own w' v 3 1 l.length (qints l)) (f : Fr (fun x => x = Y.d ∨ X.qv.ownBlock = some x) w w') (hg : ∀ x, v.ownBlock = some x → X.qv.ownBlock = some x ∨ w.heap.size ≤ x) :
 DI base E Y tb w0 w' { X with qv := v } { D with queue := l } ex := by
 have h0 := h.pk.permO (List.Perm.swap (Go.Proofs.YtlbomnbpahmphaaGreat.oQ X D.queue) (Go.Proofs.YtlbomnbpahmphaaGreat.oR X D.trace) [Go.Proofs.YtlbomnbpahmphaaGreat.oT X tb D.tasks.length, Go.Proofs.YtlbomnbpahmphaaGreat.oF X D.frames])
 exact ⟨(h0.both (o' := ⟨v, 3, 1, l.length, qints l⟩) hr ho f hg).permO (List.Perm.swap _ _ _), h.len, h.opn⟩
/-- The machine has changed. -/
theorem DI.step (h : DI base E Y tb w0 w X D ex) {S' : St} {f : FuncId} {args : Array Value} {Q : Ending → Prop} (hc : ∀ A, MInv base E.P A w Y.m D.S → Calls Tryz.prog f args w fun e w' => Q e ∧ Aft base E.P A w w' Y.m S') :
 Calls Tryz.prog f args w fun e w' => Q e ∧ DI base E Y tb w0 w' X { D with S := S' } ex ∧ w.heap.size ≤ w'.heap.size ∧ ∃ F : Nat → Prop, Fr F w w' ∧ (∀ e ∈ dbox Y X D.over :: fbox Y X :: (ebox Y E ++ (tbs tb D.tasks ++ ex)), ¬ F e.1) ∧ ∀ o ∈ [Go.Proofs.YtlbomnbpahmphaaGreat.oR X D.trace, Go.Proofs.YtlbomnbpahmphaaGreat.oQ X D.queue, Go.Proofs.YtlbomnbpahmphaaGreat.oT X tb D.tasks.length, Go.Proofs.YtlbomnbpahmphaaGreat.oF X D.frames], ∀ x, o.v.ownBlock = some x → ¬ F x :=
 (h.pk.step hc).mono fun _ _ ⟨he, hp, hs, hF⟩ => ⟨he, ⟨hp, h.len, h.opn⟩, hs, hF⟩
end

end Go.Proofs.YtlbomnbpahmphaaGreat

/- Walks: the driver's small functions: 'tell', 'ready', 'out', 'stop', 'marks'. Condition: the driver lies there. -/
namespace Go.Proofs.YtlbomnbpahmphaaGreat
open Go.RowKit

theorem run_app0 {P : Program} (w : World) (t ty e : TypeId) (i : TypeInfo) (ht : P.underlying t = some (.slice e)) (hi : P.info? e = some i) (base tO : Option Addr) (sLen sCap c : Nat) (hle : sLen ≤ sCap) :
 (Builtin.append_ #[t, t] ty #[.slice base sLen sCap, .slice tO 0 c]).run P w = .ok (.slice base sLen sCap) w := by
 cases base <;> cases tO <;> simp [Builtin.append_, run_underlying ht, sizeOf, typeInfo, hi, hle, Builtin.lenOf, Builtin.firstCells, storeCells, loadCells, loadCellsFrom]

section
variable {base : Nat} {E : En} {Y : Ey} {tb : List Nat} {w0 w w' : World} {X : Ex} {D : Dr} {ex : List Bb}

/-- Behind a call: the driver lies somewhere as it should. -/
def DAft (base : Nat) (E : En) (Y : Ey) (tb : List Nat) (w0 w w' : World) (D : Dr) (ex : List Bb) : Prop := (∃ X, DI base E Y tb w0 w' X D ex) ∧ w.heap.size ≤ w'.heap.size

theorem tell_e (h : DI base E Y tb w0 w X D ex) (sb so m c : Nat) (l : List Ev) (hl : l.length = m) (hm : 0 < m) (hc : ∀ (j : Nat) (u : Value), (evs l)[j]? = some u → w.cell? ⟨sb, so + j, none⟩ = some u) (hb : D.trace.length + m ≤ 1000000000000) :
 Calls Tryz.prog 91 #[.pointer (some ⟨Y.d, 0, none⟩), .slice (some ⟨sb, so, none⟩) m c] w fun e w' => e = .returned (.tuple #[]) ∧ DAft base E Y tb w0 w w' (D.tell l) ex := by
 refine (tell_c w Y.d _ _ _ _ _ _ _ _ _ _ D.trace h.drow h.oR sb so m c l hl hm hc hb).mono ?_
 rintro e w' ⟨rfl, v, hr, ho, hg, hf⟩
 refine ⟨rfl, ⟨_, h.rset (v := v) (l := D.trace ++ l) hr (by rw [List.length_append, hl]; exact ho) hf hg⟩, hf.size⟩

set_option maxRecDepth 100000 in
set_option maxHeartbeats 400000 in
/-- Nothing is told. -/
theorem tell0_e (h : DI base E Y tb w0 w X D ex) (tO : Option Addr) (c : Nat) :
 Calls Tryz.prog 91 #[.pointer (some ⟨Y.d, 0, none⟩), .slice tO 0 c] w fun e w' => e = .returned (.tuple #[]) ∧ DAft base E Y tb w0 w w' D ex := by
 obtain ⟨ro, rc, hrv, hrc, _, _, hra⟩ := h.oR.form
 have hd := h.drow
 have c7 := hd.cell (o := 7) rfl
 have fz := hd.frozen
 have hlt := hd.lt
 obtain ⟨i0, hii, hz0, hz1, hz2⟩ := info_parts Tryz.infoEvent
 have hrun := run_app0 (P := Tryz.prog) w 56 56 74 i0 Tryz.underlying56 hii ro tO D.trace.length rc c hrc
 have HH := Lib.hid (And.intro h (And.intro hd hrv))
 rw [hrv] at c7
 clear h hd hrv hii hz0 hz1 hz2 hra
 go_enter Tryz.func91, Tryz.ntmps91
 go_wp2_with (at_builtin; refine wpList_app rfl (.tmp 8) (.tmp 9) _ rfl rfl rfl _ rfl hrun ?_)
 refine bodyPost_end (results_none rfl _ _ _) rfl ?_
 have hset := HH.out.2.1.set_same 7 (.slice ro D.trace.length rc)
 refine ⟨rfl, ⟨_, HH.out.1.dset (over := D.over) ?_ (Fr.set1 _ _ _ _)⟩, by simp⟩
 rw [← HH.out.2.2] at hset ⊢
 exact hset

/-- Events that lie somewhere. -/
def EvLie (w : World) (tO : Option Addr) (l : List Ev) : Prop := 0 < l.length → ∃ b o, tO = some ⟨b, o, none⟩ ∧ ∀ (j : Nat) (u : Value), (evs l)[j]? = some u → w.cell? ⟨b, o + j, none⟩ = some u
theorem tells_e (h : DI base E Y tb w0 w X D ex) (tO : Option Addr) (c : Nat) (l : List Ev) (hl : EvLie w tO l) (hb : D.trace.length + l.length ≤ 1000000000000) :
 Calls Tryz.prog 91 #[.pointer (some ⟨Y.d, 0, none⟩), .slice tO l.length c] w fun e w' => e = .returned (.tuple #[]) ∧ DAft base E Y tb w0 w w' (D.tell l) ex := by
 by_cases h0 : 0 < l.length
 · obtain ⟨b, o, rfl, hc⟩ := hl h0
   exact tell_e h b o l.length c l rfl h0 hc hb
 · obtain rfl : l = [] := List.eq_nil_of_length_eq_zero (by omega)
   have := tell0_e h tO c
   refine this.mono fun e w' ⟨he, hd⟩ => ⟨he, ?_⟩
   unfold Dr.tell
   rw [List.append_nil]
   exact hd

set_option maxRecDepth 100000 in
set_option maxHeartbeats 400000 in
theorem readyT_e (h : DI base E Y tb w0 w X D ex) (hb : D.queue.length ≤ 1000000000) (n : Int) :
 Calls Tryz.prog 115 #[.pointer (some ⟨Y.d, 0, none⟩), .int .i64 n] w fun e w' => e = .returned (.tuple #[]) ∧ (∃ X', DI base E Y tb w0 w' X' (D.ready n) ex ∧ X'.tv = X.tv) ∧ w.heap.size ≤ w'.heap.size := by
 obtain ⟨qo, qc, hqv, hqc, _, _, _⟩ := h.oQ.form
 have hoq := h.oQ
 have hd := h.drow
 have c6 := hd.cell (o := 6) rfl
 have fz := hd.frozen
 have hlt := hd.lt
 rw [hqv] at c6 hoq
 have hC := Lib.hid (contains_c w D.queue qo qc hoq.args.2 hb n)
 obtain ⟨R, hR⟩ : ∃ R, R = D.ready n := ⟨_, rfl⟩
 rw [← hR]
 unfold Dr.ready at hR
 by_cases hn : n ∈ D.queue
 · have hd' : decide (n ∈ D.queue) = true := decide_eq_true hn
   rw [if_pos hn] at hR
   have HH := Lib.hid (And.intro h hR)
   rw [hd'] at hC
   clear h hd hoq hR hn hd'
   go_enter Tryz.func115, Tryz.ntmps115
   go_wp2_with fail
   refine hC.out.mono ?_
   rintro e1 w1 ⟨rfl, hf⟩
   have HF := Lib.hid hf
   clear hf
   go_wp2_with fail
   refine bodyPost_end (results_none rfl _ _ _) rfl ?_
   rw [HH.out.2]
   exact ⟨rfl, ⟨_, HH.out.1.frN (by exact HF.out), rfl⟩, HF.out.size⟩
 · have hd' : decide (n ∈ D.queue) = false := decide_eq_false hn
   rw [if_neg hn] at hR
   have HH := Lib.hid (And.intro h (And.intro hR (And.intro hoq hqv)))
   rw [hd'] at hC
   clear h hd hoq hR hn hd' hqv
   obtain ⟨i0, hii, hz0, hz1, hz2⟩ := info_parts Tryz.infoInt
   go_enter Tryz.func115, Tryz.ntmps115
   go_wp2_with fail
   refine hC.out.mono ?_
   rintro e1 w1 ⟨rfl, hf⟩
   have hI1 := HH.out.1.frN hf
   have hd1 := hI1.drow
   have d6 := hd1.cell (o := 6) rfl
   have dz := hd1.frozen
   have dlt := hd1.lt
   rw [HH.out.2.2.2] at d6
   obtain ⟨g, cap, w2, hrun, ho2, hf2, hg2, hlt2⟩ := run_app (P := Tryz.prog) (w := w1.alloc (.cells #[.int .i64 n] 3)) ((HH.out.2.2.1.fr hf (fun _ _ => id)).fr (D := Non) (by exact (by repeat (first | exact .refl _ _ | assumption | apply Fr.drewN | apply Fr.drew | apply Fr.drewl | apply Fr.drewNl | apply Fr.alloc))) (fun _ _ => id)) 36 36 i0 _ 8 Tryz.underlying36 hii hz0 hz1 hz2 rfl (by omega) w1.heap.size 0 1 1 (qints [n]) rfl (by exact (Row.new' rfl).news)
    (fun u hu => by simp [qints] at hu; subst hu; rfl) (by omega) (by omega) (by unfold maxLen; omega)
   have hs2 := hf2.size
   simp only [World.size_alloc] at hs2
   have hne : (Value.slice qo D.queue.length qc).ownBlock ≠ some Y.d := (HH.out.2.2.1.fr hf (fun _ _ => id)).ne hd1 (by decide)
   have hd2 := hf2.row (hd1.alloc _) hne
   have k6 := hd2.cell (o := 6) rfl
   have kz := hd2.frozen
   have klt := hd2.lt
   have HX := Lib.hid (And.intro hI1 (And.intro ho2 (And.intro hf2 (And.intro hg2 (And.intro hd2 (And.intro hf hlt2))))))
   clear hI1 hd1 ho2 hf2 hg2 hd2 hne hlt2 hf
   go_wp2_with (at_builtin; refine wpList_app rfl (.tmp 15) (.tmp 17) _ rfl rfl rfl _ rfl hrun ?_)
   refine bodyPost_end (results_none rfl _ _ _) rfl ?_
   obtain ⟨hI1, ho2, hf2, hg2, hd2, hf, hlt2⟩ := HX.out
   rw [HH.out.2.1]
   have hlen : (D.queue ++ [n]).length = D.queue.length + 1 := by simp
   have hin : qints (D.queue ++ [n]) = qints D.queue ++ qints [n] := by simp [qints]
   refine ⟨rfl, ⟨_, hI1.qset (v := .slice (some ⟨g, 0, none⟩) (D.queue.length + 1) cap) (l := D.queue ++ [n]) (by exact hd2.set_same 6 _) ?_ ?_ ?_, rfl⟩, ?_⟩
   · rw [hlen, hin]
     exact ho2.fr (Fr.set1 _ _ _ _) (fun x hx e => by subst e; exact ho2.ne hd2 (by decide) hx)
   · rw [HH.out.2.2.2]
     exact ((((Fr.refl _ _).alloc _).trans (hf2.mono fun _ _ h => Or.inr h)).trans ((Fr.set1 _ _ _ _).mono fun _ _ h => Or.inl h) : Fr (fun x => x = Y.d ∨ (Value.slice qo D.queue.length qc).ownBlock = some x) w1 _)
   · intro x hx
     rw [HH.out.2.2.2]
     simp only [Value.ownBlock, Option.some.injEq] at hx
     subst hx
     rcases hg2 with k | k
     · exact Or.inl k
     · right; rw [k]; simp
   · have := hf.size
     simp
     omega

theorem ready_e (h : DI base E Y tb w0 w X D ex) (hb : D.queue.length ≤ 1000000000) (n : Int) :
 Calls Tryz.prog 115 #[.pointer (some ⟨Y.d, 0, none⟩), .int .i64 n] w fun e w' => e = .returned (.tuple #[]) ∧ DAft base E Y tb w0 w w' (D.ready n) ex :=
 (readyT_e h hb n).mono fun _ _ ⟨he, ⟨X', hD, _⟩, hs⟩ => ⟨he, ⟨X', hD⟩, hs⟩

set_option maxRecDepth 100000 in
set_option maxHeartbeats 400000 in
theorem out_e (h : DI base E Y tb w0 w X D ex) (hb : D.queue.length ≤ 1000000000) (n : Int) :
 Calls Tryz.prog 136 #[.pointer (some ⟨Y.d, 0, none⟩), .int .i64 n] w fun e w' => e = .returned (.tuple #[]) ∧ DAft base E Y tb w0 w w' (D.out n) ex := by
 have hmf : ∀ (fn : Fn) (first cap : Array Value) (W : World), (Instr.makeFunc fn first cap).run Tryz.prog W = .ok (.func fn first cap) W := fun _ _ _ _ => rfl
 obtain ⟨qo, qc, hqv, hqc, _, _, _⟩ := h.oQ.form
 have hW : Row (w.alloc (.cells #[.int .i64 n] 3)) w.heap.size 3 [.int .i64 n] := Row.new' rfl
 have hfW : Fr Non w (w.alloc (.cells #[.int .i64 n] 3)) := by exact (by repeat (first | exact .refl _ _ | assumption | apply Fr.drewN | apply Fr.drew | apply Fr.drewl | apply Fr.drewNl | apply Fr.alloc))
 have hI := h.frN hfW
 have hoq := hI.oQ
 have hd := hI.drow
 have c6 := hd.cell (o := 6) rfl
 have fz := hd.frozen
 have hlt := hd.lt
 have hlt0 := h.drow.lt
 rw [hqv] at c6 hoq
 have hqb : (Value.slice qo D.queue.length qc).ownBlock ≠ some w.heap.size := fun e => by
  have := h.oQ
  rw [hqv] at this
  have := this.lt e
  omega
 have hC := Lib.hid (deleteFunc_c _ w.heap.size n (hW.cell rfl) D.queue qo qc hoq hb hqb)
 have hne : (Value.slice qo D.queue.length qc).ownBlock ≠ some Y.d := hoq.ne hd (by decide)
 have HH := Lib.hid (And.intro hI (And.intro hqv (And.intro hd hne)))
 clear h hI hoq hqv hd hW hfW hqb hne
 go_enter Tryz.func136, Tryz.ntmps136
 go_wp2_with fail
 refine hC.out.mono ?_
 rintro e1 w1 ⟨rfl, ho, hf⟩
 have hd1 := hf.row HH.out.2.2.1 HH.out.2.2.2
 have d6 := hd1.cell (o := 6) rfl
 have dz := hd1.frozen
 have dlt := hd1.lt
 have HX := Lib.hid (And.intro ho (And.intro hf hd1))
 clear ho hf hd1
 go_wp2_with fail
 refine bodyPost_end (results_none rfl _ _ _) rfl ?_
 obtain ⟨ho, hf, hd1⟩ := HX.out
 have hs := hf.size
 simp only [World.size_alloc] at hs
 refine ⟨rfl, ⟨_, HH.out.1.qset (v := .slice qo (without n D.queue).length qc) (l := without n D.queue) (by exact hd1.set_same 6 _) ?_ ?_ ?_⟩, by simp; omega⟩
 · exact ho.fr (Fr.set1 _ _ _ _) (fun x hx e => by subst e; exact ho.ne hd1 (by decide) hx)
 · rw [HH.out.2.1]
   exact (hf.mono fun _ _ h => Or.inr h).trans ((Fr.set1 _ _ _ _).mono fun _ _ h => Or.inl h)
 · intro x hx
   rw [HH.out.2.1]
   left
   cases qo with
   | none => simp [Value.ownBlock] at hx
   | some a => simpa [Value.ownBlock] using hx

set_option maxRecDepth 100000 in
set_option maxHeartbeats 400000 in
theorem stop_e (h : DI base E Y tb w0 w X D ex) (hb : D.trace.length ≤ 1000000000) (k t a n : Int) :
 Calls Tryz.prog 135 #[.pointer (some ⟨Y.d, 0, none⟩), .agg #[.int .i64 k, .int .i64 t, .int .i64 a, .int .i64 n]] w fun e w' => e = .returned (.tuple #[]) ∧ DAft base E Y tb w0 w w' (D.stop ⟨k, t, a, n⟩) ex := by
 have hI := ((h.frN ((Fr.refl Non w).alloc (.cells #[.int .i64 k, .int .i64 t, .int .i64 a, .int .i64 n] 74))).frN ((Fr.refl Non _).alloc (.cells #[.int .i64 k, .int .i64 t, .int .i64 a, .int .i64 n] 74)))
 have hT := Lib.hid (tell_e hI (w.heap.size + 1) 0 1 1 [⟨k, t, a, n⟩] rfl (by omega) (by exact (Row.new' (by simp)).news) (by omega))
 have hlt := h.drow.lt
 clear h hI
 go_enter Tryz.func135, Tryz.ntmps135
 go_wp2_with fail
 refine hT.out.mono ?_
 rintro e1 w1 ⟨rfl, ⟨X1, h1⟩, hs⟩
 simp only [World.size_alloc] at hs
 have hd := h1.drow
 have c8 := hd.cell (o := 8) rfl
 have fz := hd.frozen
 have hlt1 := hd.lt
 have HH := Lib.hid (And.intro h1 hd)
 clear h1 hd
 go_wp2_with fail
 refine bodyPost_end (results_none rfl _ _ _) rfl ?_
 exact ⟨rfl, ⟨_, HH.out.1.dset (over := true) (by exact HH.out.2.set_same 8 _) (Fr.set1 _ _ _ _)⟩, by simp; omega⟩

set_option maxRecDepth 100000 in
set_option maxHeartbeats 400000 in
theorem marks_e (h : DI base E Y tb w0 w X D ex) (hb : D.trace.length ≤ 1000000000) (k n : Int) :
 Calls Tryz.prog 137 #[.pointer (some ⟨Y.d, 0, none⟩), .agg #[.int .i64 k, .int .i64 n]] w fun e w' => e = .returned (.bool (D.marks (k, n)).over) ∧ DAft base E Y tb w0 w w' (D.marks (k, n)) ex := by
 have hfW : Fr Non w (w.alloc (.cells #[.int .i64 k, .int .i64 n] 119)) := by exact (by repeat (first | exact .refl _ _ | assumption | apply Fr.drewN | apply Fr.drew | apply Fr.drewl | apply Fr.drewNl | apply Fr.alloc))
 have hI := h.frN hfW
 have hS := Lib.hid fun k t a n => stop_e hI hb k t a n
 have hlt := h.drow.lt
 obtain ⟨R, hR⟩ : ∃ R, R = D.marks (k, n) := ⟨_, rfl⟩
 rw [← hR]
 unfold Dr.marks at hR
 simp only at hR
 have hk : (k = 4 ∧ (k == 4) = true) ∨ (k = 5 ∧ (k == 4) = false ∧ (k == 5) = true) ∨ (k = 6 ∧ (k == 4) = false ∧ (k == 5) = false ∧ (k == 6) = true) ∨ (k ≠ 4 ∧ k ≠ 5 ∧ k ≠ 6 ∧ (k == 4) = false ∧ (k == 5) = false ∧ (k == 6) = false) := by
  by_cases e4 : k = 4
  · simp [e4]
  by_cases e5 : k = 5
  · simp [e5]
  by_cases e6 : k = 6
  · simp [e6]
  simp [e4, e5, e6]
 rcases hk with ⟨rfl, d4⟩ | ⟨rfl, d4, d5⟩ | ⟨rfl, d4, d5, d6⟩ | ⟨n4, n5, n6, d4, d5, d6⟩
 · rw [if_pos rfl] at hR
   have HR := Lib.hid hR
   clear hR h hI hfW
   go_enter Tryz.func137, Tryz.ntmps137
   go_wp2_with fail
   refine (hS.out 10 0 0 0).mono ?_
   rintro e1 w1 ⟨rfl, ⟨X1, h1⟩, hs⟩
   simp only [World.size_alloc] at hs
   have hd := h1.drow
   have c8 := hd.cell (o := 8) rfl
   have HI := Lib.hid h1
   clear h1 hd
   go_wp2_with fail
   go_ret
   rw [HR.out]
   exact ⟨rfl, ⟨_, HI.out⟩, by omega⟩
 · rw [if_neg (by decide), if_pos rfl] at hR
   have HR := Lib.hid hR
   clear hR h hI hfW
   go_enter Tryz.func137, Tryz.ntmps137
   go_wp2_with fail
   refine (hS.out 11 0 0 0).mono ?_
   rintro e1 w1 ⟨rfl, ⟨X1, h1⟩, hs⟩
   simp only [World.size_alloc] at hs
   have hd := h1.drow
   have c8 := hd.cell (o := 8) rfl
   have HI := Lib.hid h1
   clear h1 hd
   go_wp2_with fail
   go_ret
   rw [HR.out]
   exact ⟨rfl, ⟨_, HI.out⟩, by omega⟩
 · rw [if_neg (by decide), if_neg (by decide), if_pos rfl] at hR
   have HR := Lib.hid hR
   clear hR h hI hfW
   go_enter Tryz.func137, Tryz.ntmps137
   go_wp2_with fail
   refine (hS.out 13 0 0 n).mono ?_
   rintro e1 w1 ⟨rfl, ⟨X1, h1⟩, hs⟩
   simp only [World.size_alloc] at hs
   have hd := h1.drow
   have c8 := hd.cell (o := 8) rfl
   have HI := Lib.hid h1
   clear h1 hd
   go_wp2_with fail
   go_ret
   rw [HR.out]
   exact ⟨rfl, ⟨_, HI.out⟩, by omega⟩
 · rw [if_neg n4, if_neg n5, if_neg n6] at hR
   have HR := Lib.hid hR
   have hd := hI.drow
   have c8 := hd.cell (o := 8) rfl
   have HI := Lib.hid hI
   clear hR h hI hfW hd n4 n5 n6
   go_enter Tryz.func137, Tryz.ntmps137
   go_wp2_with fail
   go_ret
   rw [HR.out]
   exact ⟨rfl, ⟨_, HI.out⟩, by simp⟩
end

end Go.Proofs.YtlbomnbpahmphaaGreat

/- Walk: what the driver's machine told is taken. Condition: the driver lies there. -/
namespace Go.Proofs.YtlbomnbpahmphaaGreat
open Go.RowKit

section
variable {base : Nat} {E : En} {Y : Ey} {tb : List Nat} {w0 w w' : World} {X : Ex} {D : Dr} {ex : List Bb}
theorem told_e (h : DI base E Y tb w0 w X D ex) :
 Calls Tryz.prog 22 #[.pointer (some ⟨Y.m, 0, none⟩)] w fun e w' => ∃ tO tc, e = .returned (.slice tO D.S.told.length tc) ∧ DI base E Y tb w0 w' X { D with S := { D.S with told := [] } } ex ∧ EvLie w' tO D.S.told ∧ w.heap.size ≤ w'.heap.size := by
 refine h.pk.told.mono ?_
 rintro e w' ⟨tv, rfl, hp, hs⟩
 have ho : Own w' tv 74 4 D.S.told.length (evs D.S.told) := hp.own (o := ⟨tv, 74, 4, D.S.told.length, evs D.S.told⟩) List.mem_cons_self
 obtain ⟨tO, tc, rfl, _, _, hg, _⟩ := Own.form ho
 refine ⟨tO, tc, rfl, ⟨hp.drop, h.len, h.opn⟩, fun hl => ?_, hs⟩
 obtain ⟨g, rfl⟩ := hg hl
 exact ⟨g, 0, rfl, fun j u hu => by rw [Nat.zero_add]; exact Own.cell ho rfl hu⟩
end

end Go.Proofs.YtlbomnbpahmphaaGreat
