/- Laws: a map with integer keys, read and written at one key. Condition: the block holds the map's entries. -/
import Derived.MapKept
import Derived.Test.YtlbomnbpahmphaaGreatD13
set_option maxRecDepth 100000
set_option maxHeartbeats 4000000
namespace Go.Proofs.YtlbomnbpahmphaaGreat
open Go.RowKit
def mfind (l:List (Int × Value)) (k:Int):Option Value:=match l with|[]=>none|x :: l=>if x.1 == k then some x.2 else mfind l k
def mset (l:List (Int × Value)) (k:Int) (v:Value):List (Int × Value):=match l with|[]=>[(k,v)]|x :: l=>if x.1 == k then (k,v) :: l else x :: mset l k v
def MapAt (w:World) (b:Nat) (l:List (Int × Value)):Prop :=
 ∃ es clock,w.heap[b]?=some (.map es clock)∧es.toList.map (fun x=>(x.key,x.val))=l.map (fun x=>(.int .i64 x.1,x.2))∧(∀ x∈es,x.born<clock)
theorem MapAt.fr {w w':World} {b:Nat} {l:List (Int × Value)} {E:Nat→Prop} (h:MapAt w b l) (f:Fr E w w') (hE:¬ E b):MapAt w' b l:=by
 obtain ⟨es,clock,h1,h2,h3⟩:=h;exact ⟨es,clock,(f.keep b (lt_of_block h1) hE).trans h1,h2,h3⟩
theorem MapAt.lt {w:World} {b:Nat} {l:List (Int × Value)} (h:MapAt w b l):b<w.heap.size:=by
 obtain ⟨es,clock,h1,_⟩:=h;exact lt_of_block h1
theorem EvAt.map {w:World} {b:Nat} {l:List (Int × Int)} (h:EvAt w b l):MapAt w b (l.map fun x=>(x.1,.int .i64 x.2)):=by
 obtain ⟨es,clock,h1,h2,h3⟩:=h;exact ⟨es,clock,h1,by rw [List.map_map];exact h2,h3⟩
theorem EvAt.of {w:World} {b:Nat} {l:List (Int × Int)} (h:MapAt w b (l.map fun x=>(x.1,.int .i64 x.2))):EvAt w b l:=by
 obtain ⟨es,clock,h1,h2,h3⟩:=h;exact ⟨es,clock,h1,by rw [List.map_map] at h2;exact h2,h3⟩
theorem mfind_ev (l:List (Int × Int)) (k:Int):mfind (l.map fun x=>(x.1,.int .i64 x.2)) k=(evOf l k).map (fun n=>.int .i64 n):=by
 induction l with
 | nil=>rfl
 | cons x l ih =>
  simp only [List.map_cons,mfind,evOf,List.find?_cons] at *;by_cases h:(x.1 == k)=true
  · simp [h]
  · simp [h,ih]
theorem mset_ev (l:List (Int × Int)) (k n:Int) (h:evOf l k=none):mset (l.map fun x=>(x.1,.int .i64 x.2)) k (.int .i64 n)=(l ++ [(k,n)]).map fun x=>(x.1,.int .i64 x.2):=by
 induction l with
 | nil=>rfl
 | cons x l ih =>
  simp only [List.map_cons,mset,evOf,List.find?_cons,List.cons_append] at *;by_cases h2:(x.1 == k)=true
  · simp [h2] at h
  · simp only [h2,Bool.false_eq_true,if_false] at *;rw [ih (by simpa using h)]
theorem findNow_map (k:Int):∀ (es:List MapEntry) (l:List (Int × Value)) (i:Nat),es.map (fun x=>(x.key,x.val))=l.map (fun x=>(.int .i64 x.1,x.2)) →
 (mfind l k=none∧Instr.findNow (.int .i64) (.int .i64 k) es i=some none∧mset l k=fun v=>l ++ [(k,v)]) ∨
 ∃ j v,mfind l k=some v∧Instr.findNow (.int .i64) (.int .i64 k) es i=some (some (i+j,v))∧(∃ e,es[j]?=some e∧e.key=.int .i64 k)∧(∀ u,mset l k u=l.set j (k,u)):=by
 intro es
 induction es with
 | nil =>
  intro l i h;cases l with
  | nil=>exact Or.inl ⟨rfl,rfl,rfl⟩
  | cons _ _=>cases h
 | cons e es ih =>
  intro l i h;cases l with
  | nil=>cases h
  | cons x l =>
   simp only [List.map_cons,List.cons.injEq,Prod.mk.injEq] at h;obtain ⟨⟨h1,h2⟩,h3⟩:=h;by_cases hk:x.1=k
   · refine Or.inr ⟨0,x.2,?_,?_,⟨e,rfl,by rw [h1,hk]⟩,fun u=>?_⟩
     · simp [mfind,hk]
     · simp [Instr.findNow,Instr.sameNow,h1,h2,hk]
     · simp [mset,hk]
   · have hk':(x.1 == k)=false:=beq_false_of_ne hk;have hk2:(k == x.1)=false:=beq_false_of_ne (fun e=>hk e.symm);rcases ih l (i+1) h3 with ⟨a1,a2,a3⟩|⟨j,v,a1,a2,⟨e',a3,a4⟩,a5⟩
     · refine Or.inl ⟨by simp [mfind,hk',a1],by simp [Instr.findNow,Instr.sameNow,h1,hk2,a2],?_⟩
       funext v
       simp [mset,hk',a3]
     · refine Or.inr ⟨j+1,v,by simp [mfind,hk',a1],?_,⟨e',by simpa using a3,a4⟩,fun u=>by simp [mset,hk',a5]⟩;simp [Instr.findNow,Instr.sameNow,h1,hk2,a2];omega
section
variable {P:Program} {w:World} {T K E:TypeId} {b:Nat} {l:List (Int × Value)}
theorem isKey_int (k:Int):MapKept.IsKey (.int .i64) (.int .i64 k):=by simp [MapKept.IsKey]
theorem run_lookup_ok (h:MapAt w b l) (hT:P.underlying T=some (.map K E)) (hK:P.underlying K=some (.int .i64)) (z:Value) (hz:(zeroValue E).run P w=.ok z w) (k:Int) :
 (Instr.lookup T (.map (some b)) (.int .i64 k) true).run P w=.ok (.tuple #[(mfind l k).getD z,.bool (mfind l k).isSome]) w:=by
 obtain ⟨es,clock,h1,h2,h3⟩:=h;rcases findNow_map k es.toList l 0 h2 with ⟨a1,a2,_⟩|⟨j,v,a1,a2,_⟩
 · simp [Instr.lookup,run_underlying hT,MapKept.run_getObj_map h1,MapKept.run_checkKey hK (isKey_int k),MapKept.run_findKey hK a2,hz,a1,Result.andThen]
 · simp [Instr.lookup,run_underlying hT,MapKept.run_getObj_map h1,MapKept.run_checkKey hK (isKey_int k),MapKept.run_findKey hK a2,a1,Result.andThen]
theorem run_lookup_one (h:MapAt w b l) (hT:P.underlying T=some (.map K E)) (hK:P.underlying K=some (.int .i64)) (z:Value) (hz:(zeroValue E).run P w=.ok z w) (k:Int) :
 (Instr.lookup T (.map (some b)) (.int .i64 k) false).run P w=.ok ((mfind l k).getD z) w:=by
 obtain ⟨es,clock,h1,h2,h3⟩:=h;rcases findNow_map k es.toList l 0 h2 with ⟨a1,a2,_⟩|⟨j,v,a1,a2,_⟩
 · simp [Instr.lookup,run_underlying hT,MapKept.run_getObj_map h1,MapKept.run_checkKey hK (isKey_int k),MapKept.run_findKey hK a2,hz,a1,Result.andThen]
 · simp [Instr.lookup,run_underlying hT,MapKept.run_getObj_map h1,MapKept.run_checkKey hK (isKey_int k),MapKept.run_findKey hK a2,a1,Result.andThen]
theorem setIf_fr {o:Obj} (h:w.heap[b]?=some o) (o':Obj):Fr (fun x=>x=b) w { w with heap:=w.heap.setIfInBounds b o' } :=
 ⟨rfl,rfl,rfl,by simp,fun x _ hx=>(MapKept.heap_set h).2 x hx⟩
theorem run_update_map (h:MapAt w b l) (hT:P.underlying T=some (.map K E)) (hK:P.underlying K=some (.int .i64)) (k:Int) (v:Value) :
 ∃ w',(Instr.mapUpdate T (.map (some b)) (.int .i64 k) v).run P w=.ok () w'∧MapAt w' b (mset l k v)∧Fr (fun x=>x=b) w w':=by
 obtain ⟨es,clock,h1,h2,h3⟩:=h;rcases findNow_map k es.toList l 0 h2 with ⟨a1,a2,a3⟩|⟨j,v',a1,a2,⟨e,a3,a4⟩,a5⟩
 · refine ⟨{ w with heap:=w.heap.setIfInBounds b (.map (es.push { key:=.int .i64 k,val:=v,born:=clock }) (clock+1)) },by simp [Instr.mapUpdate,run_underlying hT,MapKept.run_getObj_map h1,MapKept.run_checkKey hK (isKey_int k),MapKept.run_findKey hK a2,MapKept.run_setObj_map _ h1,Result.andThen],⟨_,_,(MapKept.heap_set h1).1,?_,?_⟩,setIf_fr h1 _⟩
   · rw [a3];simp [h2]
   · intro x hx;simp only [Array.mem_push] at hx;rcases hx with hx|rfl
     · have:=h3 x hx;omega
     · exact Nat.lt_succ_self _
 · have hj:es[j]?=some e:=by simpa using a3
   simp only [Nat.zero_add] at a2;refine ⟨{ w with heap:=w.heap.setIfInBounds b (.map (es.modify j fun e=>{ e with key:=.int .i64 k,val:=v }) clock) },by simp [Instr.mapUpdate,run_underlying hT,MapKept.run_getObj_map h1,MapKept.run_checkKey hK (isKey_int k),MapKept.run_findKey hK a2,hj,a4,MapKept.run_keyThatStays (isKey_int k),MapKept.run_setObj_map _ h1,Result.andThen],⟨_,_,(MapKept.heap_set h1).1,?_,?_⟩,setIf_fr h1 _⟩
   · rw [a5];rw [List.map_set,← h2];apply List.ext_getElem?;intro i;simp only [List.getElem?_map,List.getElem?_set,Array.toList_modify,List.getElem?_modify,List.length_map,Array.length_toList];by_cases hij:j=i
     · subst hij;have hl:j<es.size:=(Array.getElem?_eq_some_iff.1 hj).1;simp [hl]
     · simp [hij]
   · intro x hx;have hx2:x∈(es.modify j fun e=>{ e with key:=.int .i64 k,val:=v }).toList:=Array.mem_toList_iff.2 hx;obtain ⟨i,hi⟩:=List.mem_iff_getElem?.1 hx2;simp only [Array.toList_modify,List.getElem?_modify] at hi;obtain ⟨y,hy,rfl⟩:=Option.map_eq_some_iff.1 hi
     have hmem:y∈es:=by
      have:=List.mem_of_getElem? hy
      simpa using this
     have:=h3 y hmem;split <;> exact this
end
section
variable {base:Nat} {P:Pr} {A:Nat→Prop} {w w' w2:World} {m:Nat} {S:St} {L:Lay}
def OutsC (base:Nat) (P:Pr) (A:Nat→Prop) (w:World) (m:Nat) (S:St) (b:Nat) (c:Cl) (x:In) (la:Option Addr) (lc:Nat):Prop :=
 Calls Tryz.prog 105 #[.pointer (some ⟨m,0,none⟩),.pointer (some ⟨b,0,none⟩),.agg #[.int .i64 x.op,.int .i64 x.a,.int .i64 x.b,.int .i64 x.c,.slice la x.l.length lc]] w fun e w' =>
  ∃ v,e=.returned v∧Res w' w.heap.size v (outsideS S c x).1∧Aft base P A w w' m (outsideS S c x).2
theorem outside_18 (h:ML base P A w m S L) {b:Nat} {bs:List Nat} {c:Cl} {cs:List Cl} (hb:L.bl=b :: bs) (hs:S.stack=c :: cs) (hn:S.stack.length≤1000000000) (ht:S.told.length≤1000000000) (hi:∀ c∈S.stack,c.role=1→0≤c.into∧c.into<16) {ia:Nat} (hia:ia<16) (xb xc:Int) (l:List Int) (la:Option Addr) (lc:Nat) :
 OutsC base P A w m S b c ⟨18,ia,xb,xc,l⟩ la lc:=by
 unfold OutsC;obtain ⟨R,hR⟩:∃ R,R=outsideS S c ⟨18,ia,xb,xc,l⟩:=⟨_,rfl⟩;rw [← hR];unfold outsideS at hR;simp only at hR;rw [show (if (18:Int)=21 then (xb:Int) else (ia:Int))=(ia:Int) from if_neg (by simp)] at hR;have hm:=h.mlt;obtain ⟨io,ic,hrow,hins,hreg⟩:=h.cls 0 b c (by rw [hb];rfl) (by rw [hs];rfl);have hbw:=hrow.lt;have hbl:b∈L.bl:=by rw [hb];exact List.mem_cons_self
 have y1:=hrow.cell (o:=1) rfl;have hyz:=hrow.frozen;have hbb:=h.high _ (h.ob _ hbl);obtain ⟨u0,u1,u2⟩:=Cl.get_reg hreg io ic hia;have z0:=hrow.cell u0;have z1:=hrow.cell u1;have z2:=hrow.cell u2;have hr0:(0:Int)≤(ia:Int):=by omega
 have hr1:(ia:Int)<16:=by omega
 generalize c.reg (ia:Int)=rb at *;obtain ⟨rp,ra,rn⟩:=rb;simp only at z0 z1 z2 hR;have HR:=Lib.hid hR;have HH:=Lib.hid (And.intro h (And.intro hb (And.intro hs (And.intro hn (And.intro ht (And.intro hi (And.intro hrow (And.intro hins hreg))))))));clear h hb hs hn ht hi hrow hins hreg hbl hR u0 u1 u2 y1 hyz;have hfV:Fr Non w ((w.alloc (.cells #[.int .i64 18,.int .i64 ia,.int .i64 xb,.int .i64 xc,.slice la l.length lc] 128)).alloc (.cells #[.bool rp,.int .i64 ra,.int .i64 rn] 40)):=by exact fx
 cases rp
 · have hT:=Lib.hid (tell_m (HH.out.1.frN hfV) HH.out.2.2.2.2.1 2 0 0 rn);have HV:=Lib.hid hfV;clear hfV;go_enter Tryz.func105,Tryz.ntmps105
   go_wp2_with fail
   refine hT.out.mono ?_;rintro e1 w1 ⟨rfl,⟨tv',A1,hM,hA⟩,hf⟩;have HE:=Lib.hid (And.intro hM (And.intro hA hf));clear hM hA hf;go_wp2_with fail
   go_ret
   rw [HR.out,if_neg (by simp),if_pos (by first|trivial|rfl|simp)]
   exact ⟨_,rfl,Or.inl ⟨rfl,rfl⟩,Aft.ahead HV.out ⟨A1,⟨_,HE.out.1⟩,HE.out.2.1,HE.out.2.2.mono fun x _ hx=>by
    rcases hx with hx|hx
    · exact hx ▸ HH.out.1.om
    · exact HH.out.1.ot x hx⟩⟩
 · have hE:=Lib.hid fun w1=>failed_r w1 11 (by simp);have HV:=Lib.hid hfV;clear hfV;go_enter Tryz.func105,Tryz.ntmps105
   go_wp2_with fail
   refine (hE.out _).mono ?_;rintro e1 w1 ⟨v,rfl,hres,hf⟩;have HE:=Lib.hid (And.intro hres hf);clear hres hf;go_wp2_with fail
   go_ret
   rw [HR.out,if_pos (by first|trivial|rfl|simp)];exact ⟨_,rfl,HE.out.1.lo HV.out.size,HH.out.1.aftN (HV.out.trans HE.out.2)⟩
theorem outside_19 (h:ML base P A w m S L) {b:Nat} {bs:List Nat} {c:Cl} {cs:List Cl} (hb:L.bl=b :: bs) (hs:S.stack=c :: cs) (hn:S.stack.length≤1000000000) (ht:S.told.length≤1000000000) (hi:∀ c∈S.stack,c.role=1→0≤c.into∧c.into<16) {ia:Nat} (hia:ia<16) (xb xc:Int) (l:List Int) (la:Option Addr) (lc:Nat) :
 OutsC base P A w m S b c ⟨19,ia,xb,xc,l⟩ la lc:=by
 unfold OutsC;obtain ⟨R,hR⟩:∃ R,R=outsideS S c ⟨19,ia,xb,xc,l⟩:=⟨_,rfl⟩;rw [← hR];unfold outsideS at hR;simp only at hR;rw [show (if (19:Int)=21 then (xb:Int) else (ia:Int))=(ia:Int) from if_neg (by simp)] at hR;have hm:=h.mlt;obtain ⟨io,ic,hrow,hins,hreg⟩:=h.cls 0 b c (by rw [hb];rfl) (by rw [hs];rfl);have hbw:=hrow.lt;have hbl:b∈L.bl:=by rw [hb];exact List.mem_cons_self
 have y1:=hrow.cell (o:=1) rfl;have hyz:=hrow.frozen;have hbb:=h.high _ (h.ob _ hbl);obtain ⟨u0,u1,u2⟩:=Cl.get_reg hreg io ic hia;have z0:=hrow.cell u0;have z1:=hrow.cell u1;have z2:=hrow.cell u2;have hr0:(0:Int)≤(ia:Int):=by omega
 have hr1:(ia:Int)<16:=by omega
 generalize c.reg (ia:Int)=rb at *;obtain ⟨rp,ra,rn⟩:=rb;simp only at z0 z1 z2 hR;have HR:=Lib.hid hR;have HH:=Lib.hid (And.intro h (And.intro hb (And.intro hs (And.intro hn (And.intro ht (And.intro hi (And.intro hrow (And.intro hins hreg))))))));clear h hb hs hn ht hi hrow hins hreg hbl hR u0 u1 u2 y1 hyz;have hfV:Fr Non w ((w.alloc (.cells #[.int .i64 19,.int .i64 ia,.int .i64 xb,.int .i64 xc,.slice la l.length lc] 128)).alloc (.cells #[.bool rp,.int .i64 ra,.int .i64 rn] 40)):=by exact fx
 cases rp
 · have hT:=Lib.hid (tell_m (HH.out.1.frN hfV) HH.out.2.2.2.2.1 3 0 xb rn);have HV:=Lib.hid hfV;clear hfV;go_enter Tryz.func105,Tryz.ntmps105
   go_wp2_with fail
   refine hT.out.mono ?_;rintro e1 w1 ⟨rfl,⟨tv',A1,hM,hA⟩,hf⟩;have HE:=Lib.hid (And.intro hM (And.intro hA hf));clear hM hA hf;go_wp2_with fail
   go_ret
   rw [HR.out,if_neg (by simp),if_neg (by simp),if_pos (by first|trivial|rfl|simp)]
   exact ⟨_,rfl,Or.inl ⟨rfl,rfl⟩,Aft.ahead HV.out ⟨A1,⟨_,HE.out.1⟩,HE.out.2.1,HE.out.2.2.mono fun x _ hx=>by
    rcases hx with hx|hx
    · exact hx ▸ HH.out.1.om
    · exact HH.out.1.ot x hx⟩⟩
 · have hE:=Lib.hid fun w1=>failed_r w1 11 (by simp);have HV:=Lib.hid hfV;clear hfV;go_enter Tryz.func105,Tryz.ntmps105
   go_wp2_with fail
   refine (hE.out _).mono ?_;rintro e1 w1 ⟨v,rfl,hres,hf⟩;have HE:=Lib.hid (And.intro hres hf);clear hres hf;go_wp2_with fail
   go_ret
   rw [HR.out,if_pos (by first|trivial|rfl|simp)];exact ⟨_,rfl,HE.out.1.lo HV.out.size,HH.out.1.aftN (HV.out.trans HE.out.2)⟩
theorem outside_20 (h:ML base P A w m S L) {b:Nat} {bs:List Nat} {c:Cl} {cs:List Cl} (hb:L.bl=b :: bs) (hs:S.stack=c :: cs) (hn:S.stack.length≤1000000000) (ht:S.told.length≤1000000000) (hi:∀ c∈S.stack,c.role=1→0≤c.into∧c.into<16) {ia:Nat} (hia:ia<16) (xb xc:Int) (l:List Int) (la:Option Addr) (lc:Nat) :
 OutsC base P A w m S b c ⟨20,ia,xb,xc,l⟩ la lc:=by
 unfold OutsC;obtain ⟨R,hR⟩:∃ R,R=outsideS S c ⟨20,ia,xb,xc,l⟩:=⟨_,rfl⟩;rw [← hR];unfold outsideS at hR;simp only at hR;rw [show (if (20:Int)=21 then (xb:Int) else (ia:Int))=(ia:Int) from if_neg (by simp)] at hR;have hm:=h.mlt;obtain ⟨io,ic,hrow,hins,hreg⟩:=h.cls 0 b c (by rw [hb];rfl) (by rw [hs];rfl);have hbw:=hrow.lt;have hbl:b∈L.bl:=by rw [hb];exact List.mem_cons_self
 have y1:=hrow.cell (o:=1) rfl;have hyz:=hrow.frozen;have hbb:=h.high _ (h.ob _ hbl);obtain ⟨u0,u1,u2⟩:=Cl.get_reg hreg io ic hia;have z0:=hrow.cell u0;have z1:=hrow.cell u1;have z2:=hrow.cell u2;have hr0:(0:Int)≤(ia:Int):=by omega
 have hr1:(ia:Int)<16:=by omega
 generalize c.reg (ia:Int)=rb at *;obtain ⟨rp,ra,rn⟩:=rb;simp only at z0 z1 z2 hR;have HR:=Lib.hid hR;have HH:=Lib.hid (And.intro h (And.intro hb (And.intro hs (And.intro hn (And.intro ht (And.intro hi (And.intro hrow (And.intro hins hreg))))))));clear h hb hs hn ht hi hrow hins hreg hbl hR u0 u1 u2 y1 hyz;have hfV:Fr Non w ((w.alloc (.cells #[.int .i64 20,.int .i64 ia,.int .i64 xb,.int .i64 xc,.slice la l.length lc] 128)).alloc (.cells #[.bool rp,.int .i64 ra,.int .i64 rn] 40)):=by exact fx
 cases rp
 · have hT:=Lib.hid (suspended_m (HH.out.1.frN hfV) HH.out.2.2.2.1 HH.out.2.2.2.2.1 HH.out.2.2.2.2.2.1 0 rn);have HV:=Lib.hid hfV;clear hfV;go_enter Tryz.func105,Tryz.ntmps105
   go_wp2_with fail
   refine hT.out.mono ?_;rintro e1 w1 ⟨v,rfl,hres,haft⟩;have HE:=Lib.hid (And.intro hres haft);clear hres haft;go_wp2_with fail
   go_ret
   rw [HR.out,if_neg (by simp),if_neg (by simp),if_neg (by simp),if_pos (by first|trivial|rfl|simp)];exact ⟨_,rfl,HE.out.1.lo HV.out.size,Aft.ahead HV.out HE.out.2⟩
 · have hE:=Lib.hid fun w1=>failed_r w1 11 (by simp);have HV:=Lib.hid hfV;clear hfV;go_enter Tryz.func105,Tryz.ntmps105
   go_wp2_with fail
   refine (hE.out _).mono ?_;rintro e1 w1 ⟨v,rfl,hres,hf⟩;have HE:=Lib.hid (And.intro hres hf);clear hres hf;go_wp2_with fail
   go_ret
   rw [HR.out,if_pos (by first|trivial|rfl|simp)];exact ⟨_,rfl,HE.out.1.lo HV.out.size,HH.out.1.aftN (HV.out.trans HE.out.2)⟩
theorem outside_21 (h:ML base P A w m S L) {b:Nat} {bs:List Nat} {c:Cl} {cs:List Cl} (hb:L.bl=b :: bs) (hs:S.stack=c :: cs) (hn:S.stack.length≤1000000000) (ht:S.told.length≤1000000000) (hi:∀ c∈S.stack,c.role=1→0≤c.into∧c.into<16) {ia ib:Nat} (hia:ia<16) (hib:ib<16) (xc:Int) (l:List Int) (la:Option Addr) (lc:Nat) :
 OutsC base P A w m S b c ⟨21,ia,ib,xc,l⟩ la lc:=by
 unfold OutsC;obtain ⟨R,hR⟩:∃ R,R=outsideS S c ⟨21,ia,ib,xc,l⟩:=⟨_,rfl⟩;rw [← hR];unfold outsideS at hR;simp only at hR;simp only [if_true] at hR;have hm:=h.mlt;obtain ⟨io,ic,hrow,hins,hreg⟩:=h.cls 0 b c (by rw [hb];rfl) (by rw [hs];rfl);have hbw:=hrow.lt;have hbl:b∈L.bl:=by rw [hb];exact List.mem_cons_self
 have y1:=hrow.cell (o:=1) rfl;have hyz:=hrow.frozen;have hbb:=h.high _ (h.ob _ hbl);obtain ⟨u0,u1,u2⟩:=Cl.get_reg hreg io ic hib;have z0:=hrow.cell u0;have z1:=hrow.cell u1;have z2:=hrow.cell u2;have hr0:(0:Int)≤(ib:Int):=by omega
 have hr1:(ib:Int)<16:=by omega
 generalize c.reg (ib:Int)=rb at *;obtain ⟨rp,ra,rn⟩:=rb;simp only at z0 z1 z2 hR;have c3:w.cell? ⟨m,3,none⟩=some (.map (some L.eb)):=h.row.cell rfl;have HR:=Lib.hid hR;have HH:=Lib.hid (And.intro h (And.intro hb (And.intro hs (And.intro hn (And.intro ht (And.intro hi (And.intro hrow (And.intro hins hreg))))))));clear h hb hs hn ht hi hrow hins hreg hbl hR u0 u1 u2 y1 hyz;have hfV:Fr Non w ((w.alloc (.cells #[.int .i64 21,.int .i64 ia,.int .i64 ib,.int .i64 xc,.slice la l.length lc] 128)).alloc (.cells #[.bool rp,.int .i64 ra,.int .i64 rn] 40)):=by exact fx
 cases rp
 · have hEv:=(HH.out.1.frN hfV).ev.map;have k3:=hfV.cell c3 id;have hsV:((w.alloc (.cells #[.int .i64 21,.int .i64 ia,.int .i64 ib,.int .i64 xc,.slice la l.length lc] 128)).alloc (.cells #[.bool false,.int .i64 ra,.int .i64 rn] 40)).heap.size=w.heap.size+1+1:=by simp
   have hrx:Row ((w.alloc (.cells #[.int .i64 21,.int .i64 ia,.int .i64 ib,.int .i64 xc,.slice la l.length lc] 128)).alloc (.cells #[.bool false,.int .i64 ra,.int .i64 rn] 40)) w.heap.size 128 [.int .i64 21,.int .i64 ia,.int .i64 ib,.int .i64 xc,.slice la l.length lc]:=Row.alloc (Row.new' rfl) _;have hrw:Row ((w.alloc (.cells #[.int .i64 21,.int .i64 ia,.int .i64 ib,.int .i64 xc,.slice la l.length lc] 128)).alloc (.cells #[.bool false,.int .i64 ra,.int .i64 rn] 40)) (w.heap.size+1) 40 [.bool false,.int .i64 ra,.int .i64 rn]:=Row.new' (by simp);go_enter Tryz.func105,Tryz.ntmps105
   go_wp2_with fail
   generalize (w.alloc (.cells #[.int .i64 21,.int .i64 ia,.int .i64 ib,.int .i64 xc,.slice la l.length lc] 128)).alloc (.cells #[.bool false,.int .i64 ra,.int .i64 rn] 40)=V at *;have hrun:=fun n=>run_lookup_ok (P:=Tryz.prog) (hEv.fr ((Fr.refl Non V).drewN n) id) Tryz.underlying81 Tryz.underlying3 (.int .i64 0) (by kernel_rfl) rn;simp only [mfind_ev] at hrun;obtain ⟨x0,x1,x2,x3,x4,xz⟩:=row5 hrx;obtain ⟨q0,q1,q2,qz⟩:=row3 hrw;have HV:=Lib.hid (And.intro hfV (And.intro hrx hrw));clear hfV hrx hrw hEv c3 z0 z1 z2;cases hev:evOf S.ev rn with
   | none =>
    simp only [hev,Option.map_none,Option.getD_none,Option.isSome_none] at hrun;go_quiet (fail)
    have fU:Fr Non w (V.drewN nq):=HV.out.1.drewN nq;have rxU:Row (V.drewN nq) w.heap.size 128 [.int .i64 21,.int .i64 ia,.int .i64 ib,.int .i64 xc,.slice la l.length lc]:=HV.out.2.1;have rwU:Row (V.drewN nq) (w.heap.size+1) 40 [.bool false,.int .i64 ra,.int .i64 rn]:=HV.out.2.2;have hsU:(V.drewN nq).heap.size=w.heap.size+1+1:=hsV;clear hrun x0 x1 x2 x3 x4 xz q0 q1 q2 qz k3;generalize V.drewN nq=U at *;clear hsV HV;obtain ⟨q0,q1,q2,qz⟩:=row3 rwU;have hT:=Lib.hid (suspended_m (HH.out.1.frN fU) HH.out.2.2.2.1 HH.out.2.2.2.2.1 HH.out.2.2.2.2.2.1 1 rn);have HU:=Lib.hid fU;clear fU rxU rwU;go_wp2_with fail
    refine hT.out.mono ?_;rintro e1 w1 ⟨v,rfl,hres,haft⟩;have HE:=Lib.hid (And.intro hres haft);clear hres haft;go_wp2_with fail
    go_ret
    rw [HR.out,if_neg (by simp),if_neg (by simp),if_neg (by simp),if_neg (by simp),hev];exact ⟨_,rfl,HE.out.1.lo HU.out.size,Aft.ahead HU.out HE.out.2⟩
   | some n =>
    simp only [hev,Option.map_some,Option.getD_some,Option.isSome_some] at hrun;go_quiet (fail)
    have fU:Fr Non w (V.drewN nq):=HV.out.1.drewN nq;have rxU:Row (V.drewN nq) w.heap.size 128 [.int .i64 21,.int .i64 ia,.int .i64 ib,.int .i64 xc,.slice la l.length lc]:=HV.out.2.1;have rwU:Row (V.drewN nq) (w.heap.size+1) 40 [.bool false,.int .i64 ra,.int .i64 rn]:=HV.out.2.2;have hsU:(V.drewN nq).heap.size=w.heap.size+1+1:=hsV;clear hrun x0 x1 x2 x3 x4 xz q0 q1 q2 qz k3;generalize V.drewN nq=U at *;clear hsV HV;obtain ⟨x0,x1,x2,x3,x4,xz⟩:=row5 rxU;have HU:=Lib.hid fU;clear fU rxU rwU;have hia0:(0:Int)≤(ia:Int):=by omega
    have hia1:(ia:Int)<16:=by omega
    have hxU:w.heap.size<U.heap.size:=by omega
    have hbU:b<U.heap.size:=by omega
    go_wp2_with fail
    have cW:=@Mix.cls_drew U [w.heap.size];refine Mix.wp_region_mix [2] [(0,0),(0,1),(1,2),(0,3),(0,5),(0,6),(2,4),(0,7),(2,8)] (fun V=>∃ g,V=Mix.upon U [w.heap.size] g) (by kernel_rfl) (by kernel_rfl) cW ?_;clear cW;repeat (first|((first|refine Mix.qa ?_|refine Mix.qb ?_);intro K hK;simp only [nA,nB,nC];go_big_quiet_op;go_big_quiet_on)|refine Mix.qc ?_|refine Mix.qd ?_)
    refine Mix.S_eff rfl rfl ?_;intro K hK;simp only [nA,nB,nC];go_simp;refine (number_c _ _).mono ?_;rintro e1 V7 ⟨rfl,hf⟩;refine hK _ _ ⟨Mix.cls_fr (D:=Non) hf (by simp [Non];omega),?_⟩;clear hK K;have f7:=HU.out.trans (Fr.trans (by exact (Fr.refl _ _).drew) hf);have HY:=Lib.hid f7;have s7:=hf.size;simp only [World.size_drew] at s7;clear hf;obtain ⟨io',ic',hrow',hins',hreg'⟩:=((HH.out.1.frN HY.out).cls 0 b c (by rw [HH.out.2.1];rfl) (by rw [HH.out.2.2.1];rfl));obtain ⟨u0,u1,u2⟩:=Cl.get_reg hreg' io' ic' hia;have v0:=hrow'.cell u0;have v1:=hrow'.cell u1;have v2:=hrow'.cell u2;have vz:=hrow'.frozen;have HT:=Lib.hid (And.intro hrow' (And.intro hins' hreg'));clear hrow' hins' hreg' u0 u1 u2 f7;repeat (first|((first|refine Mix.qa ?_|refine Mix.qb ?_);intro K hK;simp only [nA,nB,nC];go_big_quiet_op;go_big_quiet_on)|refine Mix.qc ?_|refine Mix.qd ?_)
    refine Mix.S_eff rfl rfl ?_;intro K hK;simp only [nA,nB,nC];go_simp;refine hK _ _ ⟨Mix.cls_fr (D:=fun x=>x=b) (by exact Fr.set3 _ _ _ _ _ _ _ _) (by simp;omega),?_⟩;clear hK K v0 v1 v2 vz;repeat (first|((first|refine Mix.qa ?_|refine Mix.qb ?_);intro K hK;simp only [nA,nB,nC];go_big_quiet_op;go_big_quiet_on)|refine Mix.qc ?_|refine Mix.qd ?_)
    refine Mix.S_done ?_;go_wp2_with fail
    go_ret
    rw [HR.out,if_neg (by simp),if_neg (by simp),if_neg (by simp),if_neg (by simp),hev];obtain ⟨hrow',hins',hreg'⟩:=HT.out;exact ⟨_,rfl,Or.inl ⟨rfl,rfl⟩,Aft.ahead HY.out ((HH.out.1.frN HY.out).aftTop HH.out.2.1 (ClAt.put hrow' hins' hreg' hia hbb (num n)) (Fr.set3 _ _ _ _ _ _ _ _))⟩
 · have hE:=Lib.hid fun w1=>failed_r w1 11 (by simp);have HV:=Lib.hid hfV;clear hfV;go_enter Tryz.func105,Tryz.ntmps105
   go_wp2_with fail
   refine (hE.out _).mono ?_;rintro e1 w1 ⟨v,rfl,hres,hf⟩;have HE:=Lib.hid (And.intro hres hf);clear hres hf;go_wp2_with fail
   go_ret
   rw [HR.out,if_pos (by first|trivial|rfl|simp)];exact ⟨_,rfl,HE.out.1.lo HV.out.size,HH.out.1.aftN (HV.out.trans HE.out.2)⟩
end
theorem wpList_storecall {ops:Array Oper} {rest:List Oper} {a:Act} {w:World} {Q:Exit→Act→World→Prop} {dst:Option Tmp} {type:TypeId} {pos:String} {after:Array Edge} (t v g:Nat) (cells:List Value)
 (hx:a.eval (.tmp t)=.pointer (some ⟨g,0,none⟩)) (hy:a.eval (.tmp v)=.agg cells.toArray) (h3:cells.length=56) (h4:cells.toArray.all (·.oneCell')=true) (h:∃ old,Row w g 103 old∧old.length=56∧∀ w',Row w' g 103 cells→Fr (fun x=>x=g) w w'→wpList Tryz.prog ops Q rest (a.put dst undef) w') :
 wpList Tryz.prog ops Q ({ dst:=dst,op:=.store 103 (.tmp t) (.tmp v),type:=type,pos:=pos,after:=after,guard:=none } :: rest) a w:=by
 obtain ⟨old,h1,h2,h5⟩:=h;refine wpList_store_row rfl 103 (.tmp t) (.tmp v) rfl g cells.toArray hx hy 103 old.toArray h1 ?_ (by simp [h2,h3]) h4 (h5 _ (row_setRow h1 cells).1 (row_setRow h1 cells).2);simp only [List.size_toArray,h3]
 kernel_rfl
theorem litOne:(([.slice none 0 0,.int .i64 0,.bool false,.int .i64 0,.int .i64 0,.bool false,.int .i64 0,.int .i64 0,.bool false,.int .i64 0,.int .i64 0,.bool false,.int .i64 0,.int .i64 0,.bool false,.int .i64 0,.int .i64 0,.bool false,.int .i64 0,.int .i64 0,.bool false,.int .i64 0,.int .i64 0,.bool false,.int .i64 0,.int .i64 0,.bool false,.int .i64 0,.int .i64 0,.bool false,.int .i64 0,.int .i64 0,.bool false,.int .i64 0,.int .i64 0,.bool false,.int .i64 0,.int .i64 0,.bool false,.int .i64 0,.int .i64 0,.bool false,.int .i64 0,.int .i64 0,.bool false,.int .i64 0,.int .i64 0,.bool false,.int .i64 0,.int .i64 0,.bool false,.int .i64 0,.int .i64 0,.int .i64 3,.int .i64 0,.int .i64 0]:List Value)).toArray.all (·.oneCell')=true:=by kernel_rfl
section
variable {base:Nat} {P:Pr} {A:Nat→Prop} {w w' w2:World} {m:Nat} {S:St} {L:Lay}
def CallsC (base:Nat) (P:Pr) (A:Nat→Prop) (w:World) (m:Nat) (S:St) (b:Nat) (c:Cl) (x:In) (la:Option Addr) (lc:Nat):Prop :=
 Calls Tryz.prog 106 #[.pointer (some ⟨m,0,none⟩),.pointer (some ⟨b,0,none⟩),.agg #[.int .i64 x.op,.int .i64 x.a,.int .i64 x.b,.int .i64 x.c,.slice la x.l.length lc]] w fun e w' =>
  ∃ v,e=.returned v∧Res w' w.heap.size v (callsS P S c x).1∧Aft base P A w w' m (callsS P S c x).2
theorem calls_23 (h:ML base P A w m S L) {b:Nat} {bs:List Nat} {c:Cl} {cs:List Cl} (hb:L.bl=b :: bs) (hs:S.stack=c :: cs) (hn:S.stack.length≤1000000000) (hP:PrOk P) {ia:Nat} (hia:ia<16) (xb xc:Int) (l:List Int) (la:Option Addr) (lc:Nat) (hl0:0<l.length) (hl:IntsAt base w la l) :
 CallsC base P A w m S b c ⟨23,ia,xb,xc,l⟩ la lc:=by
 unfold CallsC;obtain ⟨R,hR⟩:∃ R,R=callsS P S c ⟨23,ia,xb,xc,l⟩:=⟨_,rfl⟩;rw [← hR];unfold callsS at hR;simp only at hR;have hm:=h.mlt;obtain ⟨io,ic,hrow,hins,hreg⟩:=h.cls 0 b c (by rw [hb];rfl) (by rw [hs];rfl);have hbw:=hrow.lt;have hbl:b∈L.bl:=by rw [hb];exact List.mem_cons_self
 have y1:=hrow.cell (o:=1) rfl;have hyz:=hrow.frozen;have hbb:=h.high _ (h.ob _ hbl);obtain ⟨u0,u1,u2⟩:=Cl.get_reg hreg io ic hia;have z0:=hrow.cell u0;have z1:=hrow.cell u1;have z2:=hrow.cell u2;have hr0:(0:Int)≤(ia:Int):=by omega
 have hr1:(ia:Int)<16:=by omega
 generalize c.reg (ia:Int)=rb at *;obtain ⟨rp,ra,rn⟩:=rb;simp only at z0 z1 z2 hR;clear u0 u1 u2;obtain ⟨lb,lo,e0,kl⟩:=hl 0 l[0] (List.getElem?_eq_getElem hl0);subst e0;have kl0:=kl.2;have hlw:=World.block_lt_of_cell? w _ kl0;have hlab:(⟨23,ia,xb,xc,l⟩:In).lab 0=l[0]:=by unfold In.lab;rw [List.getD_eq_getElem?_getD];simp [hl0]
 rw [hlab] at hR;have hll:(0:Int)<(l.length:Int):=by omega
 simp only [Nat.add_zero] at kl0;clear kl hl hlab;generalize l[0]=l0 at *;have HR:=Lib.hid hR;have HH:=Lib.hid (And.intro h (And.intro hb (And.intro hs (And.intro hn (And.intro hP (And.intro hrow (And.intro hins hreg)))))));clear h hb hs hn hP hrow hins hreg hbl hR;go_enter Tryz.func106,Tryz.ntmps106
 go_wp2_with fail
 have hrx:Row (w.alloc (.cells #[.int .i64 23,.int .i64 ia,.int .i64 xb,.int .i64 xc,.slice (some ⟨lb,lo,none⟩) l.length lc] 128)) w.heap.size 128 [.int .i64 23,.int .i64 ia,.int .i64 xb,.int .i64 xc,.slice (some ⟨lb,lo,none⟩) l.length lc]:=Row.new' rfl;have hf0:Fr Non w (w.alloc (.cells #[.int .i64 23,.int .i64 ia,.int .i64 xb,.int .i64 xc,.slice (some ⟨lb,lo,none⟩) l.length lc] 128)):=by exact fx
 have hs0:(w.alloc (.cells #[.int .i64 23,.int .i64 ia,.int .i64 xb,.int .i64 xc,.slice (some ⟨lb,lo,none⟩) l.length lc] 128)).heap.size=w.heap.size+1:=by simp
 generalize w.alloc (.cells #[.int .i64 23,.int .i64 ia,.int .i64 xb,.int .i64 xc,.slice (some ⟨lb,lo,none⟩) l.length lc] 128)=W at *;obtain ⟨x0,x1,x2,x3,x4,xz⟩:=row5 hrx;have zw0:=hf0.cell z0 id;have zw1:=hf0.cell z1 id;have zw2:=hf0.cell z2 id;have kw0:=hf0.cell kl0 id;have hlW:lb<W.heap.size:=by omega
 have HW:=Lib.hid (And.intro hf0 hrx);clear hrx hf0 z0 z1 z2 kl0;have hxw:w.heap.size<W.heap.size:=by omega
 have hbW:b<W.heap.size:=by omega
 go_still_tail 13,(by kernel_rfl)
 change wpList _ _ _ _ _ W.drew;have hfU:Fr Non W W.drew:=(Fr.refl _ _).drew;obtain ⟨x0',x1',x2',x3',x4',xz'⟩:=row5 (hfU.row HW.out.2 id);have zu0:=hfU.cell zw0 id;have zu1:=hfU.cell zw1 id;have zu2:=hfU.cell zw2 id;have ku0:=hfU.cell kw0 id;have HU:=Lib.hid (HW.out.1.trans hfU);clear hfU x0 x1 x2 x3 x4 xz zw0 zw1 zw2 kw0;generalize W.drew=U at *;have hG:=Lib.hid (goOn_m (HH.out.1.frN HU.out) HH.out.2.2.2.1 HH.out.2.2.2.2.1 rp ra rn (Cl.new Wd.zero 0 0 l0) rfl (by simp [Cl.new]) none 0 0);go_wp2_with fail
 have hG2:=hG.out;rw [Cl.new_lit] at hG2;refine hG2.mono ?_;rintro e1 w1 ⟨v,rfl,hres,haft⟩;have HE:=Lib.hid (And.intro hres haft);clear hG2 hres haft;go_wp2_with fail
 go_ret
 rw [HR.out,if_pos (by first|trivial|rfl|simp)];exact ⟨_,rfl,HE.out.1.lo HU.out.size,Aft.ahead HU.out HE.out.2⟩
theorem calls_24 (h:ML base P A w m S L) {b:Nat} {bs:List Nat} {c:Cl} {cs:List Cl} (hb:L.bl=b :: bs) (hs:S.stack=c :: cs) (hn:S.stack.length≤1000000000) (hP:PrOk P) {ia ib:Nat} (hia:ia<16) (hib:ib<16) (xc:Int) (l:List Int) (la:Option Addr) (lc:Nat) (hl0:0<l.length) (hl:IntsAt base w la l) :
 CallsC base P A w m S b c ⟨24,ia,ib,xc,l⟩ la lc:=by
 unfold CallsC;obtain ⟨R,hR⟩:∃ R,R=callsS P S c ⟨24,ia,ib,xc,l⟩:=⟨_,rfl⟩;rw [← hR];unfold callsS at hR;simp only at hR;have hm:=h.mlt;obtain ⟨io,ic,hrow,hins,hreg⟩:=h.cls 0 b c (by rw [hb];rfl) (by rw [hs];rfl);have hbw:=hrow.lt;have hbl:b∈L.bl:=by rw [hb];exact List.mem_cons_self
 have y1:=hrow.cell (o:=1) rfl;have hyz:=hrow.frozen;have hbb:=h.high _ (h.ob _ hbl);obtain ⟨u0,u1,u2⟩:=Cl.get_reg hreg io ic hib;have z0:=hrow.cell u0;have z1:=hrow.cell u1;have z2:=hrow.cell u2;have hr0:(0:Int)≤(ib:Int):=by omega
 have hr1:(ib:Int)<16:=by omega
 generalize c.reg (ib:Int)=rb at *;obtain ⟨rp,ra,rn⟩:=rb;simp only at z0 z1 z2 hR;clear u0 u1 u2;obtain ⟨lb,lo,e0,kl⟩:=hl 0 l[0] (List.getElem?_eq_getElem hl0);subst e0;have kl0:=kl.2;have hlw:=World.block_lt_of_cell? w _ kl0;have hlab:(⟨24,ia,ib,xc,l⟩:In).lab 0=l[0]:=by unfold In.lab;rw [List.getD_eq_getElem?_getD];simp [hl0]
 rw [hlab] at hR;have hll:(0:Int)<(l.length:Int):=by omega
 simp only [Nat.add_zero] at kl0;clear kl hl hlab;generalize l[0]=l0 at *;have HR:=Lib.hid hR;have HH:=Lib.hid (And.intro h (And.intro hb (And.intro hs (And.intro hn (And.intro hP (And.intro hrow (And.intro hins hreg)))))));clear h hb hs hn hP hrow hins hreg hbl hR;go_enter Tryz.func106,Tryz.ntmps106
 go_wp2_with fail
 have hrx:Row (w.alloc (.cells #[.int .i64 24,.int .i64 ia,.int .i64 ib,.int .i64 xc,.slice (some ⟨lb,lo,none⟩) l.length lc] 128)) w.heap.size 128 [.int .i64 24,.int .i64 ia,.int .i64 ib,.int .i64 xc,.slice (some ⟨lb,lo,none⟩) l.length lc]:=Row.new' rfl;have hf0:Fr Non w (w.alloc (.cells #[.int .i64 24,.int .i64 ia,.int .i64 ib,.int .i64 xc,.slice (some ⟨lb,lo,none⟩) l.length lc] 128)):=by exact fx
 have hs0:(w.alloc (.cells #[.int .i64 24,.int .i64 ia,.int .i64 ib,.int .i64 xc,.slice (some ⟨lb,lo,none⟩) l.length lc] 128)).heap.size=w.heap.size+1:=by simp
 generalize w.alloc (.cells #[.int .i64 24,.int .i64 ia,.int .i64 ib,.int .i64 xc,.slice (some ⟨lb,lo,none⟩) l.length lc] 128)=W at *;obtain ⟨x0,x1,x2,x3,x4,xz⟩:=row5 hrx;have zw0:=hf0.cell z0 id;have zw1:=hf0.cell z1 id;have zw2:=hf0.cell z2 id;have kw0:=hf0.cell kl0 id;have hlW:lb<W.heap.size:=by omega
 have HW:=Lib.hid (And.intro hf0 hrx);clear hrx hf0 z0 z1 z2 kl0;have hxw:w.heap.size<W.heap.size:=by omega
 have hbW:b<W.heap.size:=by omega
 go_still_tail 15,(by kernel_rfl)
 change wpList _ _ _ _ _ W.drew;have hfU:Fr Non W W.drew:=(Fr.refl _ _).drew;obtain ⟨x0',x1',x2',x3',x4',xz'⟩:=row5 (hfU.row HW.out.2 id);have zu0:=hfU.cell zw0 id;have zu1:=hfU.cell zw1 id;have zu2:=hfU.cell zw2 id;have ku0:=hfU.cell kw0 id;have HU:=Lib.hid (HW.out.1.trans hfU);clear hfU x0 x1 x2 x3 x4 xz zw0 zw1 zw2 kw0;generalize W.drew=U at *;have hG:=Lib.hid (goOn_m (HH.out.1.frN HU.out) HH.out.2.2.2.1 HH.out.2.2.2.2.1 rp ra rn (Cl.new Wd.zero 1 ia l0) rfl (by simp [Cl.new];omega) none 0 0);go_wp2_with fail
 have hG2:=hG.out;rw [Cl.new_lit] at hG2;refine hG2.mono ?_;rintro e1 w1 ⟨v,rfl,hres,haft⟩;have HE:=Lib.hid (And.intro hres haft);clear hG2 hres haft;go_wp2_with fail
 go_ret
 rw [HR.out,if_neg (by simp),if_pos (by first|trivial|rfl|simp)];exact ⟨_,rfl,HE.out.1.lo HU.out.size,Aft.ahead HU.out HE.out.2⟩
theorem calls_25 (h:ML base P A w m S L) {b:Nat} {bs:List Nat} {c:Cl} {cs:List Cl} (hb:L.bl=b :: bs) (hs:S.stack=c :: cs) (hn:S.stack.length≤1000000000) (hP:PrOk P) {ia:Nat} (hia:ia<16) (xb xc:Int) (l:List Int) (la:Option Addr) (lc:Nat) :
 CallsC base P A w m S b c ⟨25,ia,xb,xc,l⟩ la lc:=by
 unfold CallsC;obtain ⟨R,hR⟩:∃ R,R=callsS P S c ⟨25,ia,xb,xc,l⟩:=⟨_,rfl⟩;rw [← hR];unfold callsS at hR;simp only at hR;have hm:=h.mlt;obtain ⟨io,ic,hrow,hins,hreg⟩:=h.cls 0 b c (by rw [hb];rfl) (by rw [hs];rfl);have hbw:=hrow.lt;have hbl:b∈L.bl:=by rw [hb];exact List.mem_cons_self
 have y1:=hrow.cell (o:=1) rfl;have hyz:=hrow.frozen;have hbb:=h.high _ (h.ob _ hbl);obtain ⟨u0,u1,u2⟩:=Cl.get_reg hreg io ic hia;have z0:=hrow.cell u0;have z1:=hrow.cell u1;have z2:=hrow.cell u2;have hr0:(0:Int)≤(ia:Int):=by omega
 have hr1:(ia:Int)<16:=by omega
 generalize c.reg (ia:Int)=rb at *;obtain ⟨rp,ra,rn⟩:=rb;simp only at z0 z1 z2 hR;clear u0 u1 u2;have HR:=Lib.hid hR;have HH:=Lib.hid (And.intro h (And.intro hb (And.intro hs (And.intro hn (And.intro hP (And.intro hrow (And.intro hins hreg)))))));clear h hb hs hn hP hrow hins hreg hbl hR;go_enter Tryz.func106,Tryz.ntmps106
 go_wp2_with fail
 have hrx:Row (w.alloc (.cells #[.int .i64 25,.int .i64 ia,.int .i64 xb,.int .i64 xc,.slice la l.length lc] 128)) w.heap.size 128 [.int .i64 25,.int .i64 ia,.int .i64 xb,.int .i64 xc,.slice la l.length lc]:=Row.new' rfl;have hf0:Fr Non w (w.alloc (.cells #[.int .i64 25,.int .i64 ia,.int .i64 xb,.int .i64 xc,.slice la l.length lc] 128)):=by exact fx
 have hs0:(w.alloc (.cells #[.int .i64 25,.int .i64 ia,.int .i64 xb,.int .i64 xc,.slice la l.length lc] 128)).heap.size=w.heap.size+1:=by simp
 generalize w.alloc (.cells #[.int .i64 25,.int .i64 ia,.int .i64 xb,.int .i64 xc,.slice la l.length lc] 128)=W at *;obtain ⟨x0,x1,x2,x3,x4,xz⟩:=row5 hrx;have zw0:=hf0.cell z0 id;have zw1:=hf0.cell z1 id;have zw2:=hf0.cell z2 id;have HW:=Lib.hid (And.intro hf0 hrx);clear hrx hf0 z0 z1 z2;have hxw:w.heap.size<W.heap.size:=by omega
 have hbW:b<W.heap.size:=by omega
 go_still_tail 8,(by kernel_rfl)
 change wpList _ _ _ _ _ W.drew;have hfU:Fr Non W W.drew:=(Fr.refl _ _).drew;obtain ⟨x0',x1',x2',x3',x4',xz'⟩:=row5 (hfU.row HW.out.2 id);have zu0:=hfU.cell zw0 id;have zu1:=hfU.cell zw1 id;have zu2:=hfU.cell zw2 id;have HU:=Lib.hid (HW.out.1.trans hfU);clear hfU x0 x1 x2 x3 x4 xz zw0 zw1 zw2;generalize W.drew=U at *;have hG:=Lib.hid (stop_m (HH.out.1.frN HU.out) HH.out.2.2.2.1 HH.out.2.2.2.2.1 rp ra rn);go_wp2_with fail
 refine hG.out.mono ?_;rintro e1 w1 ⟨v,rfl,hres,haft⟩;have HE:=Lib.hid (And.intro hres haft);clear hres haft;go_wp2_with fail
 go_ret
 rw [HR.out,if_neg (by simp),if_neg (by simp),if_pos (by first|trivial|rfl|simp)];exact ⟨_,rfl,HE.out.1.lo HU.out.size,Aft.ahead HU.out HE.out.2⟩
theorem calls_27 (h:ML base P A w m S L) {b:Nat} {bs:List Nat} {c:Cl} {cs:List Cl} (hb:L.bl=b :: bs) (hs:S.stack=c :: cs) (hn:S.stack.length≤1000000000) (hP:PrOk P) (xa xb xc:Int) (l:List Int) (la:Option Addr) (lc:Nat) (hi:c.role=1→0≤c.into∧c.into<16) :
 CallsC base P A w m S b c ⟨27,xa,xb,xc,l⟩ la lc:=by
 unfold CallsC;obtain ⟨R,hR⟩:∃ R,R=callsS P S c ⟨27,xa,xb,xc,l⟩:=⟨_,rfl⟩;rw [← hR];unfold callsS at hR;simp only at hR;have hm:=h.mlt;obtain ⟨io,ic,hrow,hins,hreg⟩:=h.cls 0 b c (by rw [hb];rfl) (by rw [hs];rfl);have hbw:=hrow.lt;have hbl:b∈L.bl:=by rw [hb];exact List.mem_cons_self
 have y1:=hrow.cell (o:=1) rfl;have hyz:=hrow.frozen;have hbb:=h.high _ (h.ob _ hbl);have HR:=Lib.hid hR;have HH:=Lib.hid (And.intro h (And.intro hb (And.intro hs (And.intro hn (And.intro hP (And.intro hrow (And.intro hins hreg)))))));clear h hb hs hn hP hrow hins hreg hbl hR;have hfV:Fr Non w (w.alloc (.cells #[.int .i64 27,.int .i64 xa,.int .i64 xb,.int .i64 xc,.slice la l.length lc] 128)):=by exact fx
 have hG:=Lib.hid (ends_m (HH.out.1.frN hfV) HH.out.2.2.2.1 HH.out.2.2.1 hi ⟨27,xa,xb,xc,l⟩ la lc);have HU:=Lib.hid hfV;clear hfV hi y1 hyz;go_enter Tryz.func106,Tryz.ntmps106
 go_wp2_with fail
 refine hG.out.mono ?_;rintro e1 w1 ⟨v,rfl,hres,haft⟩;have HE:=Lib.hid (And.intro hres haft);clear hres haft;go_wp2_with fail
 go_ret
 rw [HR.out,if_neg (by simp),if_neg (by simp),if_neg (by simp),if_neg (by simp),if_pos (by simp)];exact ⟨_,rfl,HE.out.1.lo HU.out.size,Aft.ahead HU.out HE.out.2⟩
theorem calls_28 (h:ML base P A w m S L) {b:Nat} {bs:List Nat} {c:Cl} {cs:List Cl} (hb:L.bl=b :: bs) (hs:S.stack=c :: cs) (hn:S.stack.length≤1000000000) (hP:PrOk P) (xa xb xc:Int) (l:List Int) (la:Option Addr) (lc:Nat) (hi:c.role=1→0≤c.into∧c.into<16) :
 CallsC base P A w m S b c ⟨28,xa,xb,xc,l⟩ la lc:=by
 unfold CallsC;obtain ⟨R,hR⟩:∃ R,R=callsS P S c ⟨28,xa,xb,xc,l⟩:=⟨_,rfl⟩;rw [← hR];unfold callsS at hR;simp only at hR;have hm:=h.mlt;obtain ⟨io,ic,hrow,hins,hreg⟩:=h.cls 0 b c (by rw [hb];rfl) (by rw [hs];rfl);have hbw:=hrow.lt;have hbl:b∈L.bl:=by rw [hb];exact List.mem_cons_self
 have y1:=hrow.cell (o:=1) rfl;have hyz:=hrow.frozen;have hbb:=h.high _ (h.ob _ hbl);have HR:=Lib.hid hR;have HH:=Lib.hid (And.intro h (And.intro hb (And.intro hs (And.intro hn (And.intro hP (And.intro hrow (And.intro hins hreg)))))));clear h hb hs hn hP hrow hins hreg hbl hR;have hfV:Fr Non w (w.alloc (.cells #[.int .i64 28,.int .i64 xa,.int .i64 xb,.int .i64 xc,.slice la l.length lc] 128)):=by exact fx
 have hG:=Lib.hid (ends_m (HH.out.1.frN hfV) HH.out.2.2.2.1 HH.out.2.2.1 hi ⟨28,xa,xb,xc,l⟩ la lc);have HU:=Lib.hid hfV;clear hfV hi y1 hyz;go_enter Tryz.func106,Tryz.ntmps106
 go_wp2_with fail
 refine hG.out.mono ?_;rintro e1 w1 ⟨v,rfl,hres,haft⟩;have HE:=Lib.hid (And.intro hres haft);clear hres haft;go_wp2_with fail
 go_ret
 rw [HR.out,if_neg (by simp),if_neg (by simp),if_neg (by simp),if_neg (by simp),if_pos (by simp)];exact ⟨_,rfl,HE.out.1.lo HU.out.size,Aft.ahead HU.out HE.out.2⟩
theorem calls_29 (h:ML base P A w m S L) {b:Nat} {bs:List Nat} {c:Cl} {cs:List Cl} (hb:L.bl=b :: bs) (hs:S.stack=c :: cs) (hn:S.stack.length≤1000000000) (hP:PrOk P) (xa xb xc:Int) (l:List Int) (la:Option Addr) (lc:Nat) :
 CallsC base P A w m S b c ⟨29,xa,xb,xc,l⟩ la lc:=by
 unfold CallsC;obtain ⟨R,hR⟩:∃ R,R=callsS P S c ⟨29,xa,xb,xc,l⟩:=⟨_,rfl⟩;rw [← hR];unfold callsS at hR;simp only at hR;have hm:=h.mlt;obtain ⟨io,ic,hrow,hins,hreg⟩:=h.cls 0 b c (by rw [hb];rfl) (by rw [hs];rfl);have hbw:=hrow.lt;have hbl:b∈L.bl:=by rw [hb];exact List.mem_cons_self
 have y1:=hrow.cell (o:=1) rfl;have hyz:=hrow.frozen;have hbb:=h.high _ (h.ob _ hbl);have HR:=Lib.hid hR;have HH:=Lib.hid (And.intro h (And.intro hb (And.intro hs (And.intro hn (And.intro hP (And.intro hrow (And.intro hins hreg)))))));clear h hb hs hn hP hrow hins hreg hbl hR;have hfV:Fr Non w (w.alloc (.cells #[.int .i64 29,.int .i64 xa,.int .i64 xb,.int .i64 xc,.slice la l.length lc] 128)):=by exact fx
 have hlen:L.bl.length≤1000000000:=by rw [HH.out.1.len];exact HH.out.2.2.2.1
 have hG:=Lib.hid (pop_m (HH.out.1.frN hfV) HH.out.2.1 hlen);have hbm:b≠m:=HH.out.1.bl_m (by rw [HH.out.2.1];exact List.mem_cons_self);have HU:=Lib.hid hfV;clear hfV y1 hyz hlen;go_enter Tryz.func106,Tryz.ntmps106
 go_wp2_with fail
 refine hG.out.mono ?_;rintro e1 w1 ⟨rfl,⟨sv',hM1⟩,hf1⟩;have hrow1:=hf1.row (HU.out.row HH.out.2.2.2.2.2.1 id) hbm;have y53:=hrow1.cell (Cl.get_tail HH.out.2.2.2.2.2.2.2 io ic).1;obtain ⟨g50,g51,g52⟩:=Cl.get_frame HH.out.2.2.2.2.2.2.2 io ic;have y50:=hrow1.cell g50;have y51:=hrow1.cell g51;have y52:=hrow1.cell g52;have hbl:=hrow1.lt;have hs1:=hf1.size;have H1:=Lib.hid (And.intro hM1 hf1);clear hM1 hf1 hrow1 g50 g51 g52;by_cases hr:c.role=2
 · rw [hr] at y53;generalize hfr:c.frame=fr at *;obtain ⟨fp,fa,fn⟩:=fr;simp only at y50 y51 y52;have hF:=Lib.hid (freed_m H1.out.1 fp fa fn);go_wp2_with fail
   refine hF.out.mono ?_;rintro e2 w2 ⟨v,rfl,hres,haft⟩;have HE:=Lib.hid (And.intro hres haft);clear hres haft;go_wp2_with fail
   go_ret
   rw [HR.out,if_neg (by simp),if_neg (by simp),if_neg (by simp),if_neg (by simp),if_neg (by simp),if_pos (by first|trivial|exact hr|simp [hr])];exact ⟨_,rfl,HE.out.1.lo (Nat.le_trans HU.out.size hs1),Aft.ahead HU.out (Aft.step (A1:=A) (fun x hx=>Or.inl hx) (H1.out.2.mono fun x _ hx=>hx ▸ HH.out.1.om) HE.out.2)⟩
 · have hr':(c.role == 2)=false:=beq_false_of_ne hr;go_wp2_with fail
   go_ret
   rw [HR.out,if_neg (by simp),if_neg (by simp),if_neg (by simp),if_neg (by simp),if_neg (by simp),if_neg hr];exact ⟨_,rfl,Or.inl ⟨rfl,rfl⟩,Aft.ahead HU.out ⟨A,⟨_,H1.out.1⟩,fun x hx=>Or.inl hx,H1.out.2.mono fun x _ hx=>hx ▸ HH.out.1.om⟩⟩
theorem calls_26 (h:ML base P A w m S L) {b:Nat} {bs:List Nat} {c:Cl} {cs:List Cl} (hb:L.bl=b :: bs) (hs:S.stack=c :: cs) (hn:S.stack.length≤1000000000) (hP:PrOk P) {ia:Nat} (hia:ia<16) {xb:Int} (hb0:0≤xb) (hb1:xb<P.funs.length) (xc:Int) (l:List Int) (la:Option Addr) (lc:Nat) :
 CallsC base P A w m S b c ⟨26,ia,xb,xc,l⟩ la lc:=by
 unfold CallsC;obtain ⟨R,hR⟩:∃ R,R=callsS P S c ⟨26,ia,xb,xc,l⟩:=⟨_,rfl⟩;rw [← hR];unfold callsS at hR;simp only at hR;have hm:=h.mlt;obtain ⟨io,ic,hrow,hins,hreg⟩:=h.cls 0 b c (by rw [hb];rfl) (by rw [hs];rfl);have hbw:=hrow.lt;have hbl:b∈L.bl:=by rw [hb];exact List.mem_cons_self
 have y1:=hrow.cell (o:=1) rfl;have hyz:=hrow.frozen;have hbb:=h.high _ (h.ob _ hbl);obtain ⟨u0,u1,u2⟩:=Cl.get_reg hreg io ic hia;have z0:=hrow.cell u0;have z1:=hrow.cell u1;have z2:=hrow.cell u2;have hr0:(0:Int)≤(ia:Int):=by omega
 have hr1:(ia:Int)<16:=by omega
 generalize c.reg (ia:Int)=rb at *;obtain ⟨rp,ra,rn⟩:=rb;simp only at z0 z1 z2 hR;clear u0 u1 u2;have HR:=Lib.hid hR;have HH:=Lib.hid (And.intro h (And.intro hb (And.intro hs (And.intro hn (And.intro hP (And.intro hrow (And.intro hins hreg)))))));clear h hb hs hn hP hrow hins hreg hbl hR;have hf0:Fr Non w (w.alloc (.cells #[.int .i64 26,.int .i64 ia,.int .i64 xb,.int .i64 xc,.slice la l.length lc] 128)):=by exact fx
 have hs0:(w.alloc (.cells #[.int .i64 26,.int .i64 ia,.int .i64 xb,.int .i64 xc,.slice la l.length lc] 128)).heap.size=w.heap.size+1:=by simp
 have hrx:Row (w.alloc (.cells #[.int .i64 26,.int .i64 ia,.int .i64 xb,.int .i64 xc,.slice la l.length lc] 128)) w.heap.size 128 [.int .i64 26,.int .i64 ia,.int .i64 xb,.int .i64 xc,.slice la l.length lc]:=Row.new' rfl;go_enter Tryz.func106,Tryz.ntmps106
 go_wp2_with (refine wpList_storecall 7 57 (w.heap.size+1) [.slice none 0 0,.int .i64 0,.bool false,.int .i64 0,.int .i64 0,.bool false,.int .i64 0,.int .i64 0,.bool false,.int .i64 0,.int .i64 0,.bool false,.int .i64 0,.int .i64 0,.bool false,.int .i64 0,.int .i64 0,.bool false,.int .i64 0,.int .i64 0,.bool false,.int .i64 0,.int .i64 0,.bool false,.int .i64 0,.int .i64 0,.bool false,.int .i64 0,.int .i64 0,.bool false,.int .i64 0,.int .i64 0,.bool false,.int .i64 0,.int .i64 0,.bool false,.int .i64 0,.int .i64 0,.bool false,.int .i64 0,.int .i64 0,.bool false,.int .i64 0,.int .i64 0,.bool false,.int .i64 0,.int .i64 0,.bool false,.int .i64 0,.int .i64 0,.bool false,.int .i64 0,.int .i64 0,.int .i64 3,.int .i64 0,.int .i64 0] rfl rfl rfl litOne ?_)
 refine ⟨_,(Row.new' (by simp)),rfl,?_⟩;intro W hrg hfg;have hrx':Row W w.heap.size 128 [.int .i64 26,.int .i64 ia,.int .i64 xb,.int .i64 xc,.slice la l.length lc]:=hfg.row (hrx.alloc _) (by simp);have hfW:Fr Non w W:=(hf0.alloc _).then hfg (fun x hx e=>by subst e;omega);have hsW:w.heap.size+1<W.heap.size:=hrg.lt;have zw0:=hfW.cell z0 id;have zw1:=hfW.cell z1 id;have zw2:=hfW.cell z2 id;obtain ⟨x0,x1,x2,x3,x4,xz⟩:=row5 hrx';have g2:=hrg.cell (o:=2) rfl;have g3:=hrg.cell (o:=3) rfl;have g4:=hrg.cell (o:=4) rfl;have gz:=hrg.frozen;have hbW:b<W.heap.size:=by omega
 have hxW:w.heap.size<W.heap.size:=by omega
 have HW:=Lib.hid (And.intro hfW (And.intro hrx' hrg));clear hfW hrx' hrg hfg hf0 hs0 hrx z0 z1 z2 y1 hyz;go_wp2_with fail
 have cW:=@Mix.cls_drew W [b,w.heap.size];refine Mix.wp_region_mix [2,6] [(0,0),(0,1),(1,2),(0,3),(0,4),(0,5),(1,6),(0,7),(0,8),(2,9)] (fun V=>∃ g,V=Mix.upon W [b,w.heap.size] g) (by kernel_rfl) (by kernel_rfl) cW ?_;clear cW;repeat (first|((first|refine Mix.qa ?_|refine Mix.qb ?_);intro K hK;simp only [nA,nB,nC];go_big_quiet_op;go_big_quiet_on)|refine Mix.qc ?_|refine Mix.qd ?_)
 refine Mix.S_eff rfl rfl ?_;intro K hK;simp only [nA,nB,nC];go_simp;refine hK _ _ ⟨Mix.cls_fr (D:=fun x=>x=w.heap.size+1) (by exact ((Fr.set3 _ _ _ _ _ _ _ _).drew).drewl) (by simp;omega),?_⟩;clear hK K;repeat (first|((first|refine Mix.qa ?_|refine Mix.qb ?_);intro K hK;simp only [nA,nB,nC];go_big_quiet_op;go_big_quiet_on)|refine Mix.qc ?_|refine Mix.qd ?_)
 refine Mix.S_done ?_
 have hrg4:Row ((((W.setCell ⟨w.heap.size+1,2,none⟩ (.bool rp)).setCell ⟨w.heap.size+1,3,none⟩ (.int .i64 ra)).setCell ⟨w.heap.size+1,4,none⟩ (.int .i64 rn)).drew) (w.heap.size+1) 103 (((Cl.new Wd.zero 3 0 0).put ((0:Nat):Int) ⟨rp,ra,rn⟩).cs none 0):=by
  rw [← Cl.set_reg (c:=Cl.new Wd.zero 3 0 0) rfl none 0 (i:=0) (by omega) ⟨rp,ra,rn⟩];exact ((HW.out.2.2.set_same 2 _).set_same 3 _).set_same 4 _
 have hf3:Fr (fun x=>x=w.heap.size+1) W ((((W.setCell ⟨w.heap.size+1,2,none⟩ (.bool rp)).setCell ⟨w.heap.size+1,3,none⟩ (.int .i64 ra)).setCell ⟨w.heap.size+1,4,none⟩ (.int .i64 rn)).drew):=(Fr.set3 _ _ _ _ _ _ _ _).drew;have hrx3:=hf3.row HW.out.2.1 (by simp);have hfV:Fr Non w ((((W.setCell ⟨w.heap.size+1,2,none⟩ (.bool rp)).setCell ⟨w.heap.size+1,3,none⟩ (.int .i64 ra)).setCell ⟨w.heap.size+1,4,none⟩ (.int .i64 rn)).drew):=HW.out.1.then hf3 (fun x hx e=>by subst e;omega);generalize (((W.setCell ⟨w.heap.size+1,2,none⟩ (.bool rp)).setCell ⟨w.heap.size+1,3,none⟩ (.int .i64 ra)).setCell ⟨w.heap.size+1,4,none⟩ (.int .i64 rn)).drew=V at *;obtain ⟨j0,j1,j2,j3,j4,jz⟩:=row5 hrx3;have hG:=Lib.hid (push_m (HH.out.1.frN hfV) HH.out.2.2.2.1 hb0 hb1 ((Cl.new Wd.zero 3 0 0).put ((0:Nat):Int) ⟨rp,ra,rn⟩) rfl none 0 0);have HV:=Lib.hid (And.intro hfV hrg4);clear hfV hrg4 hf3 hrx3 x0 x1 x2 x3 x4 xz g2 g3 g4 gz zw0 zw1 zw2 HW;go_wp2_with (refine wpList_loadcall 7 (w.heap.size+1) rfl ?_)
 refine ⟨_,HV.out.2,Cl.cs_len rfl none 0,?_⟩;go_wp2_with fail
 refine hG.out.mono ?_;rintro e1 w1 ⟨rfl,haft⟩;have HE:=Lib.hid haft;clear haft;go_wp2_with fail
 go_ret
 rw [HR.out,if_neg (by simp),if_neg (by simp),if_neg (by simp),if_pos (by first|trivial|rfl|simp)];exact ⟨_,rfl,Or.inl ⟨rfl,rfl⟩,Aft.ahead HV.out.1 HE.out⟩
end
def Reg (i:Int):Prop:=0≤i∧i<16
structure InOk (P:Pr) (n:Nat) (x:In):Prop where
 op0:0≤x.op
 op1:x.op≤29
 ra:x.op∈[0,1,2,3,4,5,6,7,8,9,10,11,12,14,15,16,17,18,19,20,21,22,23,24,25,(26:Int)]→Reg x.a
 rb:x.op∈[2,3,4,5,6,8,9,10,11,12,21,(24:Int)]→Reg x.b
 rc:x.op∈[8,9,10,11,(12:Int)]→Reg x.c
 lab:x.op∈[8,9,10,13,14,15,23,(24:Int)]→0<x.l.length
 tO:∀ j∈x.l,0≤j∧j<(n:Int)
 co:x.op=22→0≤x.b∧x.b<P.cos.length
 fn:x.op=26→0≤x.b∧x.b<P.funs.length
section
variable {base:Nat} {P:Pr} {A:Nat→Prop} {w:World} {m:Nat} {S:St} {L:Lay} {b:Nat} {bs:List Nat} {c:Cl} {cs:List Cl}
theorem Reg.nat {i:Int} (h:Reg i):∃ k:Nat,i=k∧k<16:=by
 obtain ⟨k,rfl⟩:=Int.eq_ofNat_of_zero_le h.1;have:=h.2;exact ⟨k,rfl,by omega⟩
theorem words_m (h:ML base P A w m S L) (hb:L.bl=b :: bs) (hs:S.stack=c :: cs) {n:Nat} {x:In} (hx:InOk P n x) (hop:x.op≤7∨x.op=16∨x.op=17∨x.op=22) (hB:S.mem.blocks.length<1000000000000) (la:Option Addr) (lc:Nat) :
 WordsC base P A w m S b c x la lc:=by
 obtain ⟨op,a,xb,xc,l⟩:=x;obtain ⟨h0,h1,ra,rb,rc,lab,tO,co,fn⟩:=hx;simp only at *;have hc:op=0∨op=1∨op=2∨op=3∨op=4∨op=5∨op=6∨op=7∨op=16∨op=17∨op=22:=by omega
 obtain ⟨ia,rfl,hia⟩:=(ra (by rcases hc with rfl|rfl|rfl|rfl|rfl|rfl|rfl|rfl|rfl|rfl|rfl <;> simp)).nat;rcases hc with rfl|rfl|rfl|rfl|rfl|rfl|rfl|rfl|rfl|rfl|rfl
 · exact words_0 h hb hs hia xb xc l la lc
 · exact words_1 h hb hs hia xb xc l la lc
 · obtain ⟨ib,rfl,hib⟩:=(rb (by simp)).nat;exact words_2 h hb hs hia hib xc l la lc
 · obtain ⟨ib,rfl,hib⟩:=(rb (by simp)).nat;exact words_3 h hb hs hia hib xc l la lc
 · obtain ⟨ib,rfl,hib⟩:=(rb (by simp)).nat;exact words_4 h hb hs hia hib xc l la lc
 · obtain ⟨ib,rfl,hib⟩:=(rb (by simp)).nat;exact words_5 h hb hs hia hib xc l la lc
 · obtain ⟨ib,rfl,hib⟩:=(rb (by simp)).nat;exact words_6 h hb hs hia hib xc l la lc
 · exact words_7 h hb hs hia xb xc l la lc
 · exact words_16 h hb hs hia hB xb xc l la lc
 · exact words_17 h hb hs hia xb xc l la lc
 · exact words_22 h hb hs hia hB (co rfl).1 (co rfl).2 xc l la lc
theorem reckons_m (h:ML base P A w m S L) (hb:L.bl=b :: bs) (hs:S.stack=c :: cs) {n:Nat} {x:In} (hx:InOk P n x) (hop:8≤x.op∧x.op≤15) (la:Option Addr) (lc:Nat) (hl:IntsAt base w la x.l) :
 ReckC base P A w m S b c x la lc:=by
 obtain ⟨op,a,xb,xc,l⟩:=x;obtain ⟨h0,h1,ra,rb,rc,lab,tO,co,fn⟩:=hx;simp only at *;have hc:op=8∨op=9∨op=10∨op=11∨op=12∨op=13∨op=14∨op=15:=by omega
 rcases hc with rfl|rfl|rfl|rfl|rfl|rfl|rfl|rfl
 · obtain ⟨ia,rfl,hia⟩:=(ra (by simp)).nat;obtain ⟨ib,rfl,hib⟩:=(rb (by simp)).nat;obtain ⟨ic,rfl,hic⟩:=(rc (by simp)).nat;exact reckons_ar h hb hs hia hib hic (by simp) (by simp) (by simp) (by simp) (by simp) l la lc (lab (by simp)) hl
 · obtain ⟨ia,rfl,hia⟩:=(ra (by simp)).nat;obtain ⟨ib,rfl,hib⟩:=(rb (by simp)).nat;obtain ⟨ic,rfl,hic⟩:=(rc (by simp)).nat;exact reckons_ar h hb hs hia hib hic (by simp) (by simp) (by simp) (by simp) (by simp) l la lc (lab (by simp)) hl
 · obtain ⟨ia,rfl,hia⟩:=(ra (by simp)).nat;obtain ⟨ib,rfl,hib⟩:=(rb (by simp)).nat;obtain ⟨ic,rfl,hic⟩:=(rc (by simp)).nat;exact reckons_ar h hb hs hia hib hic (by simp) (by simp) (by simp) (by simp) (by simp) l la lc (lab (by simp)) hl
 · obtain ⟨ia,rfl,hia⟩:=(ra (by simp)).nat;obtain ⟨ib,rfl,hib⟩:=(rb (by simp)).nat;obtain ⟨ic,rfl,hic⟩:=(rc (by simp)).nat;exact reckons_11 h hb hs hia hib hic l la lc
 · obtain ⟨ia,rfl,hia⟩:=(ra (by simp)).nat;obtain ⟨ib,rfl,hib⟩:=(rb (by simp)).nat;obtain ⟨ic,rfl,hic⟩:=(rc (by simp)).nat;exact reckons_12 h hb hs hia hib hic l la lc
 · exact reckons_13 h hb hs a xb xc l la lc (lab (by simp)) hl
 · obtain ⟨ia,rfl,hia⟩:=(ra (by simp)).nat;exact reckons_14 h hb hs hia xb xc l la lc (lab (by simp)) hl
 · obtain ⟨ia,rfl,hia⟩:=(ra (by simp)).nat;exact reckons_15 h hb hs hia xb xc l la lc (lab (by simp)) hl
theorem outside_m (h:ML base P A w m S L) (hb:L.bl=b :: bs) (hs:S.stack=c :: cs) (hn:S.stack.length≤1000000000) (ht:S.told.length≤1000000000) (hi:∀ c∈S.stack,c.role=1→0≤c.into∧c.into<16) {n:Nat} {x:In} (hx:InOk P n x) (hop:18≤x.op∧x.op≤21) (la:Option Addr) (lc:Nat) :
 OutsC base P A w m S b c x la lc:=by
 obtain ⟨op,a,xb,xc,l⟩:=x;obtain ⟨h0,h1,ra,rb,rc,lab,tO,co,fn⟩:=hx;simp only at *;have hc:op=18∨op=19∨op=20∨op=21:=by omega
 obtain ⟨ia,rfl,hia⟩:=(ra (by rcases hc with rfl|rfl|rfl|rfl <;> simp)).nat;rcases hc with rfl|rfl|rfl|rfl
 · exact outside_18 h hb hs hn ht hi hia xb xc l la lc
 · exact outside_19 h hb hs hn ht hi hia xb xc l la lc
 · exact outside_20 h hb hs hn ht hi hia xb xc l la lc
 · obtain ⟨ib,rfl,hib⟩:=(rb (by simp)).nat;exact outside_21 h hb hs hn ht hi hia hib xc l la lc
theorem calls_m (h:ML base P A w m S L) (hb:L.bl=b :: bs) (hs:S.stack=c :: cs) (hn:S.stack.length≤1000000000) (hP:PrOk P) (hi:∀ c∈S.stack,c.role=1→0≤c.into∧c.into<16) {n:Nat} {x:In} (hx:InOk P n x) (hop:23≤x.op) (la:Option Addr) (lc:Nat) (hl:IntsAt base w la x.l) :
 CallsC base P A w m S b c x la lc:=by
 obtain ⟨op,a,xb,xc,l⟩:=x;obtain ⟨h0,h1,ra,rb,rc,lab,tO,co,fn⟩:=hx;simp only at *;have hc:op=23∨op=24∨op=25∨op=26∨op=27∨op=28∨op=29:=by omega
 have hic:=hi c (by rw [hs];exact List.mem_cons_self);rcases hc with rfl|rfl|rfl|rfl|rfl|rfl|rfl
 · obtain ⟨ia,rfl,hia⟩:=(ra (by simp)).nat;exact calls_23 h hb hs hn hP hia xb xc l la lc (lab (by simp)) hl
 · obtain ⟨ia,rfl,hia⟩:=(ra (by simp)).nat;obtain ⟨ib,rfl,hib⟩:=(rb (by simp)).nat;exact calls_24 h hb hs hn hP hia hib xc l la lc (lab (by simp)) hl
 · obtain ⟨ia,rfl,hia⟩:=(ra (by simp)).nat;exact calls_25 h hb hs hn hP hia xb xc l la lc
 · obtain ⟨ia,rfl,hia⟩:=(ra (by simp)).nat;exact calls_26 h hb hs hn hP hia (fn rfl).1 (fn rfl).2 xc l la lc
 · exact calls_27 h hb hs hn hP a xb xc l la lc hic
 · exact calls_28 h hb hs hn hP a xb xc l la lc hic
 · exact calls_29 h hb hs hn hP a xb xc l la lc
end
section
variable {base:Nat} {P:Pr} {A:Nat→Prop} {w:World} {m:Nat} {S:St} {L:Lay}
theorem Aft.size {w':World} (h:Aft base P A w w' m S):w.heap.size≤w'.heap.size:=by
 obtain ⟨_,_,_,h⟩:=h;exact h.size
theorem step_m (h:ML base P A w m S L) (hn:S.stack.length≤1000000000) (ht:S.told.length≤1000000000) (hB:S.mem.blocks.length<1000000000000) (hP:PrOk P) (hi:∀ c∈S.stack,c.role=1→0≤c.into∧c.into<16)
 {c:Cl} {cs:List Cl} (hs:S.stack=c :: cs) {x:In} {i:Nat} (hat:c.at_=i) (hx:c.fn[i]?=some x) (hok:InOk P c.fn.length x) (hbig:c.fn.length≤1000000000) :
 Calls Tryz.prog 79 #[.pointer (some ⟨m,0,none⟩)] w fun e w'=>∃ v,e=.returned v∧Res w' w.heap.size v (stepS P S).1∧Aft base P A w w' m (stepS P S).2:=by
 have hm:=h.mlt;obtain ⟨b,bs,hb,hbl,hcl⟩:=h.atTop' hs;obtain ⟨io,ic,hrow,hins,hreg⟩:=hcl;have hbw:=hrow.lt;have hbm:b∈L.bl:=by rw [hb];exact List.mem_cons_self
 have hlen:L.bl.length≤1000000000:=by rw [h.len];exact hn
 have htop:S.top=c:=by unfold St.top;rw [hs];rfl
 have hil:i<c.fn.length:=(List.getElem?_eq_some_iff.1 hx).1;obtain ⟨R,hR⟩:∃ R,R=stepS P S:=⟨_,rfl⟩;rw [← hR];unfold stepS at hR;rw [htop,hat,Int.toNat_natCast,List.getD_eq_getElem?_getD,hx] at hR;simp only [Option.getD_some] at hR;have hT:=Lib.hid fun w1 (f:Fr Non w w1)=>top_m (h.frN f) hb hlen;obtain ⟨ib,iof,la,lc,rfl,i0,i1,i2,i3,i4,i5⟩:=hins i x hx;have y0:=hrow.cell (o:=0) rfl;have y1:=hrow.cell (o:=1) rfl;rw [hat] at y1;have hyz:=hrow.frozen;have hbb:=h.high _ (h.ob _ hbm);have hw1:IntKind.i64.wrap ((i:Int)+1)=(i:Int)+1:=IntWalk.i64_in _ (by omega);have hi0:(0:Int)≤(i:Int):=by omega
 have hi1:(i:Int)<(c.fn.length:Int):=by omega
 have x0:=i0.2;have x1:=i1.2;have x2:=i2.2;have x3:=i3.2;have x4:=i4.2;have hib:ib<w.heap.size:=World.block_lt_of_cell? w _ x0;have HR:=Lib.hid hR;have HH:=Lib.hid (And.intro h (And.intro hb (And.intro hs (And.intro hrow (And.intro hins (And.intro hreg (And.intro hn (And.intro ht (And.intro hB (And.intro hP (And.intro hi (And.intro hok (And.intro i5 hat)))))))))))));clear h hb hs hrow hins hreg hbm hn ht hB hP hi hR htop hok i0 i1 i2 i3 i4 i5 hx hat hlen hbl;generalize c.fn.length=fl at *;obtain ⟨op,xa,xb,xc,l⟩:=x;simp only at x0 x1 x2 x3 x4;go_enter Tryz.func79,Tryz.ntmps79
 go_wp2_with fail
 refine (hT.out _ (by exact fx)).mono ?_;rintro e1 w1 ⟨rfl,hf⟩;have hf1:Fr Non w w1:=Fr.trans (by exact fx) hf;have yw0:=hf1.cell y0 id;have yw1:=hf1.cell y1 id;have yzw:=fun o=>hf1.frozen hbw (hyz o) id;have j0:=hf1.cell x0 id;have j1:=hf1.cell x1 id;have j2:=hf1.cell x2 id;have j3:=hf1.cell x3 id;have j4:=hf1.cell x4 id;have hs1:=hf1.size;have H1:=Lib.hid hf1;have hb1:b<w1.heap.size:=by omega
 have hib1:ib<w1.heap.size:=by omega
 clear hf hf1 y0 y1 hyz x0 x1 x2 x3 x4;go_wp2_with fail
 have cW:=@Mix.cls_drew w1 [b,ib];refine Mix.wp_region_mix [3,7,9] [(0,0),(0,1),(0,2),(1,3),(0,4),(0,5),(0,6),(1,7),(0,8),(1,9),(2,10),(2,11)] (fun V=>∃ g,V=Mix.upon w1 [b,ib] g) (by kernel_rfl) (by kernel_rfl) cW ?_;clear cW;repeat (first|((first|refine Mix.qa ?_|refine Mix.qb ?_);intro K hK;simp only [nA,nB,nC];go_big_quiet_op;go_big_quiet_on)|refine Mix.qc ?_|refine Mix.qd ?_)
 refine Mix.S_eff rfl rfl ?_;intro K hK;simp only [nA,nB,nC];go_simp;refine hK _ _ ⟨Mix.cls_fr (D:=Non) (by exact ((Fr.refl Non w1).alloc _).drew.drewl) (by simp [Non];omega),?_⟩;clear hK K;refine Mix.S_eff rfl rfl ?_;intro K hK;simp only [nA,nB,nC];go_simp;refine hK _ _ ⟨Mix.cls_fr (D:=fun x=>x=w1.heap.size) (by exact ((Fr.realloc _ _ _).drew).drewl) (by simp;omega),?_⟩;clear hK K;refine Mix.S_done ?_;have hrx:Row ((w1.alloc (.cells #[.int .i64 op,.int .i64 xa,.int .i64 xb,.int .i64 xc,.slice la l.length lc] 128)).drew) w1.heap.size 128 [.int .i64 op,.int .i64 xa,.int .i64 xb,.int .i64 xc,.slice la l.length lc]:=Row.drew (Row.new' rfl);have hfV:Fr Non w1 ((w1.alloc (.cells #[.int .i64 op,.int .i64 xa,.int .i64 xb,.int .i64 xc,.slice la l.length lc] 128)).drew):=((Fr.refl _ _).alloc _).drew;have hsV:((w1.alloc (.cells #[.int .i64 op,.int .i64 xa,.int .i64 xb,.int .i64 xc,.slice la l.length lc] 128)).drew).heap.size=w1.heap.size+1:=by simp
 generalize (w1.alloc (.cells #[.int .i64 op,.int .i64 xa,.int .i64 xb,.int .i64 xc,.slice la l.length lc] 128)).drew=V at *;obtain ⟨k0,k1,k2,k3,k4,kz⟩:=row5 hrx;have yv1:=hfV.cell yw1 id;have yvz:=fun o=>hfV.frozen hb1 (yzw o) id;have hbx:¬ b=w1.heap.size:=by omega
 have hbx':¬ w1.heap.size=b:=by omega
 have hfw:=H1.out.trans hfV;have hbm:b∈L.bl:=by rw [HH.out.2.1];exact List.mem_cons_self
 have hAb:=HH.out.1.ob b hbm;have hML1:=(HH.out.1.frN hfw).upTop HH.out.2.1 (ClAt.setAt (hfw.row HH.out.2.2.2.1 id) (HH.out.2.2.2.2.1.fr hfw (high_non base)) HH.out.2.2.2.2.2.1 hbb ((i:Int)+1)) (Fr.set1 V b 1 (.int .i64 ((i:Int)+1)));have hFA:Fr A w (V.setCell ⟨b,1,none⟩ (.int .i64 ((i:Int)+1))):=(hfw.mono fun _ _ h=>h.elim).trans ((Fr.set1 _ _ _ _).mono fun x _ hx=>hx ▸ hAb)
 have hn1:(S.setTop { c with at_:=(i:Int)+1 }).stack.length≤1000000000:=by
  have:=HH.out.2.2.2.2.2.2.1;rw [HH.out.2.2.1] at this;simp only [St.setTop,List.length_cons,List.length_tail,HH.out.2.2.1] at this ⊢;omega
 have hi1':∀ d∈(S.setTop { c with at_:=(i:Int)+1 }).stack,d.role=1→0≤d.into∧d.into<16:=by
  intro d hd;have hi:=HH.out.2.2.2.2.2.2.2.2.2.2.1;rcases List.mem_cons.1 hd with rfl|hd
  · exact hi c (by rw [HH.out.2.2.1];exact List.mem_cons_self)
  · exact hi d (List.mem_of_mem_tail hd)
 have hl1:=HH.out.2.2.2.2.2.2.2.2.2.2.2.2.1.fr hFA HH.out.1.high;have HM:=Lib.hid (And.intro hML1 (And.intro hFA (And.intro hn1 (And.intro hi1' hl1))));clear hML1 hFA hn1 hi1' hl1 hrx hfV hfw hbm hAb yw0 yw1 yzw j0 j1 j2 j3 j4;have hok:=HH.out.2.2.2.2.2.2.2.2.2.2.2.1;have ho0:0≤op:=hok.op0;have ho1:op≤29:=hok.op1;have hS2:=HM.out.1;have hgr:(op≤7∨op=16∨op=17∨op=22)∨(8≤op∧op≤15)∨(18≤op∧op≤21)∨23≤op:=by omega
 rcases hgr with hop|hop|hop|hop
 · have hG:=words_m HM.out.1 HH.out.2.1 rfl hok hop HH.out.2.2.2.2.2.2.2.2.1 la lc;have hR:=HR.out;rw [if_pos hop] at hR;unfold WordsC at hG;rw [show (S.setTop { c with at_:=(i:Int)+1 }).mem=S.mem from rfl] at hG;generalize wordsS P S.mem { c with at_:=(i:Int)+1 } ⟨op,xa,xb,xc,l⟩=T at *;obtain ⟨M',c',er⟩:=T;simp only at hG hR;have HG:=Lib.hid hG;clear HR;have HR:=Lib.hid hR;have hc:op=0∨op=1∨op=2∨op=3∨op=4∨op=5∨op=6∨op=7∨op=16∨op=17∨op=22:=by omega
   clear hG hR hop hok hS2 ho0 ho1;rcases hc with rfl|rfl|rfl|rfl|rfl|rfl|rfl|rfl|rfl|rfl|rfl
   all_goals go_wp2_with fail
   all_goals refine HG.out.mono ?_
   all_goals rintro e2 w2 ⟨rfl,haft⟩
   all_goals have HE:=Lib.hid haft
   all_goals have hs2:=haft.size
   all_goals clear haft
   all_goals go_wp2_with fail
   all_goals refine (checked_c w2 er).mono ?_
   all_goals rintro e3 w3 ⟨v,rfl,hres,hf3⟩
   all_goals have HE3:=Lib.hid (And.intro hres hf3)
   all_goals clear hres hf3
   all_goals go_wp2_with fail
   all_goals go_ret
   all_goals rw [HR.out]
   all_goals exact ⟨_,rfl,HE3.out.1.lo (Nat.le_trans HM.out.2.1.size hs2),Aft.box (Fr.refl _ _) (Aft.step (fun x hx=>Or.inl hx) HM.out.2.1 HE.out) (E:=Non) HE3.out.2 (fun _ h=>h.elim) HH.out.1.lt HH.out.1.base_le⟩
 · have hG:=reckons_m HM.out.1 HH.out.2.1 rfl hok hop la lc HM.out.2.2.2.2;have hR:=HR.out;rw [if_neg (by omega),if_pos hop.2] at hR;unfold ReckC at hG;generalize reckonsS { c with at_:=(i:Int)+1 } ⟨op,xa,xb,xc,l⟩=T at *;obtain ⟨c',er⟩:=T;simp only at hG hR;have HG:=Lib.hid hG;clear HR;have HR:=Lib.hid hR;have hc:op=8∨op=9∨op=10∨op=11∨op=12∨op=13∨op=14∨op=15:=by omega
   clear hG hR hop hok hS2 ho0 ho1;rcases hc with rfl|rfl|rfl|rfl|rfl|rfl|rfl|rfl
   all_goals go_wp2_with fail
   all_goals refine HG.out.mono ?_
   all_goals rintro e2 w2 ⟨rfl,haft⟩
   all_goals have HE:=Lib.hid haft
   all_goals have hs2:=haft.size
   all_goals clear haft
   all_goals go_wp2_with fail
   all_goals refine (checked_c w2 er).mono ?_
   all_goals rintro e3 w3 ⟨v,rfl,hres,hf3⟩
   all_goals have HE3:=Lib.hid (And.intro hres hf3)
   all_goals clear hres hf3
   all_goals go_wp2_with fail
   all_goals go_ret
   all_goals rw [HR.out]
   all_goals exact ⟨_,rfl,HE3.out.1.lo (Nat.le_trans HM.out.2.1.size hs2),Aft.box (Fr.refl _ _) (Aft.step (fun x hx=>Or.inl hx) HM.out.2.1 HE.out) (E:=Non) HE3.out.2 (fun _ h=>h.elim) HH.out.1.lt HH.out.1.base_le⟩
 · have hG:=outside_m HM.out.1 HH.out.2.1 rfl HM.out.2.2.1 (by exact HH.out.2.2.2.2.2.2.2.1) HM.out.2.2.2.1 hok hop la lc;have hR:=HR.out;rw [if_neg (by omega),if_neg (by omega),if_pos hop] at hR;unfold OutsC at hG;generalize outsideS (S.setTop { c with at_:=(i:Int)+1 }) { c with at_:=(i:Int)+1 } ⟨op,xa,xb,xc,l⟩=T at *;have HG:=Lib.hid hG;clear HR;have HR:=Lib.hid hR;have hc:op=18∨op=19∨op=20∨op=21:=by omega
   clear hG hR hop hok hS2 ho0 ho1;rcases hc with rfl|rfl|rfl|rfl
   all_goals go_wp2_with fail
   all_goals refine HG.out.mono ?_
   all_goals rintro e2 w2 ⟨v,rfl,hres,haft⟩
   all_goals have HE:=Lib.hid (And.intro hres haft)
   all_goals clear hres haft
   all_goals go_wp2_with fail
   all_goals go_ret
   all_goals rw [HR.out]
   all_goals exact ⟨_,rfl,HE.out.1.lo HM.out.2.1.size,Aft.step (fun x hx=>Or.inl hx) HM.out.2.1 HE.out.2⟩
 · have hG:=calls_m HM.out.1 HH.out.2.1 rfl HM.out.2.2.1 HH.out.2.2.2.2.2.2.2.2.2.1 HM.out.2.2.2.1 hok hop la lc HM.out.2.2.2.2;have hR:=HR.out;rw [if_neg (by omega),if_neg (by omega),if_neg (by omega)] at hR;unfold CallsC at hG;generalize callsS P (S.setTop { c with at_:=(i:Int)+1 }) { c with at_:=(i:Int)+1 } ⟨op,xa,xb,xc,l⟩=T at *;have HG:=Lib.hid hG;clear HR;have HR:=Lib.hid hR;have hc:op=23∨op=24∨op=25∨op=26∨op=27∨op=28∨op=29:=by omega
   clear hG hR hop hok hS2 ho0 ho1;rcases hc with rfl|rfl|rfl|rfl|rfl|rfl|rfl
   all_goals go_wp2_with fail
   all_goals refine HG.out.mono ?_
   all_goals rintro e2 w2 ⟨v,rfl,hres,haft⟩
   all_goals have HE:=Lib.hid (And.intro hres haft)
   all_goals clear hres haft
   all_goals go_wp2_with fail
   all_goals go_ret
   all_goals rw [HR.out]
   all_goals exact ⟨_,rfl,HE.out.1.lo HM.out.2.1.size,Aft.step (fun x hx=>Or.inl hx) HM.out.2.1 HE.out.2⟩
end
end Go.Proofs.YtlbomnbpahmphaaGreat
namespace Go.Proofs.YtlbomnbpahmphaaGreat
structure PrGood (P:Pr) (kinds:List Int):Prop where
 pr:PrOk P
 fun_:∀ (k:Nat) (f:List In),P.funs[k]?=some f→0<f.length∧f.length≤65536 ∧
  ∀ (j:Nat) (x:In),f[j]?=some x→InOk P f.length x∧(x.op ∉ [13,15,27,28,(29:Int)]→j+1<f.length)∧(x.op=29→kinds.getD k 0≠1)
 res:∀ x∈P.cos,kinds.getD x.resume.toNat 0=1
structure CallOk (P:Pr) (kinds:List Int) (c:Cl):Prop where
 fn:∃ k:Nat,P.funs[k]?=some c.fn∧(c.role=0∨c.role=1→kinds.getD k 0=1)
 a0:0≤c.at_
 a1:c.at_<c.fn.length
 into:c.role=1→0≤c.into∧c.into<16
 role:0≤c.role∧c.role≤3
def GoodL (P:Pr) (kinds:List Int):List Cl→Prop
 | []=>True
 | c :: l=>CallOk P kinds c∧(match l with|[]=>c.role≠3|d :: _=>0≤c.label∧c.label<d.fn.length)∧GoodL P kinds l
structure Kept (n:Nat) (S S':St):Prop where
 told:S'.told.length≤S.told.length+n
 mem:S'.mem.blocks.length≤S.mem.blocks.length+n
 stk:S'.stack.length≤S.stack.length+n
 fuel:S'.fuel=S.fuel
section
variable {P:Pr} {kinds:List Int} {S S' S2:St} {c c' d:Cl} {l:List Cl}
theorem Kept.refl (n:Nat) (S:St):Kept n S S:=⟨by omega,by omega,by omega,rfl⟩
theorem Kept.trans {a b:Nat} (h:Kept a S S') (k:Kept b S' S2):Kept (a+b) S S2:=by
 obtain ⟨h1,h2,h3,h4⟩:=h;obtain ⟨k1,k2,k3,k4⟩:=k;exact ⟨by omega,by omega,by omega,k4.trans h4⟩
theorem Kept.le {a b:Nat} (h:Kept a S S') (hab:a≤b):Kept b S S':=by
 obtain ⟨h1,h2,h3,h4⟩:=h;exact ⟨by omega,by omega,by omega,h4⟩
theorem GoodL.set (h:GoodL P kinds (c :: l)) (hc:CallOk P kinds c') (hr:c'.role=c.role) (hl:c'.label=c.label):GoodL P kinds (c' :: l):=by
 refine ⟨hc,?_,h.2.2⟩;have h2:=h.2.1;cases l with
 | nil=>simp only at h2 ⊢;rw [hr];exact h2
 | cons d l=>simp only at h2 ⊢;rw [hl];exact h2
theorem GoodL.mem (h:GoodL P kinds l) (hc:c∈l):CallOk P kinds c:=by
 induction l with
 | nil=>cases hc
 | cons d l ih =>
  rcases List.mem_cons.1 hc with rfl|hc
  · exact h.1
  · exact ih h.2.2 hc
theorem CallOk.put (h:CallOk P kinds c) (i:Int) (x:Wd):CallOk P kinds (c.put i x):=⟨h.fn,h.a0,h.a1,h.into,h.role⟩
theorem CallOk.atl (h:CallOk P kinds c) {n:Int} (h0:0≤n) (h1:n<c.fn.length):CallOk P kinds { c with at_:=n }:=⟨h.fn,h0,h1,h.into,h.role⟩
theorem Kept.setTop (n:Nat) (hs:S.stack=c :: l) (c':Cl):Kept n S (S.setTop c'):=⟨by simp [St.setTop],by simp [St.setTop],by simp [St.setTop,hs],rfl⟩
def Ok1 (P:Pr) (kinds:List Int) (n:Nat) (S:St) (r:Out × St):Prop:=Kept n S r.2∧(r.1=none→r.2.stack≠[]∧GoodL P kinds r.2.stack)
theorem Ok1.le {a b:Nat} {r:Out × St} (h:Ok1 P kinds a S r) (hab:a≤b):Ok1 P kinds b S r:=⟨h.1.le hab,h.2⟩
theorem Ok1.behind {a b:Nat} {r:Out × St} (k:Kept a S S') (h:Ok1 P kinds b S' r):Ok1 P kinds (a+b) S r:=⟨k.trans h.1,h.2⟩
theorem doneS_ok (hg:GoodL P kinds S.stack) (c:Cl):Ok1 P kinds 0 S (doneS S c):=by
 unfold doneS;cases hs:S.stack with
 | nil=>exact ⟨by simp [Kept.refl],by simp⟩
 | cons d l =>
  rw [if_neg (by simp)];rw [hs] at hg;have htop:S.top=d:=by unfold St.top;rw [hs];rfl
  split
  · refine ⟨Kept.setTop 0 hs _,fun _=>⟨by simp [St.setTop],?_⟩⟩;simp only [St.setTop,htop,hs,List.tail_cons];exact hg.set (hg.1.put _ _) rfl rfl
  · exact ⟨Kept.refl _ _,fun _=>⟨by simp [hs],by simp only [hs];exact hg⟩⟩
theorem abortedS_ok (hg:GoodL P kinds S.stack) (c:Cl) (hl:∀ d l,S.stack=d :: l→0≤c.label∧c.label<d.fn.length):Ok1 P kinds 0 S (abortedS S c):=by
 unfold abortedS;cases hs:S.stack with
 | nil=>exact ⟨by simp [Kept.refl],by simp⟩
 | cons d l =>
  rw [if_neg (by simp)];rw [hs] at hg;have htop:S.top=d:=by unfold St.top;rw [hs];rfl
  refine ⟨Kept.setTop 0 hs _,fun _=>⟨by simp [St.setTop],?_⟩⟩;simp only [St.setTop,htop,hs,List.tail_cons];exact hg.set (hg.1.atl (hl d l hs).1 (hl d l hs).2) rfl rfl
theorem fn_at (hP:PrGood P kinds) {n:Int} (h0:0≤n) (h1:n<P.funs.length):P.funs[n.toNat]?=some (P.fn n)∧0<(P.fn n).length:=by
 have hl:n.toNat<P.funs.length:=by omega
 have:P.funs[n.toNat]?=some (P.fn n):=by
  unfold Pr.fn;rw [List.getD_eq_getElem?_getD,List.getElem?_eq_getElem hl]
  rfl
 exact ⟨this,(hP.fun_ _ _ this).1⟩
theorem push_ok (hg:GoodL P kinds S.stack) (c:Cl) (n:Int) (hc:CallOk P kinds { c with fn:=P.fn n }) (h3:S.stack=[]→c.role≠3) (hl:∀ d l,S.stack=d :: l→0≤c.label∧c.label<d.fn.length) :
 Ok1 P kinds 1 S (none,S.push P n c):=by
 refine ⟨⟨by simp [St.push],by simp [St.push],by simp [St.push],rfl⟩,fun _=>⟨by simp [St.push],?_⟩⟩;refine ⟨hc,?_,hg⟩;cases hs:S.stack with
 | nil=>exact h3 hs
 | cons d l=>exact hl d l hs
theorem goOnS_ok (hP:PrGood P kinds) (hg:GoodL P kinds S.stack) (p:Wd) (c:Cl) (ha:c.at_=0) (hr:c.role=0∨c.role=1) (hi:c.role=1→0≤c.into∧c.into<16) (hl:∀ d l,S.stack=d :: l→0≤c.label∧c.label<d.fn.length) :
 Ok1 P kinds 1 S (goOnS P S p c):=by
 unfold goOnS;split
 · rename_i h;exact ⟨Kept.refl _ _,fun e=>by simp [errS,h] at e⟩
 · rename_i h;simp only [ne_eq,Decidable.not_not] at h;split
   · exact (doneS_ok hg _).le (by omega)
   · split
     · exact (abortedS_ok hg _ hl).le (by omega)
     · have hco:=stateS_co h;have hx:=hP.pr.res _ hco;have hf:=fn_at hP hx.1 hx.2;refine push_ok hg _ _ ⟨⟨_,hf.1,fun _=>hP.res _ hco⟩,by simp [ha],by simp only [ha];exact Int.ofNat_lt.2 hf.2,hi,by rcases hr with h|h <;> simp [h]⟩ (fun _=>by rcases hr with h|h <;> simp [h]) hl
theorem free_len (M:Mem) (p:Wd):(M.free p).1.blocks.length=M.blocks.length:=by
 unfold Mem.free;split
 · rfl
 · split
   · rfl
   · simp [Mem.put]
theorem store_len (M:Mem) (p x:Wd):(M.store p x).1.blocks.length=M.blocks.length:=by
 unfold Mem.store;split
 · rfl
 · simp [Mem.put]
theorem clear_len (M:Mem) (p:Wd) (n:Int):(M.clear p n).1.blocks.length=M.blocks.length:=by
 unfold Mem.clear;split
 · rfl
 · split
   · rfl
   · simp [Mem.put]
theorem copy_len (M:Mem) (p q:Wd) (n:Int):(M.copy p q n).1.blocks.length=M.blocks.length:=by
 unfold Mem.copy;split
 · rfl
 · split
   · rfl
   · split
     · rfl
     · simp [Mem.put]
theorem alloc_len (M:Mem) (n:Int):(M.alloc n).1.blocks.length≤M.blocks.length+1:=by
 unfold Mem.alloc;split
 · simp
 · split <;> simp
theorem frame_len (P:Pr) (M:Mem) (co:Int):(frameS P M co).1.blocks.length≤M.blocks.length+1:=by
 unfold frameS;have:=alloc_len M (P.co co).words;split
 · exact this
 · rw [store_len,store_len];exact this
theorem freedS_ok (hg:GoodL P kinds S.stack) (p:Wd):Ok1 P kinds 0 S (freedS S p):=by
 unfold freedS;have hk:Kept 0 S { S with mem:=(S.mem.free p).1 }:=⟨by simp,by simp [free_len],by simp,rfl⟩;split
 · rename_i h;exact ⟨hk,fun e=>by simp [errS,h] at e⟩
 · split
   · exact ⟨hk,by simp⟩
   · rename_i h;exact ⟨hk,fun _=>⟨h,hg⟩⟩
theorem stopS_ok (hP:PrGood P kinds) (hg:GoodL P kinds S.stack) (p:Wd):Ok1 P kinds 1 S (stopS P S p):=by
 unfold stopS;split
 · rename_i h;exact ⟨Kept.refl _ _,fun e=>by simp [errS,h] at e⟩
 · rename_i h;simp only [ne_eq,Decidable.not_not] at h;split
   · exact (freedS_ok hg _).le (by omega)
   · have hco:=stateS_co h;have hx:=hP.pr.can _ hco;have hf:=fn_at hP hx.1 hx.2;refine push_ok hg _ _ ⟨⟨_,hf.1,fun e=>by simp [Cl.new] at e⟩,by simp [Cl.new],by simp only [Cl.new];exact Int.ofNat_lt.2 hf.2,by simp [Cl.new],by simp [Cl.new]⟩ (fun _=>by simp [Cl.new]) (fun d l hs=>?_);rw [hs] at hg;have:=hg.1.a0;have:=hg.1.a1;simp [Cl.new];omega
theorem suspS_ok (k n:Int):∀ (l:List Cl),GoodL P kinds l→l.length≤S.stack.length→Ok1 P kinds 1 S (suspS k n S l)
 | [],_,_=>⟨⟨by simp [suspS],by simp [suspS],by simp [suspS],rfl⟩,by simp [suspS]⟩
 | c :: l,hg,hle=>by
  unfold suspS;split
  · exact suspS_ok k n l hg.2.2 (by simp at hle;omega)
  · rename_i h;simp only [ne_eq,not_or,Decidable.not_not] at h;cases l with
    | nil=>exact absurd rfl h.2
    | cons d l =>
     have hg2:=hg.2.2;simp only [List.length_cons] at hle;refine ⟨⟨?_,?_,?_,?_⟩,fun _=>⟨by simp [St.setTop],?_⟩⟩
     · split <;> simp [St.setTop,St.tell]
     · split <;> simp [St.setTop,St.tell]
     · split <;> simp [St.setTop,St.tell] <;> omega
     · split <;> simp [St.setTop,St.tell]
     · have:(if k=0 then ({ S with stack:=d :: l }:St).tell 5 0 n else { S with stack:=d :: l }).stack=d :: l:=by split <;> rfl
       simp only [St.setTop,this,List.tail_cons,St.top,List.headD_cons];exact hg2.set (hg2.1.put _ _) rfl rfl
theorem fell (hP:PrGood P kinds) (hc:CallOk P kinds c) {x:In} {i:Nat} (_hat:c.at_=i) (hx:c.fn[i]?=some x) :
 InOk P c.fn.length x∧(x.op ∉ [13,15,27,28,(29:Int)]→(i:Int)+1<c.fn.length)∧(x.op=29→c.role≠0∧c.role≠1)∧c.fn.length≤65536:=by
 obtain ⟨k,hk,hkr⟩:=hc.fn;obtain ⟨_,h1,h2⟩:=hP.fun_ k _ hk;obtain ⟨a1,a2,a3⟩:=h2 i x hx;refine ⟨a1,fun h=>by have:=a2 h;omega,fun h=>⟨fun e=>a3 h (hkr (Or.inl e)),fun e=>a3 h (hkr (Or.inr e))⟩,h1⟩
theorem CallOk.inst (hc:CallOk P kinds c):∃ (i:Nat) (x:In),c.at_=i∧c.fn[i]?=some x:=by
 obtain ⟨i,hi⟩:=Int.eq_ofNat_of_zero_le hc.a0;have:=hc.a1;exact ⟨i,c.fn[i]'(by omega),hi,List.getElem?_eq_getElem _⟩
theorem In.lab_ok {n:Nat} {x:In} (hx:InOk P n x) (_hl:0<x.l.length) {i:Int} (h0:0≤i) (h1:i<x.l.length):0≤x.lab i∧x.lab i<n:=by
 have:x.lab i=x.l[i.toNat]'(by omega):=by
  unfold In.lab;rw [List.getD_eq_getElem?_getD,List.getElem?_eq_getElem (by omega)]
  rfl
 rw [this];exact hx.tO _ (List.getElem_mem _)
theorem words_cl (P:Pr) (M:Mem) (c:Cl) (x:In):(wordsS P M c x).2.1=c∨∃ y,(wordsS P M c x).2.1=c.put x.a y:=by
 unfold wordsS;by_cases h:x.op=0
 · rw [if_pos h];exact Or.inr ⟨_,rfl⟩
 rw [if_neg h];clear h;by_cases h:x.op=1
 · rw [if_pos h];exact Or.inr ⟨_,rfl⟩
 rw [if_neg h];clear h;by_cases h:x.op=2
 · rw [if_pos h];exact Or.inr ⟨_,rfl⟩
 rw [if_neg h];clear h;by_cases h:x.op=3
 · rw [if_pos h];exact Or.inr ⟨_,rfl⟩
 rw [if_neg h];clear h;by_cases h:x.op=4
 · rw [if_pos h];exact Or.inl rfl
 rw [if_neg h];clear h;by_cases h:x.op=5
 · rw [if_pos h];exact Or.inl rfl
 rw [if_neg h];clear h;by_cases h:x.op=6
 · rw [if_pos h];split <;> exact Or.inl rfl
 rw [if_neg h];clear h;by_cases h:x.op=7
 · rw [if_pos h];exact Or.inl rfl
 rw [if_neg h];clear h;by_cases h:x.op=16
 · rw [if_pos h];exact Or.inr ⟨_,rfl⟩
 rw [if_neg h];clear h;by_cases h:x.op=17
 · rw [if_pos h];exact Or.inl rfl
 rw [if_neg h];clear h;by_cases h:x.op=22
 · rw [if_pos h];exact Or.inr ⟨_,rfl⟩
 rw [if_neg h];clear h;exact Or.inl rfl
theorem words_at (P:Pr) (M:Mem) (c:Cl) (x:In):(wordsS P M c x).2.1.fn=c.fn∧(wordsS P M c x).2.1.at_=c.at_∧(wordsS P M c x).2.1.role=c.role∧(wordsS P M c x).2.1.into=c.into∧(wordsS P M c x).2.1.label=c.label:=by
 rcases words_cl P M c x with h|⟨y,h⟩ <;> rw [h] <;> exact ⟨rfl,rfl,rfl,rfl,rfl⟩
theorem words_len (P:Pr) (M:Mem) (c:Cl) (x:In):(wordsS P M c x).1.blocks.length≤M.blocks.length+1:=by
 have h1:=alloc_len M x.c;have h2:=frame_len P M x.b;unfold wordsS;by_cases h:x.op=0
 · rw [if_pos h];simp
 rw [if_neg h];clear h;by_cases h:x.op=1
 · rw [if_pos h];simp
 rw [if_neg h];clear h;by_cases h:x.op=2
 · rw [if_pos h];simp
 rw [if_neg h];clear h;by_cases h:x.op=3
 · rw [if_pos h];simp
 rw [if_neg h];clear h;by_cases h:x.op=4
 · rw [if_pos h];simp [store_len]
 rw [if_neg h];clear h;by_cases h:x.op=5
 · rw [if_pos h];simp [copy_len]
 rw [if_neg h];clear h;by_cases h:x.op=6
 · rw [if_pos h];split <;> simp [clear_len,copy_len]
 rw [if_neg h];clear h;by_cases h:x.op=7
 · rw [if_pos h];simp [clear_len]
 rw [if_neg h];clear h;by_cases h:x.op=16
 · rw [if_pos h];exact h1
 rw [if_neg h];clear h;by_cases h:x.op=17
 · rw [if_pos h];simp [free_len]
 rw [if_neg h];clear h;by_cases h:x.op=22
 · rw [if_pos h];exact h2
 rw [if_neg h];clear h;simp
theorem goes_at {n:Nat} {x:In} (hx:InOk P n x) (hl:0<x.l.length) (c:Cl) (hn:0≤c.at_∧(x.op=14→c.at_<n)) (_h15:x.op=14∨x.op=15):(goesS c x).2=0→(goesS c x).1.fn=c.fn∧(0≤(goesS c x).1.at_∧(goesS c x).1.at_<n)∧(goesS c x).1.role=c.role∧(goesS c x).1.into=c.into∧(goesS c x).1.label=c.label:=by
 unfold goesS;have h0:=In.lab_ok hx hl (i:=0) (by omega) (by omega);split
 · intro h;cases h
 · split
   · intro _;exact ⟨rfl,h0,rfl,rfl,rfl⟩
   · split
     · rename_i h;intro _;exact ⟨rfl,⟨hn.1,hn.2 h⟩,rfl,rfl,rfl⟩
     · split
       · intro h;cases h
       · rename_i h;simp only [not_or,Int.not_lt,Int.not_le] at h;intro _;exact ⟨rfl,In.lab_ok hx hl h.1 h.2,rfl,rfl,rfl⟩
theorem reckons_at {n:Nat} {x:In} (hx:InOk P n x) (hop:8≤x.op∧x.op≤15) (c:Cl) (hn:0≤c.at_∧(x.op ∉ [13,15,27,28,(29:Int)]→c.at_<n)):(reckonsS c x).2=0→(reckonsS c x).1.fn=c.fn∧(0≤(reckonsS c x).1.at_∧(reckonsS c x).1.at_<n)∧(reckonsS c x).1.role=c.role∧(reckonsS c x).1.into=c.into∧(reckonsS c x).1.label=c.label:=by
 have hlab:x.op∈[8,9,10,13,14,15,23,(24:Int)]→0≤x.lab 0∧x.lab 0<(n:Int):=fun h=>In.lab_ok hx (hx.lab h) (by omega) (by have:=hx.lab h;omega);unfold reckonsS;split
 · rename_i h;intro _;exact ⟨rfl,hlab (by simp [h]),rfl,rfl,rfl⟩
 · rename_i h13;split
   · rename_i h;exact goes_at hx (hx.lab (by rcases h with h|h <;> simp [h])) c ⟨hn.1,fun e=>hn.2 (by simp [e])⟩ h
   · rename_i h;simp only [not_or] at h;have hf:c.at_<n:=hn.2 (by simp;omega);split
     · intro h;cases h
     · split
       · intro _;exact ⟨rfl,⟨hn.1,hf⟩,rfl,rfl,rfl⟩
       · split
         · intro _;exact ⟨rfl,⟨hn.1,hf⟩,rfl,rfl,rfl⟩
         · split
           · intro _;exact ⟨rfl,⟨hn.1,hf⟩,rfl,rfl,rfl⟩
           · intro _
             exact ⟨rfl,hlab (by rcases (show x.op=8∨x.op=9∨x.op=10 from by omega) with e|e|e <;> simp [e]),rfl,rfl,rfl⟩
theorem stepS_ok (hP:PrGood P kinds) (hs:S.stack=c :: l) (hg:GoodL P kinds S.stack):Ok1 P kinds 1 S (stepS P S):=by
 have htop:S.top=c:=by unfold St.top;rw [hs];rfl
 have hg0:=hg;rw [hs] at hg;obtain ⟨i,x,hat,hx⟩:=hg.1.inst;obtain ⟨hok,hfall,hend,hbig⟩:=fell hP hg.1 hat hx;have hil:i<c.fn.length:=(List.getElem?_eq_some_iff.1 hx).1;unfold stepS;rw [htop,hat,Int.toNat_natCast,List.getD_eq_getElem?_getD,hx];simp only [Option.getD_some];have hn1:(0:Int)≤(i:Int)+1:=by omega
 split
 · rename_i hop;have hf:=hfall (by simp;omega);obtain ⟨e1,e2,e3,e4,e5⟩:=words_at P S.mem { c with at_:=(i:Int)+1 } x;refine ⟨⟨by simp [St.setTop],?_,by simp [St.setTop,hs],rfl⟩,fun _=>⟨by simp [St.setTop],?_⟩⟩
   · exact words_len P S.mem _ x
   · simp only [St.setTop,hs,List.tail_cons];refine hg.set ⟨by rw [e1,e3];exact hg.1.fn,by rw [e2];exact hn1,by rw [e1,e2];exact hf,by rw [e3,e4];exact hg.1.into,by rw [e3];exact hg.1.role⟩ e3 e5
 · split
   · rename_i h1 h2;have hop:8≤x.op∧x.op≤15:=by omega
     refine ⟨⟨by simp [St.setTop],by simp [St.setTop],by simp [St.setTop,hs],rfl⟩,fun e=>⟨by simp [St.setTop],?_⟩⟩;simp only [St.setTop,hs,List.tail_cons]
     have he:(reckonsS { c with at_:=(i:Int)+1 } x).2=0:=by
      simp only [errS] at e;split at e
      · assumption
      · cases e
     obtain ⟨e1,e2,e3,e4,e5⟩:=reckons_at hok hop { c with at_:=(i:Int)+1 } ⟨hn1,hfall⟩ he;refine hg.set ⟨by rw [e1,e3];exact hg.1.fn,e2.1,by rw [e1];exact e2.2,by rw [e3,e4];exact hg.1.into,by rw [e3];exact hg.1.role⟩ e3 e5
   · split
     · rename_i h1 h2 hop;have hf:=hfall (by simp;omega)
       have hg1:GoodL P kinds (S.setTop { c with at_:=(i:Int)+1 }).stack:=by
        simp only [St.setTop,hs,List.tail_cons];exact hg.set (hg.1.atl hn1 hf) rfl rfl
       have hk:=Kept.setTop 0 hs { c with at_:=(i:Int)+1 };refine (Ok1.behind hk (b:=1) ?_).le (by omega);unfold outsideS;generalize (if x.op=21 then x.b else x.a)=q;split
       · exact ⟨Kept.refl _ _,fun e=>by simp [errS] at e⟩
       · split
         · exact ⟨⟨by simp [St.tell],by simp [St.tell],by simp [St.tell],rfl⟩,fun _=>⟨by simp [St.tell,St.setTop],hg1⟩⟩
         · split
           · exact ⟨⟨by simp [St.tell],by simp [St.tell],by simp [St.tell],rfl⟩,fun _=>⟨by simp [St.tell,St.setTop],hg1⟩⟩
           · split
             · exact suspS_ok _ _ _ hg1 (Nat.le_refl _)
             · split
               · exact suspS_ok _ _ _ hg1 (Nat.le_refl _)
               · refine ⟨Kept.setTop 1 (c:={ c with at_:=(i:Int)+1 }) (l:=l) (by simp [St.setTop,hs]) _,fun _=>⟨by simp [St.setTop],?_⟩⟩;simp only [St.setTop,hs,List.tail_cons];exact hg.set ((hg.1.atl hn1 hf).put _ _) rfl rfl
     · rename_i h1 h2 h3;have hop:23≤x.op:=by omega
       have ho1:=hok.op1;by_cases hlast:x.op=27∨x.op=28∨x.op=29
       · -- the call ends: where it stands does not count
         have htop2:∀ c',(S.setTop c').stack=c' :: l:=fun c'=>by simp [St.setTop,hs]
         unfold callsS;rw [if_neg (by omega),if_neg (by omega),if_neg (by omega),if_neg (by omega)];split
         · -- 27,28
           unfold endsS;have hst:(S.setTop { c with at_:=(i:Int)+1 }).top={ c with at_:=(i:Int)+1 }:=by unfold St.top;rw [htop2];rfl
           simp only [hst,htop2,List.tail_cons];generalize num (if x.op=28 then -2 else -1)=v;have hk:Kept 0 S { S.setTop { c with at_:=(i:Int)+1 } with mem:=(S.mem.store (offS c.frame 0) v).1,stack:=l }:=⟨by simp [St.setTop],by simp [store_len],by simp [hs],rfl⟩;split
           · rename_i h;refine ⟨⟨by simp [St.setTop],?_,by simp [hs],rfl⟩,fun e=>by simp [errS,h] at e⟩;show ((S.setTop { c with at_:=(i:Int)+1 }).mem.store _ v).1.blocks.length≤_;rw [store_len];simp [St.setTop]
           · split
             · refine (Ok1.behind hk (b:=0) (abortedS_ok (S:={ S.setTop { c with at_:=(i:Int)+1 } with mem:=_,stack:=l }) hg.2.2 _ (fun d l' e=>?_))).le (by omega);have h2:=hg.2.1;simp only at e;rw [e] at h2;exact h2
             · exact (Ok1.behind hk (b:=0) (doneS_ok (S:={ S.setTop { c with at_:=(i:Int)+1 } with mem:=_,stack:=l }) hg.2.2 _)).le (by omega)
         · have h29:x.op=29:=by omega
           have hr:=hend h29;have hk:Kept 0 S { S.setTop { c with at_:=(i:Int)+1 } with stack:=(S.setTop { c with at_:=(i:Int)+1 }).stack.tail }:=⟨by simp [St.setTop],by simp [St.setTop],by simp [St.setTop,hs],rfl⟩;split
           · refine (Ok1.behind hk (b:=0) (freedS_ok ?_ _)).le (by omega);simp only [htop2,List.tail_cons];exact hg.2.2
           · rename_i hr2;refine ⟨hk.le (by omega),fun _=>?_⟩;simp only [htop2,List.tail_cons];refine ⟨?_,hg.2.2⟩;intro e;have h2:=hg.2.1;rw [e] at h2;simp only at h2 hr2;have:=hg.1.role;omega
       · have hf:=hfall (by simp;omega)
         have hg1:GoodL P kinds (S.setTop { c with at_:=(i:Int)+1 }).stack:=by
          simp only [St.setTop,hs,List.tail_cons];exact hg.set (hg.1.atl hn1 hf) rfl rfl
         have hk:=Kept.setTop 0 hs { c with at_:=(i:Int)+1 };have hst:(S.setTop { c with at_:=(i:Int)+1 }).stack={ c with at_:=(i:Int)+1 } :: l:=by simp [St.setTop,hs]
         refine (Ok1.behind hk (b:=1) ?_).le (by omega);unfold callsS
         have hlabl:x.op=23∨x.op=24→∀ d l',(S.setTop { c with at_:=(i:Int)+1 }).stack=d :: l'→0≤x.lab 0∧x.lab 0<(d.fn.length:Int):=fun h d l' e=>by
          rw [hst] at e;cases e
          have hl:=hok.lab (by rcases h with h|h <;> simp [h]);exact In.lab_ok hok hl (by omega) (by omega)
         split
         · rename_i h;exact goOnS_ok hP hg1 _ _ rfl (Or.inl rfl) (by simp [Cl.new]) (by simpa [Cl.new] using hlabl (Or.inl h))
         · split
           · rename_i h;have hra:=hok.ra (by simp [h]);exact goOnS_ok hP hg1 _ _ rfl (Or.inr rfl) (fun _=>hra) (by simpa [Cl.new] using hlabl (Or.inr h))
           · split
             · exact stopS_ok hP hg1 _
             · split
               · rename_i h;have hb:=hok.fn h;have hf2:=fn_at hP hb.1 hb.2;refine push_ok hg1 _ _ ⟨⟨_,hf2.1,fun e=>by simp [Cl.new,Cl.put] at e⟩,by simp [Cl.new,Cl.put],by simp only [Cl.new,Cl.put];exact Int.ofNat_lt.2 hf2.2,by simp [Cl.new,Cl.put],by simp [Cl.new,Cl.put]⟩ (fun e=>by rw [hst] at e;cases e) (fun d l' e=>?_);rw [hst] at e;cases e
                 simp [Cl.new,Cl.put];omega
               · omega
end
end Go.Proofs.YtlbomnbpahmphaaGreat
namespace Go.Proofs.YtlbomnbpahmphaaGreat
open Go.RowKit
def fuelOf (w:World) (m:Nat):Nat:=match w.cell? ⟨m,7,none⟩ with|some (.int _ n)=>n.toNat|_=>0
theorem runS_some (P:Pr) (f:Nat) (r:Int × Int) (S:St):runS P f (some r) S=(r,S):=by cases f <;> rfl
def Few (S:St):Prop:=S.told.length+S.fuel.toNat≤1000000∧S.mem.blocks.length+S.fuel.toNat≤1000000∧S.stack.length+S.fuel.toNat≤1000000
theorem Few.one {S S':St} (h:Few S) {f:Nat} (hf:S.fuel=(f:Int)+1) (k:Kept 1 { S with fuel:=(f:Int) } S'):Few S':=by
 obtain ⟨h1,h2,h3⟩:=h;obtain ⟨k1,k2,k3,k4⟩:=k;simp only at k1 k2 k3 k4;rw [hf] at h1 h2 h3;unfold Few;rw [k4];omega
section
variable {base:Nat} {P:Pr} {kinds:List Int} {A:Nat→Prop} {w:World} {m:Nat} {S:St}
theorem MInv.fuelOf (h:MInv base P A w m S):fuelOf w m=S.fuel.toNat:=by
 obtain ⟨L,h⟩:=h;unfold Go.Proofs.YtlbomnbpahmphaaGreat.fuelOf;rw [h.c7]
theorem run_m (h:MInv base P A w m S) (hP:PrGood P kinds) (hfew:Few S) {lo:Nat} {v:Value} {o:Out} (hr:Res w lo v o) (hg:o=none→S.stack≠[]∧GoodL P kinds S.stack) :
 Calls Tryz.prog 47 #[.pointer (some ⟨m,0,none⟩),v] w fun e w'=>e=.returned (.agg #[.int .i64 (runS P S.fuel.toNat o S).1.1,.int .i64 (runS P S.fuel.toNat o S).1.2])∧Aft base P A w w' m (runS P S.fuel.toNat o S).2:=by
 obtain ⟨L,hL⟩:=h;have hm:=hL.mlt;have hbase:=hL.base_le;have hlt:=hL.lt;obtain ⟨R,hR⟩:∃ R,R=runS P S.fuel.toNat o S:=⟨_,rfl⟩;rw [← hR];have HH:=Lib.hid (And.intro hL (And.intro hP (And.intro hfew (And.intro hr hg))));have HR:=Lib.hid hR;have HL:=Lib.hid (And.intro hlt hbase);clear hL hP hfew hr hg hR hlt hbase;go_enter Tryz.func47,Tryz.ntmps47
 go_wp2_with fail
 have hf0:Fr Non w (w.alloc (.cells #[.int .i64 0,.int .i64 0] 44)):=by exact fx
 have hs0:(w.alloc (.cells #[.int .i64 0,.int .i64 0] 44)).heap.size=w.heap.size+1:=by simp
 have hrb:Row (w.alloc (.cells #[.int .i64 0,.int .i64 0] 44)) w.heap.size 44 [.int .i64 0,.int .i64 0]:=Row.new' rfl;generalize w.alloc (.cells #[.int .i64 0,.int .i64 0] 44)=W at *;have HW:=Lib.hid (And.intro hf0 hrb);clear hf0 hrb
 go_loopw [1] (fun v1 wr=>∃ Ar Sr o1,MInv base P Ar wr m Sr∧(∀ x,Ar x→A x∨W.heap.size≤x)∧Fr A W wr∧Res wr 0 v1 o1∧R=runS P Sr.fuel.toNat o1 Sr∧(o1=none→Sr.stack≠[]∧GoodL P kinds Sr.stack)∧Few Sr∧Row wr w.heap.size 44 [.int .i64 0,.int .i64 0]) (fun _ wr=>fuelOf wr m)
 case atStart=>exact ⟨A,S,o,⟨L,HH.out.1.frN HW.out.1⟩,fun x hx=>Or.inl hx,Fr.refl _ _,(HH.out.2.2.2.1.fr HW.out.1 (fun _ h=>h.elim)).lo (Nat.zero_le _),HR.out,HH.out.2.2.2.2,HH.out.2.2.1,HW.out.2⟩
 case round =>
  obtain ⟨Ar,Sr,o1,hI,hAr,hFr,hRes,hEq,hGood,hFew,hBox⟩:=hrel;have hszr:=hFr.size;have hf7:=hI.fuelOf;rcases hRes with ⟨rfl,rfl⟩|⟨rb,k,n,rfl,rfl,hrow,_⟩
  · obtain ⟨Lr,hML⟩:=hI;have c7:=hML.c7;by_cases hfu:Sr.fuel≤0
    · have hd:decide (Sr.fuel≤0)=true:=decide_eq_true hfu;obtain ⟨b0,b1,bz⟩:=row2 hBox;have hz:Sr.fuel.toNat=0:=by omega
      rw [hz] at hEq;have HX:=Lib.hid (And.intro hML (And.intro hAr (And.intro hFr (And.intro hEq hBox))));clear hML hAr hFr hEq hGood hFew hBox hf7 hz;go_wp2_with fail
      obtain ⟨hML,hAr,hFr,hEq,hBox⟩:=HX.out;refine bodyPost_ret (v:=.agg #[.int .i64 4,.int .i64 0]) (by simp [results,Tryz.results47,go_sem,b0,b1]) rfl ⟨?_,?_⟩
      · rw [hEq];rfl
      · rw [hEq];exact Aft.box HW.out.1 ⟨Ar,⟨Lr,hML⟩,hAr,hFr⟩ (E:=fun x=>x=w.heap.size) (by exact (Fr.set1 _ _ _ _).trans (Fr.set1 _ _ _ _)) (fun x hx=>by omega) HL.out.1 HL.out.2
    · obtain ⟨f,hf⟩:=Int.eq_ofNat_of_zero_le (show 0≤Sr.fuel - 1 by omega);have hf1:Sr.fuel=(f:Int)+1:=by omega
      have hd:¬ ((f:Int)+1≤0):=by omega
      have hfl:f≤1000000:=by have:=hFew.1;rw [hf1] at this;omega
      have hw:IntKind.i64.wrap (f:Int)=(f:Int):=IntWalk.i64_in _ (by omega);rw [hf1] at c7 hf7;have hmz:=hML.row.frozen;obtain ⟨hne,hgl⟩:=hGood rfl;obtain ⟨c,cs,hs⟩:=List.exists_cons_of_ne_nil hne;have hup:=hML.upNums (task:=Sr.task) (fuel:=(f:Int)) (by exact hML.row.set_same 7 _) (Fr.set1 wr m 7 (.int .i64 (f:Int)));have hg1:=hgl;rw [hs] at hg1;obtain ⟨i,x,hat,hx⟩:=hg1.1.inst;obtain ⟨hok,_,_,hbig⟩:=fell HH.out.2.1 hg1.1 hat hx;have hFew':=hFew;unfold Few at hFew';have hS:=Lib.hid (step_m hup (by show Sr.stack.length≤_;omega) (by show Sr.told.length≤_;omega) (by show Sr.mem.blocks.length<_;omega) HH.out.2.1.pr (fun d hd hr=>(hgl.mem hd).into hr) (c:=c) (cs:=cs) hs hat hx hok (by omega));have hso:=stepS_ok (S:={ Sr with fuel:=(f:Int) }) HH.out.2.1 hs hgl
      have hEq2:R=runS P f (stepS P { Sr with fuel:=(f:Int) }).1 (stepS P { Sr with fuel:=(f:Int) }).2:=by
       rw [hEq,hf1,show ((f:Int)+1).toNat=f+1 by omega]
       rfl
      have HX:=Lib.hid (And.intro hML (And.intro hAr (And.intro hFr (And.intro hEq2 (And.intro hBox (And.intro hso (And.intro hFew hf1)))))));clear hML hAr hFr hEq hEq2 hGood hFew hFew' hBox hup hgl hg1 hso hok hx hat hs hne hf;have hmne:¬ m=w.heap.size:=by omega
      go_wp2_with fail
      refine hS.out.mono ?_;rintro e1 w2 ⟨v2,rfl,hres,A2,hI2,hA2,hF2⟩;obtain ⟨hML,hAr,hFr,hEq2,hBox,hso,hFew,hf1⟩:=HX.out;have hFm:Fr Ar wr (wr.setCell ⟨m,7,none⟩ (.int .i64 (f:Int))):=(Fr.set1 wr m 7 (.int .i64 (f:Int))).mono fun x _ hx=>hx ▸ hML.om
      have hbne:¬ Ar w.heap.size:=fun e=>by
       rcases hAr _ e with h|h
       · have:=HL.out.1 _ h;omega
       · omega
      have hBox2:=(hFm.trans hF2).row hBox hbne
      have hA2':∀ x,A2 x→A x∨W.heap.size≤x:=fun x hx=>by
       rcases hA2 x hx with h|h
       · exact hAr x h
       · right;simp at h;omega
      have hFr2:Fr A W w2:=hFr.then (hFm.trans hF2) (fun x hx e=>by
       rcases hAr x e with h|h
       · exact h
       · omega)
      have hk4:=hso.1.fuel;have hf72:=hI2.fuelOf;have HY:=Lib.hid (And.intro hI2 (And.intro hA2' (And.intro hFr2 (And.intro hres (And.intro hEq2 (And.intro hso.2 (And.intro (hFew.one hf1 hso.1) hBox2)))))))
      have hmeas:fuelOf w2 m<fuelOf wr m:=by
       rw [hf72,hf7,hk4];show (f:Int).toNat<_;omega
      clear hI2 hA2 hF2 hML hAr hFr hEq2 hBox hso hFew hFm hBox2 hA2' hFr2 hres hf72;go_wp2_with fail
      obtain ⟨hI2,hA2',hFr2,hres,hEq2,hg2,hfew2,hBox2⟩:=HY.out;refine ⟨⟨A2,_,_,hI2,hA2',hFr2,hres.lo (Nat.zero_le _),?_,hg2,hfew2,hBox2⟩,hmeas⟩;rw [hEq2,hk4]
      rfl
  · obtain ⟨d0,d1,dz⟩:=row2 hrow;obtain ⟨b0,b1,bz⟩:=row2 hBox;have hrl:=hrow.lt;have HX:=Lib.hid (And.intro hI (And.intro hAr (And.intro hFr (And.intro hEq hBox))));clear hI hAr hFr hEq hGood hFew hBox hf7 hrow;go_wp2_with fail
    obtain ⟨⟨Lr,hML⟩,hAr,hFr,hEq,hBox⟩:=HX.out;rw [runS_some] at hEq;refine bodyPost_ret (v:=.agg #[.int .i64 k,.int .i64 n]) (by simp [results,Tryz.results47,go_sem,b0,b1]) rfl ⟨?_,?_⟩
    · rw [hEq]
    · rw [hEq];exact Aft.box HW.out.1 ⟨Ar,⟨Lr,hML⟩,hAr,hFr⟩ (E:=fun x=>x=w.heap.size) (by exact (Fr.set1 _ _ _ _).trans (Fr.set1 _ _ _ _)) (fun x hx=>by omega) HL.out.1 HL.out.2
end
def FewB (S:St) (fuel:Int):Prop:=S.told.length+fuel.toNat+1≤1000000∧S.mem.blocks.length+fuel.toNat+1≤1000000∧fuel.toNat+1≤1000000
section
variable {base:Nat} {P:Pr} {kinds:List Int} {A:Nat→Prop} {w:World} {m:Nat} {S:St} {L:Lay}
theorem word_m (h:ML base P A w m S L) (p:Bool) (a n:Int) :
 Calls Tryz.prog 49 #[.pointer (some ⟨m,0,none⟩),.agg #[.bool p,.int .i64 a,.int .i64 n]] w fun e w'=>e=.returned (.tuple #[.int .i64 (S.mem.word ⟨p,a,n⟩).1,.int .i64 (S.mem.word ⟨p,a,n⟩).2])∧Fr Non w w' :=
 word_c h.c2 h.mem p a n
theorem begin_m (h:ML base P A w m S L) (task fuel:Int) :
 Calls Tryz.prog 46 #[.pointer (some ⟨m,0,none⟩),.int .i64 task,.int .i64 fuel] w fun e w'=>e=.returned (.tuple #[])∧ML base P A w' m (S.begin task fuel) { L with sv:=.slice none 0 0,bl:=[] }∧Fr (fun x=>x=m) w w':=by
 refine (begin_c h.row task fuel).mono ?_;rintro e w' ⟨rfl,h1,h2⟩;refine ⟨rfl,?_,h2⟩;exact h.upStack (sv':=.slice none 0 0) (bl':=[]) (st':=[]) h1 h2 (Own.nil _ _ _) (fun x hx=>by cases hx) rfl List.nodup_nil (fun x hx=>by cases hx) (fun i b c hb=>by simp at hb)
theorem FewB.begin {fuel:Int} (h:FewB S fuel) (task:Int) {S':St} (k:Kept 1 (S.begin task fuel) S'):Few S':=by
 obtain ⟨h1,h2,h3⟩:=h;obtain ⟨k1,k2,k3,k4⟩:=k;simp only [St.begin,List.length_nil] at k1 k2 k3 k4;unfold Few;rw [k4];omega
theorem poll_m (h:MInv base P A w m S) (hP:PrGood P kinds) (p:Bool) (a n:Int) (task fuel:Int) (hfew:FewB S fuel) :
 Calls Tryz.prog 15 #[.pointer (some ⟨m,0,none⟩),.agg #[.bool p,.int .i64 a,.int .i64 n],.int .i64 task,.int .i64 fuel] w fun e w' =>
  e=.returned (.tuple #[.agg #[.int .i64 (pollS P S ⟨p,a,n⟩ task fuel).1.1,.int .i64 (pollS P S ⟨p,a,n⟩ task fuel).1.2],.int .i64 (pollS P S ⟨p,a,n⟩ task fuel).2.fuel])∧Aft base P A w w' m (pollS P S ⟨p,a,n⟩ task fuel).2:=by
 obtain ⟨L,hL⟩:=h;have hm:=hL.mlt;obtain ⟨R,hR⟩:∃ R,R=pollS P S ⟨p,a,n⟩ task fuel:=⟨_,rfl⟩;rw [← hR];unfold pollS at hR;have hgok:Ok1 P kinds 1 (S.begin task fuel) (goOnS P (S.begin task fuel) ⟨p,a,n⟩ (Cl.new Wd.zero 0 0 0)):=goOnS_ok hP (by exact trivial) _ _ rfl (Or.inl rfl) (by simp [Cl.new]) (fun d l e=>by simp [St.begin] at e);have hG:=Lib.hid fun w1 (f:ML base P A w1 m (S.begin task fuel) { L with sv:=.slice none 0 0,bl:=[] })=>goOn_m f (by simp [St.begin]) hP.pr p a n (Cl.new Wd.zero 0 0 0) rfl (by simp [Cl.new]) none 0 0;generalize goOnS P (S.begin task fuel) ⟨p,a,n⟩ (Cl.new Wd.zero 0 0 0)=g at *;obtain ⟨o,Sg⟩:=g;simp only at hR hgok hG;have hfg:Sg.fuel=fuel:=hgok.1.fuel;have hFew:=hfew.begin task hgok.1;simp only at hFew;have HR:=Lib.hid hR;have HH:=Lib.hid (And.intro hL (And.intro hP (And.intro hgok (And.intro hfg hFew))));clear hL hP hfew hR hgok hfg hFew;have hn1:¬ m=w.heap.size:=by omega
 have hn2:¬ m=w.heap.size+1:=by omega
 go_enter Tryz.func15,Tryz.ntmps15
 go_wp2_with fail
 have hf0:Fr Non w ((w.alloc (.cells #[.bool p,.int .i64 a,.int .i64 n] 40)).alloc (.cells #[.int .i64 0,.int .i64 0] 44)):=by exact fx
 have hrf:Row ((w.alloc (.cells #[.bool p,.int .i64 a,.int .i64 n] 40)).alloc (.cells #[.int .i64 0,.int .i64 0] 44)) w.heap.size 40 [.bool p,.int .i64 a,.int .i64 n]:=(Row.new' rfl).alloc _;have hrb:Row ((w.alloc (.cells #[.bool p,.int .i64 a,.int .i64 n] 40)).alloc (.cells #[.int .i64 0,.int .i64 0] 44)) (w.heap.size+1) 44 [.int .i64 0,.int .i64 0]:=Row.new' (by simp);have hs0:((w.alloc (.cells #[.bool p,.int .i64 a,.int .i64 n] 40)).alloc (.cells #[.int .i64 0,.int .i64 0] 44)).heap.size=w.heap.size+1+1:=by simp
 refine (begin_m (HH.out.1.frN hf0) task fuel).mono ?_;generalize (w.alloc (.cells #[.bool p,.int .i64 a,.int .i64 n] 40)).alloc (.cells #[.int .i64 0,.int .i64 0] 44)=W at *;rintro e1 w1 ⟨rfl,hM1,hf1⟩;have hrf1:=hf1.row hrf (by omega);have hrb1:=hf1.row hrb (by omega);have hs1:=hf1.size;have hnA:¬ A w.heap.size∧¬ A (w.heap.size+1):=⟨fun e=>by have:=HH.out.1.lt _ e;omega,fun e=>by have:=HH.out.1.lt _ e;omega⟩;have H1:=Lib.hid (And.intro hM1 (And.intro hf1 (And.intro hrf1 (And.intro hrb1 (And.intro hf0 hnA)))));obtain ⟨q0,q1,q2,qz⟩:=row3 hrf1;clear hM1 hf1 hrf1 hrb1 hrf hrb hf0 hnA;go_wp2_with fail
 have hG2:=hG.out w1 H1.out.1;rw [Cl.new_lit] at hG2;refine hG2.mono ?_;rintro e2 w2 ⟨v,rfl,hres,A2,hI2,hA2,hF2⟩;have hnA2:¬ A2 w.heap.size∧¬ A2 (w.heap.size+1):=⟨fun e=>by rcases hA2 _ e with h|h;exact H1.out.2.2.2.2.2.1 h;omega,fun e=>by rcases hA2 _ e with h|h;exact H1.out.2.2.2.2.2.2 h;omega⟩;have hrf2:=hF2.row H1.out.2.2.1 H1.out.2.2.2.2.2.1;have hrb2:=hF2.row H1.out.2.2.2.1 H1.out.2.2.2.2.2.2;have hF12:Fr A W w2:=(H1.out.2.1.mono fun x _ hx=>hx ▸ HH.out.1.om).trans hF2;have hrun:=Lib.hid (run_m hI2 HH.out.2.1 HH.out.2.2.2.2 hres HH.out.2.2.1.2);have hs2:=hF2.size;have H2:=Lib.hid (And.intro hrf2 (And.intro hrb2 (And.intro hF12 (And.intro hnA2 (show ∀ x,A2 x→A x∨W.heap.size≤x from fun x hx=>(hA2 x hx).imp id (fun e=>Nat.le_trans hs1 e))))));clear hG2 hres hI2 hA2 hF2 hrf2 hrb2 hF12 hnA2 q0 q1 q2 qz;go_wp2_with fail
 refine hrun.out.mono ?_;have hfg:=HH.out.2.2.2.1;rw [hfg];have hR:=HR.out;generalize runS P fuel.toNat o Sg=rr at *;obtain ⟨⟨k,j⟩,S3⟩:=rr;simp only at hR;rw [offS_eq] at hR;rintro e3 w3 ⟨rfl,A3,hI3,hA3,hF3⟩;have hnA3:¬ A3 w.heap.size∧¬ A3 (w.heap.size+1):=⟨fun e=>by rcases hA3 _ e with h|h;exact H2.out.2.2.2.1.1 h;omega,fun e=>by rcases hA3 _ e with h|h;exact H2.out.2.2.2.1.2 h;omega⟩;have hrf3:=hF3.row H2.out.1 H2.out.2.2.2.1.1;have hrb3:=hF3.row H2.out.2.1 H2.out.2.2.2.1.2;have hF13:Fr A W w3:=H2.out.2.2.1.then hF3 (fun x hx e=>by rcases H2.out.2.2.2.2 x e with h|h;exact h;omega)
 have hA3':∀ x,A3 x→A x∨W.heap.size≤x:=fun x hx=>by
  rcases hA3 x hx with h|h
  · exact H2.out.2.2.2.2 x h
  · exact Or.inr (by omega)
 have hs3:=hF3.size;obtain ⟨L3,hM3⟩:=hI3;have c7:=hM3.c7;have hm3:=hM3.mlt;obtain ⟨q0,q1,q2,qz⟩:=row3 hrf3;obtain ⟨b0,b1,bz⟩:=row2 hrb3;have hWord:=Lib.hid fun w4 (f:Fr Non w3 w4)=>word_m (hM3.frN f) p a (offn p n 1);generalize S3.mem.word ⟨p,a,offn p n 1⟩=ww at *;obtain ⟨wn,we⟩:=ww;simp only at hWord hR;have HR:=Lib.hid hR;have hOff:=Lib.hid fun w4=>off_c w4 p a n 1;have H3:=Lib.hid (And.intro hM3 (And.intro hF13 (And.intro hA3' (And.intro hnA3 (And.intro hrf3 hrb3)))));clear hR hfg hM3 hF13 hA3' hA3 hF3 hnA3 hrf3 hrb3 hrun;have hwl:w.heap.size<w3.heap.size:=by omega
 have hwl1:w.heap.size+1<w3.heap.size:=by omega
 have hk:(k=2∧(k == 2)=true)∨(k≠2∧(k == 2)=false):=by by_cases h:k=2 <;> simp [h]
 rcases hk with ⟨rfl,hk⟩|⟨hk0,hk⟩
 · go_wp2_with fail
   have fV:Fr Non w3 (w3.alloc (.cells #[.int .i64 2,.int .i64 j] 44)):=(Fr.refl _ _).alloc _;have rV:Row (w3.alloc (.cells #[.int .i64 2,.int .i64 j] 44)) w3.heap.size 44 [.int .i64 2,.int .i64 j]:=Row.new' rfl;have sV:(w3.alloc (.cells #[.int .i64 2,.int .i64 j] 44)).heap.size=w3.heap.size+1:=by simp
   generalize w3.alloc (.cells #[.int .i64 2,.int .i64 j] 44)=V at *;generalize hg:w3.heap.size=g at *;obtain ⟨p0,p1,p2,pz⟩:=row3 (fV.row H3.out.2.2.2.2.1 id);have HV0:=Lib.hid (And.intro fV rV);clear fV rV b0 b1 bz q0 q1 q2 qz c7;refine (hOff.out V).mono ?_;rintro e4 w4 ⟨rfl,hf4⟩;have s4:=hf4.size;have HV4:=Lib.hid (And.intro (HV0.out.1.trans hf4) (hf4.row HV0.out.2 id));clear hf4 p0 p1 p2 pz;go_wp2_with fail
   refine (hWord.out w4 HV4.out.1).mono ?_;rintro e5 w5 ⟨rfl,hf5⟩;have s5:=hf5.size;have hf35:=HV4.out.1.trans hf5;have r5:=hf5.row HV4.out.2 id;obtain ⟨b0',b1',bz'⟩:=row2 (hf35.row H3.out.2.2.2.2.2 id);have c7V:=(H3.out.1.frN hf35).c7;obtain ⟨g0,g1,gz⟩:=row2 r5;have hg5:=r5.lt;have hm5:m<w5.heap.size:=by omega
   have HV5:=Lib.hid (And.intro hf35 r5);clear hf5 hf35 r5;have hcase:(we=0∧(we == 0)=true)∨(we≠0∧(we == 0)=false∧(we != 0)=true):=by by_cases h:we=0 <;> simp [h]
   rcases hcase with ⟨rfl,hwe⟩|⟨hne,hwe,hwn⟩
   · go_wp2_with fail
     have r6:Row (w5.setCell ⟨g,1,none⟩ (.int .i64 wn)) g 44 [.int .i64 2,.int .i64 wn]:=HV5.out.2.set_same 1 _;have f6:Fr (fun x=>x=g) w5 (w5.setCell ⟨g,1,none⟩ (.int .i64 wn)):=Fr.set1 _ _ _ _;have s6:(w5.setCell ⟨g,1,none⟩ (.int .i64 wn)).heap.size=w5.heap.size:=by simp
     have c76:=f6.cell c7V (by omega);obtain ⟨b0'',b1'',bz''⟩:=row2 (f6.row (HV5.out.1.row H3.out.2.2.2.2.2 id) (by omega));have hA6:Aft base P A3 w3 (w5.setCell ⟨g,1,none⟩ (.int .i64 wn)) m S3:=Aft.box (wc:=w5) HV5.out.1 (ML.aftN (H3.out.1.frN HV5.out.1) (Fr.refl _ _)) f6 (fun x hx=>by omega) (fun x hx=>by have:=H3.out.1.lt x hx;omega) (by have:=H3.out.1.base_le;omega);generalize w5.setCell ⟨g,1,none⟩ (.int .i64 wn)=V6 at *;obtain ⟨g0',g1',gz'⟩:=row2 r6;have HV6:=Lib.hid (And.intro r6 hA6);have hgV:g<V6.heap.size:=by omega
     have hmV:m<V6.heap.size:=by omega
     clear r6 f6 hA6 g0 g1 gz b0' b1' bz' c7V;rename_i _;have cW:=@Mix.cls_drew V6 [g,m];refine Mix.wp_region_mix [0,4] [(1,0),(0,1),(0,2),(0,3),(1,4),(2,5),(0,6)] (fun U=>∃ g',U=Mix.upon V6 [g,m] g') (by kernel_rfl) (by kernel_rfl) cW ?_;clear cW;repeat (first|((first|refine Mix.qa ?_|refine Mix.qb ?_);intro K hK;simp only [nA,nB,nC];go_big_quiet_op;go_big_quiet_on)|refine Mix.qc ?_|refine Mix.qd ?_)
     refine Mix.S_eff rfl rfl ?_;intro K hK;simp only [nA,nB,nC];go_simp;refine hK _ _ ⟨Mix.cls_fr (D:=fun x=>x=w.heap.size+1) (by exact (((Fr.set1 _ _ _ _).trans (Fr.set1 _ _ _ _)).drew).drewl) (by simp;omega),?_⟩;clear hK K;repeat (first|((first|refine Mix.qa ?_|refine Mix.qb ?_);intro K hK;simp only [nA,nB,nC];go_big_quiet_op;go_big_quiet_on)|refine Mix.qc ?_|refine Mix.qd ?_)
     refine Mix.S_done ?_;go_wp2_with fail
     have hR:=HR.out;rw [if_pos (by first|trivial|rfl|simp),if_neg (by simp)] at hR;rw [hR];refine bodyPost_ret (v:=.tuple #[.agg #[.int .i64 2,.int .i64 wn],.int .i64 S3.fuel]) (by simp [results,Tryz.results15,go_sem,b0'',b1'']) rfl ⟨rfl,?_⟩;exact Aft.box H1.out.2.2.2.2.1 (Aft.step H3.out.2.2.1 H3.out.2.1 HV6.out.2) (E:=fun x=>x=w.heap.size+1) (by exact ((Fr.set1 _ _ _ _).trans (Fr.set1 _ _ _ _)).drew) (fun x hx=>by omega) HH.out.1.lt HH.out.1.base_le
   · have hE:=Lib.hid fun w1=>failed_r w1 we hne;go_wp2_with fail
     have cW:=@Mix.cls_drew w5 [m];refine Mix.wp_region_mix [7] [(0,0),(0,4),(0,5),(0,6),(1,7),(2,1),(0,2),(2,3),(2,8),(0,9)] (fun U=>∃ g',U=Mix.upon w5 [m] g') (by kernel_rfl) (by kernel_rfl) cW ?_;clear cW;repeat (first|((first|refine Mix.qa ?_|refine Mix.qb ?_);intro K hK;simp only [nA,nB,nC];go_big_quiet_op;go_big_quiet_on)|refine Mix.qc ?_|refine Mix.qd ?_)
     refine Mix.S_eff rfl rfl ?_;intro K hK;simp only [nA,nB,nC];go_simp;refine (hE.out _).mono ?_;rintro e6 w6 ⟨v6,rfl,hres,hf6⟩;refine hK _ _ ⟨Mix.cls_fr (D:=Non) hf6 (by simp [Non];omega),?_⟩;clear hK K;have hf56:Fr Non w5 w6:=Fr.trans (by exact (Fr.refl _ _).drew) hf6;have s6:=hf56.size;have herr:errS we=some (if we=10 then (5,0) else (6,we)):=by unfold errS;rw [if_neg hne]
     rw [herr] at hres;rcases hres with ⟨e,_⟩|⟨rb,k6,n6,e,rfl,hrow6,hlo⟩
     · cases e
     · obtain ⟨d0,d1,dz⟩:=row2 hrow6;obtain ⟨b0'',b1'',bz''⟩:=row2 ((HV5.out.1.trans hf56).row H3.out.2.2.2.2.2 id);have hd6:=hrow6.lt;have HV6:=Lib.hid (HV5.out.1.trans hf56);have hm6:m<w6.heap.size:=by omega
       clear hf6 hf56 hrow6 b0' b1' bz' g0 g1 gz;repeat (first|((first|refine Mix.qa ?_|refine Mix.qb ?_);intro K hK;simp only [nA,nB,nC];go_big_quiet_op;go_big_quiet_on)|refine Mix.qc ?_|refine Mix.qd ?_)
       refine Mix.S_eff rfl rfl ?_;intro K hK;simp only [nA,nB,nC];go_simp;refine hK _ _ ⟨Mix.cls_fr (D:=Non) (by exact Fr.refl _ _) (by simp [Non];omega),?_⟩;clear hK K;repeat (first|((first|refine Mix.qa ?_|refine Mix.qb ?_);intro K hK;simp only [nA,nB,nC];go_big_quiet_op;go_big_quiet_on)|refine Mix.qc ?_|refine Mix.qd ?_)
       refine Mix.S_eff rfl rfl ?_;intro K hK;simp only [nA,nB,nC];go_simp;refine hK _ _ ⟨Mix.cls_fr (D:=fun x=>x=w.heap.size+1) (by exact (Fr.set1 _ _ _ _).trans (Fr.set1 _ _ _ _)) (by simp;omega),?_⟩;clear hK K;repeat (first|((first|refine Mix.qa ?_|refine Mix.qb ?_);intro K hK;simp only [nA,nB,nC];go_big_quiet_op;go_big_quiet_on)|refine Mix.qc ?_|refine Mix.qd ?_)
       refine Mix.S_done ?_;go_wp2_with fail
       have hR:=HR.out;rw [if_pos (by first|trivial|rfl|simp),if_pos hne,herr,e] at hR;simp only [Option.getD_some] at hR;rw [hR];refine bodyPost_ret (v:=.tuple #[.agg #[.int .i64 k6,.int .i64 n6],.int .i64 S3.fuel]) (by simp [results,Tryz.results15,go_sem,b0'',b1'']) rfl ⟨rfl,?_⟩;exact Aft.box H1.out.2.2.2.2.1 ⟨A3,⟨L3,H3.out.1.frN HV6.out⟩,H3.out.2.2.1,H3.out.2.1.trans (HV6.out.mono fun _ _ h=>h.elim)⟩ (E:=fun x=>x=w.heap.size+1) (by exact (Fr.set1 _ _ _ _).trans (Fr.set1 _ _ _ _)) (fun x hx=>by omega) HH.out.1.lt HH.out.1.base_le
 · go_wp2_with fail
   have fV:Fr Non w3 (w3.alloc (.cells #[.int .i64 k,.int .i64 j] 44)):=(Fr.refl _ _).alloc _;have rV:Row (w3.alloc (.cells #[.int .i64 k,.int .i64 j] 44)) w3.heap.size 44 [.int .i64 k,.int .i64 j]:=Row.new' rfl;have sV:(w3.alloc (.cells #[.int .i64 k,.int .i64 j] 44)).heap.size=w3.heap.size+1:=by simp
   have c7V:=fV.cell c7 id;obtain ⟨b0',b1',bz'⟩:=row2 (fV.row H3.out.2.2.2.2.2 id);generalize w3.alloc (.cells #[.int .i64 k,.int .i64 j] 44)=V at *;generalize hg:w3.heap.size=g at *;obtain ⟨g0,g1,gz⟩:=row2 rV;have hgV:=rV.lt;have hmV:m<V.heap.size:=by omega
   have HV:=Lib.hid fV;clear fV rV b0 b1 bz q0 q1 q2 qz c7;have cW:=@Mix.cls_drew V [g,m];refine Mix.wp_region_mix [0,4] [(1,0),(0,1),(0,2),(0,3),(1,4),(2,5),(0,6)] (fun U=>∃ g',U=Mix.upon V [g,m] g') (by kernel_rfl) (by kernel_rfl) cW ?_;clear cW;repeat (first|((first|refine Mix.qa ?_|refine Mix.qb ?_);intro K hK;simp only [nA,nB,nC];go_big_quiet_op;go_big_quiet_on)|refine Mix.qc ?_|refine Mix.qd ?_)
   refine Mix.S_eff rfl rfl ?_;intro K hK;simp only [nA,nB,nC];go_simp;refine hK _ _ ⟨Mix.cls_fr (D:=fun x=>x=w.heap.size+1) (by exact (((Fr.set1 _ _ _ _).trans (Fr.set1 _ _ _ _)).drew).drewl) (by simp;omega),?_⟩;clear hK K;repeat (first|((first|refine Mix.qa ?_|refine Mix.qb ?_);intro K hK;simp only [nA,nB,nC];go_big_quiet_op;go_big_quiet_on)|refine Mix.qc ?_|refine Mix.qd ?_)
   refine Mix.S_done ?_;go_wp2_with fail
   have hR:=HR.out;rw [if_neg hk0] at hR;rw [hR];refine bodyPost_ret (v:=.tuple #[.agg #[.int .i64 k,.int .i64 j],.int .i64 S3.fuel]) (by simp [results,Tryz.results15,go_sem,b0',b1']) rfl ⟨rfl,?_⟩;exact Aft.box H1.out.2.2.2.2.1 ⟨A3,⟨L3,H3.out.1.frN HV.out⟩,H3.out.2.2.1,H3.out.2.1.trans (HV.out.mono fun _ _ h=>h.elim)⟩ (E:=fun x=>x=w.heap.size+1) (by exact ((Fr.set1 _ _ _ _).trans (Fr.set1 _ _ _ _)).drew) (fun x hx=>by omega) HH.out.1.lt HH.out.1.base_le
end
section
variable {base:Nat} {P:Pr} {kinds:List Int} {A:Nat→Prop} {w:World} {m:Nat} {S:St} {L:Lay}
theorem cancel_m (h:MInv base P A w m S) (hP:PrGood P kinds) (p:Bool) (a n:Int) (task fuel:Int) (hfew:FewB S fuel) :
 Calls Tryz.prog 17 #[.pointer (some ⟨m,0,none⟩),.agg #[.bool p,.int .i64 a,.int .i64 n],.int .i64 task,.int .i64 fuel] w fun e w' =>
  e=.returned (.tuple #[.agg #[.int .i64 (cancelS P S ⟨p,a,n⟩ task fuel).1.1,.int .i64 (cancelS P S ⟨p,a,n⟩ task fuel).1.2],.int .i64 (cancelS P S ⟨p,a,n⟩ task fuel).2.fuel])∧Aft base P A w w' m (cancelS P S ⟨p,a,n⟩ task fuel).2:=by
 obtain ⟨L,hL⟩:=h;have hm:=hL.mlt;obtain ⟨R,hR⟩:∃ R,R=cancelS P S ⟨p,a,n⟩ task fuel:=⟨_,rfl⟩;rw [← hR];unfold cancelS at hR;have hgok:Ok1 P kinds 1 (S.begin task fuel) (stopS P (S.begin task fuel) ⟨p,a,n⟩):=stopS_ok hP (by exact trivial) _;have hG:=Lib.hid fun w1 (f:ML base P A w1 m (S.begin task fuel) { L with sv:=.slice none 0 0,bl:=[] })=>stop_m f (by simp [St.begin]) hP.pr p a n;generalize stopS P (S.begin task fuel) ⟨p,a,n⟩=g at *;obtain ⟨o,Sg⟩:=g;simp only at hR hgok hG;have hfg:Sg.fuel=fuel:=hgok.1.fuel;have hFew:=hfew.begin task hgok.1;simp only at hFew;have HR:=Lib.hid hR;have HH:=Lib.hid (And.intro hL (And.intro hP (And.intro hgok (And.intro hfg hFew))));clear hL hP hfew hR hgok hfg hFew;have hn1:¬ m=w.heap.size:=by omega
 have hn2:¬ m=w.heap.size+1:=by omega
 go_enter Tryz.func17,Tryz.ntmps17
 go_wp2_with fail
 have hf0:Fr Non w ((w.alloc (.cells #[.bool p,.int .i64 a,.int .i64 n] 40)).alloc (.cells #[.int .i64 0,.int .i64 0] 44)):=by exact fx
 have hrf:Row ((w.alloc (.cells #[.bool p,.int .i64 a,.int .i64 n] 40)).alloc (.cells #[.int .i64 0,.int .i64 0] 44)) w.heap.size 40 [.bool p,.int .i64 a,.int .i64 n]:=(Row.new' rfl).alloc _;have hrb:Row ((w.alloc (.cells #[.bool p,.int .i64 a,.int .i64 n] 40)).alloc (.cells #[.int .i64 0,.int .i64 0] 44)) (w.heap.size+1) 44 [.int .i64 0,.int .i64 0]:=Row.new' (by simp);have hs0:((w.alloc (.cells #[.bool p,.int .i64 a,.int .i64 n] 40)).alloc (.cells #[.int .i64 0,.int .i64 0] 44)).heap.size=w.heap.size+1+1:=by simp
 refine (begin_m (HH.out.1.frN hf0) task fuel).mono ?_;generalize (w.alloc (.cells #[.bool p,.int .i64 a,.int .i64 n] 40)).alloc (.cells #[.int .i64 0,.int .i64 0] 44)=W at *;rintro e1 w1 ⟨rfl,hM1,hf1⟩;have hrf1:=hf1.row hrf (by omega);have hrb1:=hf1.row hrb (by omega);have hs1:=hf1.size;have hnA:¬ A w.heap.size∧¬ A (w.heap.size+1):=⟨fun e=>by have:=HH.out.1.lt _ e;omega,fun e=>by have:=HH.out.1.lt _ e;omega⟩;have H1:=Lib.hid (And.intro hM1 (And.intro hf1 (And.intro hrf1 (And.intro hrb1 (And.intro hf0 hnA)))));obtain ⟨q0,q1,q2,qz⟩:=row3 hrf1;clear hM1 hf1 hrf1 hrb1 hrf hrb hf0 hnA;go_wp2_with fail
 have hG2:=hG.out w1 H1.out.1;refine hG2.mono ?_;rintro e2 w2 ⟨v,rfl,hres,A2,hI2,hA2,hF2⟩;have hnA2:¬ A2 w.heap.size∧¬ A2 (w.heap.size+1):=⟨fun e=>by rcases hA2 _ e with h|h;exact H1.out.2.2.2.2.2.1 h;omega,fun e=>by rcases hA2 _ e with h|h;exact H1.out.2.2.2.2.2.2 h;omega⟩;have hrf2:=hF2.row H1.out.2.2.1 H1.out.2.2.2.2.2.1;have hrb2:=hF2.row H1.out.2.2.2.1 H1.out.2.2.2.2.2.2;have hF12:Fr A W w2:=(H1.out.2.1.mono fun x _ hx=>hx ▸ HH.out.1.om).trans hF2;have hrun:=Lib.hid (run_m hI2 HH.out.2.1 HH.out.2.2.2.2 hres HH.out.2.2.1.2);have hs2:=hF2.size;have H2:=Lib.hid (And.intro hrf2 (And.intro hrb2 (And.intro hF12 (And.intro hnA2 (show ∀ x,A2 x→A x∨W.heap.size≤x from fun x hx=>(hA2 x hx).imp id (fun e=>Nat.le_trans hs1 e))))));clear hG2 hres hI2 hA2 hF2 hrf2 hrb2 hF12 hnA2 q0 q1 q2 qz;go_wp2_with fail
 refine hrun.out.mono ?_;have hfg:=HH.out.2.2.2.1;rw [hfg];have hR:=HR.out;generalize runS P fuel.toNat o Sg=rr at *;obtain ⟨⟨k,j⟩,S3⟩:=rr;rintro e3 w3 ⟨rfl,A3,hI3,hA3,hF3⟩;have hnA3:¬ A3 w.heap.size∧¬ A3 (w.heap.size+1):=⟨fun e=>by rcases hA3 _ e with h|h;exact H2.out.2.2.2.1.1 h;omega,fun e=>by rcases hA3 _ e with h|h;exact H2.out.2.2.2.1.2 h;omega⟩;have hrf3:=hF3.row H2.out.1 H2.out.2.2.2.1.1;have hrb3:=hF3.row H2.out.2.1 H2.out.2.2.2.1.2;have hF13:Fr A W w3:=H2.out.2.2.1.then hF3 (fun x hx e=>by rcases H2.out.2.2.2.2 x e with h|h;exact h;omega)
 have hA3':∀ x,A3 x→A x∨W.heap.size≤x:=fun x hx=>by
  rcases hA3 x hx with h|h
  · exact H2.out.2.2.2.2 x h
  · exact Or.inr (by omega)
 have hs3:=hF3.size;obtain ⟨L3,hM3⟩:=hI3;have c7:=hM3.c7;have hm3:=hM3.mlt;obtain ⟨q0,q1,q2,qz⟩:=row3 hrf3;obtain ⟨b0,b1,bz⟩:=row2 hrb3;have HR:=Lib.hid hR;have H3:=Lib.hid (And.intro hM3 (And.intro hF13 (And.intro hA3' (And.intro hnA3 (And.intro hrf3 hrb3)))));clear hR hfg hM3 hF13 hA3' hA3 hF3 hnA3 hrf3 hrb3 hrun;go_wp2_with fail
 have fV:Fr Non w3 (w3.alloc (.cells #[.int .i64 k,.int .i64 j] 44)):=(Fr.refl _ _).alloc _;have rV:Row (w3.alloc (.cells #[.int .i64 k,.int .i64 j] 44)) w3.heap.size 44 [.int .i64 k,.int .i64 j]:=Row.new' rfl;have sV:(w3.alloc (.cells #[.int .i64 k,.int .i64 j] 44)).heap.size=w3.heap.size+1:=by simp
 have c7V:=fV.cell c7 id;obtain ⟨b0',b1',bz'⟩:=row2 (fV.row H3.out.2.2.2.2.2 id);generalize w3.alloc (.cells #[.int .i64 k,.int .i64 j] 44)=V at *;generalize hg:w3.heap.size=g at *;obtain ⟨g0,g1,gz⟩:=row2 rV;have hgV:=rV.lt;have hmV:m<V.heap.size:=by omega
 have HV:=Lib.hid fV;clear fV rV b0 b1 bz q0 q1 q2 qz c7;have cW:=@Mix.cls_drew V [g,m];refine Mix.wp_region_mix [0,4] [(1,0),(0,1),(0,2),(0,3),(1,4),(2,5),(0,6)] (fun U=>∃ g',U=Mix.upon V [g,m] g') (by kernel_rfl) (by kernel_rfl) cW ?_;clear cW;repeat (first|((first|refine Mix.qa ?_|refine Mix.qb ?_);intro K hK;simp only [nA,nB,nC];go_big_quiet_op;go_big_quiet_on)|refine Mix.qc ?_|refine Mix.qd ?_)
 refine Mix.S_eff rfl rfl ?_;intro K hK;simp only [nA,nB,nC];go_simp;refine hK _ _ ⟨Mix.cls_fr (D:=fun x=>x=w.heap.size+1) (by exact (((Fr.set1 _ _ _ _).trans (Fr.set1 _ _ _ _)).drew).drewl) (by simp;omega),?_⟩;clear hK K;repeat (first|((first|refine Mix.qa ?_|refine Mix.qb ?_);intro K hK;simp only [nA,nB,nC];go_big_quiet_op;go_big_quiet_on)|refine Mix.qc ?_|refine Mix.qd ?_)
 refine Mix.S_done ?_;go_wp2_with fail
 have hR:=HR.out;rw [hR];refine bodyPost_ret (v:=.tuple #[.agg #[.int .i64 k,.int .i64 j],.int .i64 S3.fuel]) (by simp [results,Tryz.results17,go_sem,b0',b1']) rfl ⟨rfl,?_⟩;exact Aft.box H1.out.2.2.2.2.1 ⟨A3,⟨L3,H3.out.1.frN HV.out⟩,H3.out.2.2.1,H3.out.2.1.trans (HV.out.mono fun _ _ h=>h.elim)⟩ (E:=fun x=>x=w.heap.size+1) (by exact ((Fr.set1 _ _ _ _).trans (Fr.set1 _ _ _ _)).drew) (fun x hx=>by omega) HH.out.1.lt HH.out.1.base_le
end
section
variable {base:Nat} {P:Pr} {kinds:List Int} {A:Nat→Prop} {w w':World} {m:Nat} {S:St} {L:Lay}
theorem ML.upEv (h:ML base P A w m S L) {l:List (Int × Int)} (f:Fr (fun x=>x=L.eb) w w') (he:EvAt w' L.eb l):ML base P A w' m { S with ev:=l } L:=by
 have hH:High base (fun x=>x=L.eb):=fun x hx=>h.high x (hx ▸ h.oe);refine { high:=h.high,lt:=fun x hx=>Nat.lt_of_lt_of_le (h.lt x hx) f.size,row:=f.row h.row h.ne_me,funs:=h.funs.fr f hH,cos:=h.cos.fr f hH,mem:=h.mem.fr f (fun x hx e=>(h.sep x hx).2.1 e),ev:=he,told:=h.told.fr f ?_,stk:=h.stk.fr f ?_,len:=h.len,nodup:=h.nodup,cls:=fun i b c hb hc=>(h.cls i b c hb hc).fr f hH (h.bl_e (List.mem_of_getElem? hb)),om:=h.om,oe:=h.oe,od:=h.od,ot:=h.ot,os:=h.os,ob:=h.ob,sep:=h.sep }
 · rintro x hx rfl;exact h.told.ne_map h.ev hx
 · rintro x hx rfl;exact h.stk.ne_map h.ev hx
theorem complete_m (h:MInv base P A w m S) (k n:Int) :
 Calls Tryz.prog 19 #[.pointer (some ⟨m,0,none⟩),.int .i64 k,.int .i64 n] w fun e w'=>e=.returned (.tuple #[])∧Aft base P A w w' m (completeS S k n):=by
 obtain ⟨L,h⟩:=h;have hm:=h.mlt;have c3:w.cell? ⟨m,3,none⟩=some (.map (some L.eb)):=h.row.cell rfl;have hrun:=run_lookup_ok (P:=Tryz.prog) h.ev.map Tryz.underlying81 Tryz.underlying3 (.int .i64 0) (by kernel_rfl) k;rw [mfind_ev] at hrun;obtain ⟨w1,hup,hmap,hf⟩:=run_update_map (P:=Tryz.prog) h.ev.map Tryz.underlying81 Tryz.underlying3 k (.int .i64 n);unfold completeS;cases hev:evOf S.ev k with
 | none =>
  rw [hev] at hrun;simp only [Option.map_none,Option.getD_none,Option.isSome_none] at hrun;rw [mset_ev _ _ _ hev] at hmap;have HH:=Lib.hid (And.intro h (And.intro (EvAt.of hmap) hf));clear h hmap hf hev;go_enter Tryz.func19,Tryz.ntmps19
  go_wp2_with fail
  refine bodyPost_end (results_none rfl _ _ _) rfl ?_;obtain ⟨h,he,hf⟩:=HH.out;refine ⟨rfl,?_⟩;exact ⟨A,⟨L,h.upEv hf he⟩,fun x hx=>Or.inl hx,hf.mono fun x _ hx=>hx ▸ h.oe⟩
 | some v =>
  rw [hev] at hrun;simp only [Option.map_some,Option.getD_some,Option.isSome_some] at hrun;have HH:=Lib.hid h;clear h hmap hf hup hev;go_enter Tryz.func19,Tryz.ntmps19
  go_wp2_with fail
  refine bodyPost_end (results_none rfl _ _ _) rfl ?_;exact ⟨rfl,HH.out.aftN (by exact Fr.refl _ _)⟩
theorem live_m (h:MInv base P A w m S) :
 Calls Tryz.prog 23 #[.pointer (some ⟨m,0,none⟩)] w fun e w'=>e=.returned (.int .i64 (live S.mem.blocks))∧Fr Non w w':=by
 obtain ⟨L,h⟩:=h;exact mlive_c h.c2 h.mem
theorem told_m (h:MInv base P A w m S) :
 Calls Tryz.prog 22 #[.pointer (some ⟨m,0,none⟩)] w fun e w'=>∃ tv A',e=.returned tv∧Own w' tv 74 4 S.told.length (evs S.told)∧MInv base P A' w' m { S with told:=[] }∧(∀ x,A' x→A x∧tv.ownBlock≠some x)∧(∀ x,tv.ownBlock=some x→A x)∧Fr (fun x=>x=m) w w':=by
 obtain ⟨L,h⟩:=h;obtain ⟨tO,cap,e,_⟩:=h.told.form;have hr:=h.row;unfold Lay.cells at hr;rw [e] at hr;refine (told_c hr).mono ?_;rintro e1 w' ⟨rfl,h1,f⟩;have hH:=h.base_m;refine ⟨L.tv,fun x=>A x∧L.tv.ownBlock≠some x,by rw [e],h.told.fr f (fun x hx e=>h.tv_m (e ▸ hx)),⟨{ L with tv:=.slice none 0 0 },?_⟩,fun x hx=>hx,h.ot,f⟩;refine { high:=fun x hx=>h.high x hx.1,lt:=fun x hx=>Nat.lt_of_lt_of_le (h.lt x hx.1) f.size,row:=h1,funs:=h.funs.fr f hH,cos:=h.cos.fr f hH,mem:=h.mem.fr f (fun x hx e=>(h.sep x hx).1 e),ev:=h.ev.fr f (fun e=>h.ne_me e.symm),told:=Own.nil _ _ _,stk:=h.stk.fr f (fun x hx e=>h.sv_m (e ▸ hx)),len:=h.len,nodup:=h.nodup,cls:=fun i b c hb hc=>(h.cls i b c hb hc).fr f hH (h.bl_m (List.mem_of_getElem? hb)),om:=⟨h.om,h.tv_m⟩,oe:=⟨h.oe,h.told.ne_map h.ev⟩,od:=fun x hx=>⟨h.od x hx,(h.sep x hx).2.2.1⟩,ot:=fun x hx=>(by cases hx),os:=fun x hx=>⟨h.os x hx,fun e=>h.tv_sv x e hx⟩,ob:=fun x hx=>⟨h.ob x hx,h.bl_tv hx⟩,sep:=fun x hx=>?_ };obtain ⟨s1,s2,s3,s4,s5⟩:=h.sep x hx;exact ⟨s1,s2,fun e=>(by cases e),s4,s5⟩
end
def ArgsAt (w:World) (ao:Option Addr) (l:List Int):Prop:=∀ (i:Nat) (n:Int),l[i]?=some n→∃ b o,ao=some ⟨b,o,none⟩∧w.cell? ⟨b,o+i,none⟩=some (.int .i64 n)
theorem ArgsAt.fr {w w':World} {ao:Option Addr} {l:List Int} {E:Nat→Prop} (h:ArgsAt w ao l) (f:Fr E w w') (hE:0<l.length→∀ a,ao=some a→¬ E a.block):ArgsAt w' ao l:=fun i n hn=>by
 obtain ⟨b,o,e,hc⟩:=h i n hn;exact ⟨b,o,e,f.cell hc (hE (Nat.lt_of_le_of_lt (Nat.zero_le i) (List.getElem?_eq_some_iff.1 hn).1) _ e)⟩
theorem argsS_snoc (M:Mem) (p:Wd) (l:List Int) (n:Int):∀ i,argsS M p i (l ++ [n])=((argsS M p i l).store (offS p (3+(i+l.length:Nat))) (num n)).1:=by
 induction l generalizing M with
 | nil=>intro i;rfl
 | cons x l ih =>
  intro i;simp only [List.cons_append,argsS];rw [ih];simp only [List.length_cons];rw [show i+1+l.length=i+(l.length+1) by omega]
section
variable {base:Nat} {P:Pr} {kinds:List Int} {A:Nat→Prop} {w:World} {m:Nat} {S:St} {L:Lay}
theorem start_m (h:MInv base P A w m S) (hB:S.mem.blocks.length<1000000) (co:Int) (l:List Int) (hl:l.length≤1000000000∨∀ x∈P.cos,x.args≤1000000000) (ao:Option Addr) (cap:Nat) (hc:ArgsAt w ao l) (hA:0<l.length→∀ a,ao=some a→¬ A a.block∧a.block<w.heap.size) :
 Calls Tryz.prog 12 #[.pointer (some ⟨m,0,none⟩),.int .i64 co,.slice ao l.length cap] w fun e w' =>
  e=.returned (.tuple #[.agg #[.bool (startS P S co l).2.1.p,.int .i64 (startS P S co l).2.1.a,.int .i64 (startS P S co l).2.1.n],.agg #[.int .i64 (startS P S co l).2.2.1,.int .i64 (startS P S co l).2.2.2]])∧Aft base P A w w' m (startS P S co l).1:=by
 obtain ⟨L,h⟩:=h;have hm:=h.mlt;obtain ⟨R,hR⟩:∃ R,R=startS P S co l:=⟨_,rfl⟩;rw [← hR];unfold startS at hR;have c1:=h.c1;have HL:=Lib.hid hl;clear hl;have HH:=Lib.hid (And.intro h (And.intro hc hA));by_cases hco:co<0
 · have hd:decide (co<0)=true:=decide_eq_true hco;rw [if_pos (Or.inl hco)] at hR;have HR:=Lib.hid hR;clear h hc hA hR c1;go_enter Tryz.func12,Tryz.ntmps12
   go_wp2_with fail
   refine bodyPost_ret (v:=.tuple #[.agg #[.bool false,.int .i64 0,.int .i64 0],.agg #[.int .i64 6,.int .i64 1]]) (by simp [results,Tryz.results12,go_sem]) rfl ?_;rw [HR.out];exact ⟨rfl,HH.out.1.aftN (by exact fx)⟩
 · have hd:decide (co<0)=false:=decide_eq_false hco;obtain ⟨i,rfl⟩:=Int.eq_ofNat_of_zero_le (show 0≤co by omega);have hi0:¬ ((i:Int)<0):=by omega
   have hi00:(0:Int)≤(i:Int):=by omega
   by_cases hi:P.cos.length≤i
   · have hi1:(P.cos.length:Int)≤(i:Int):=by omega
     rw [if_pos (Or.inr (Or.inl hi1))] at hR;have HR:=Lib.hid hR;clear h hc hA hR;go_enter Tryz.func12,Tryz.ntmps12
     go_wp2_with fail
     refine bodyPost_ret (v:=.tuple #[.agg #[.bool false,.int .i64 0,.int .i64 0],.agg #[.int .i64 6,.int .i64 1]]) (by simp [results,Tryz.results12,go_sem]) rfl ?_;rw [HR.out];exact ⟨rfl,HH.out.1.aftN (by exact fx)⟩
   · have hi1:¬ (P.cos.length:Int)≤(i:Int):=by omega
     have hi2:(i:Int)<(P.cos.length:Int):=by omega
     have hil:i<P.cos.length:=by omega
     have hPc:P.co (i:Int)=P.cos[i]:=by unfold Pr.co;rw [Int.toNat_natCast,List.getD_eq_getElem?_getD,List.getElem?_eq_getElem hil];rfl
     obtain ⟨cb,co',e,hcc⟩:=h.cos (by omega);obtain ⟨_,_,_,_,g4⟩:=crs_get (List.getElem?_eq_getElem hil);have k4:=(hcc _ _ g4).2;rw [← Nat.add_assoc] at k4;rw [e] at c1;have hcb:=World.block_lt_of_cell? w _ k4;rw [hPc] at hR;generalize hxx:P.cos[i]=xx at *;by_cases hargs:(l.length:Int)=xx.args
     · have hl:l.length≤1000000000:=by
        rcases HL.out with h|h
        · exact h
        · have:=h xx (by rw [← hxx];exact List.getElem_mem _);omega
       have hae:((l.length:Int) == xx.args)=true:=by simp [hargs]
       have han:((l.length:Int) != xx.args)=false:=by simp [hargs]
       rw [if_neg (by omega)] at hR;have hF:=Lib.hid fun w1 (f:Fr Non w w1)=>frame_m (h.frN f) (i:=(i:Int)) hi00 hi2 (by omega);generalize frameS P S.mem (i:Int)=T at *;obtain ⟨M',⟨pp,pa,pn⟩,er⟩:=T;simp only at hF hR;have HR:=Lib.hid hR;rw [← hargs] at k4;clear h hc hA hR hcc g4 hPc hxx;go_enter Tryz.func12,Tryz.ntmps12
       go_wp2_with fail
       have hf0:Fr Non w ((w.alloc (.cells #[.bool false,.int .i64 0,.int .i64 0] 40)).alloc (.cells #[.int .i64 0,.int .i64 0] 44)):=by exact fx
       have r6:Row ((w.alloc (.cells #[.bool false,.int .i64 0,.int .i64 0] 40)).alloc (.cells #[.int .i64 0,.int .i64 0] 44)) w.heap.size 40 [.bool false,.int .i64 0,.int .i64 0]:=(Row.new' rfl).alloc _;have r7:Row ((w.alloc (.cells #[.bool false,.int .i64 0,.int .i64 0] 40)).alloc (.cells #[.int .i64 0,.int .i64 0] 44)) (w.heap.size+1) 44 [.int .i64 0,.int .i64 0]:=Row.new' (by simp);have hs0:((w.alloc (.cells #[.bool false,.int .i64 0,.int .i64 0] 40)).alloc (.cells #[.int .i64 0,.int .i64 0] 44)).heap.size=w.heap.size+1+1:=by simp
       refine (hF.out _ hf0).mono ?_;generalize (w.alloc (.cells #[.bool false,.int .i64 0,.int .i64 0] 40)).alloc (.cells #[.int .i64 0,.int .i64 0] 44)=W at *;rintro e1 w1 ⟨rfl,⟨A1,D1,hM1,hA1⟩,hf1⟩;have hs1:=hf1.size;have hLD:∀ x,L.Dm x→A x:=HH.out.1.od;have hLlt:=HH.out.1.lt;have n6:¬ L.Dm w.heap.size:=fun e=>by have:=hLlt _ (hLD _ e);omega
       have n7:¬ L.Dm (w.heap.size+1):=fun e=>by have:=hLlt _ (hLD _ e);omega
       have r61:=hf1.row r6 n6;have r71:=hf1.row r7 n7;have hFA:Fr A W w1:=hf1.mono fun x _ hx=>hLD x hx;have hD1A:∀ x,D1 x→A1 x:=hM1.od
       have m6:¬ D1 w.heap.size:=fun e=>by
        rcases hA1 _ (hD1A _ e) with h|h
        · have:=hLlt _ h;omega
        · omega
       have m7:¬ D1 (w.heap.size+1):=fun e=>by
        rcases hA1 _ (hD1A _ e) with h|h
        · have:=hLlt _ h;omega
        · omega
       have hmD:¬ D1 m:=fun e=>(hM1.sep _ e).1 rfl;have hm1:=hM1.mlt;have h61:=r61.lt;have h71:=r71.lt;have H1:=Lib.hid (And.intro hM1 (And.intro hA1 (And.intro hFA (And.intro r61 (And.intro r71 (And.intro hf0 (And.intro m6 (And.intro m7 hmD))))))));obtain ⟨a0,a1,a2,az⟩:=row3 r61;obtain ⟨b0,b1,bz⟩:=row2 r71;have c2:=hM1.c2;clear hM1 hA1 hf1 hFA r61 r71 r6 r7 hf0 n6 n7 m6 m7 hmD hLD hLlt hD1A k4 c1;have hcase:(er=0∧(er == 0)=true)∨(er≠0∧(er == 0)=false∧(er != 0)=true):=by by_cases h:er=0 <;> simp [h]
       rcases hcase with ⟨rfl,he⟩|⟨hne,he,hen⟩
       · go_wp2_with fail
         have rV:Row (w1.alloc (.cells #[.bool pp,.int .i64 pa,.int .i64 pn] 40)) w1.heap.size 40 [.bool pp,.int .i64 pa,.int .i64 pn]:=Row.new' rfl;have fV:Fr Non w1 (w1.alloc (.cells #[.bool pp,.int .i64 pa,.int .i64 pn] 40)):=(Fr.refl _ _).alloc _;have sV:(w1.alloc (.cells #[.bool pp,.int .i64 pa,.int .i64 pn] 40)).heap.size=w1.heap.size+1:=by simp
         generalize w1.alloc (.cells #[.bool pp,.int .i64 pa,.int .i64 pn] 40)=V at *;obtain ⟨hM1,hA1,hFA,r61,r71,hf0,m6,m7,hmD⟩:=H1.out;have ng:¬ D1 w1.heap.size:=fun e=>by have:=hM1.lt _ (hM1.od _ e);omega
         have hcV:ArgsAt V ao l:=((HH.out.2.1.fr hf0 (fun _ _ _ h=>h)).fr hFA (fun hl x hx e=>(HH.out.2.2 hl x hx).1 e)).fr fV (fun _ _ _ h=>h)
         have hnA:0<l.length→∀ y,ao=some y→¬ D1 y.block:=fun hl y hy e=>by
          rcases hA1 _ (hM1.od _ e) with h|h
          · exact (HH.out.2.2 hl y hy).1 h
          · have:=(HH.out.2.2 hl y hy).2;omega
         have HV:=Lib.hid (And.intro (hM1.frN fV) (And.intro (hFA.trans (fV.mono fun _ _ h=>h.elim)) (And.intro hcV (And.intro hnA (And.intro ng (And.intro (fV.row r61 id) (And.intro (fV.row r71 id) rV)))))));generalize w1.heap.size=g at *;clear hM1 hA1 hFA r61 r71 hf0 m6 m7 hmD ng hcV hnA rV fV a0 a1 a2 az b0 b1 bz c2
         go_loopw [55] (fun v55 wr=>∃ k:Nat,k≤l.length∧v55=.int .i64 k∧(∃ Ar,ML base P Ar wr m { S with mem:=argsS M' ⟨pp,pa,pn⟩ 0 (l.take k) } { L with Dm:=D1 }∧∀ x,Ar x→A1 x)∧Fr D1 V wr) (fun v55 _=>l.length - (intOf v55).toNat)
         case atStart=>exact ⟨0,Nat.zero_le _,rfl,⟨A1,by simpa [argsS] using HV.out.1,fun x hx=>hx⟩,Fr.refl _ _⟩
         case round =>
          obtain ⟨k,hk,rfl,⟨Ar,hMr,hAr⟩,hFr⟩:=hrel;have rr:=hFr.row HV.out.2.2.2.2.2.2.2 HV.out.2.2.2.2.1;have hsr:=hFr.size;obtain ⟨g0,g1,g2,gz⟩:=row3 rr;have hk0:(0:Int)≤(k:Int):=by omega
          by_cases hkl:k<l.length
          · have hk1:(k:Int)<(l.length:Int):=by omega
            obtain ⟨ab,aof,eao,hcell⟩:=HV.out.2.2.1 k l[k] (List.getElem?_eq_getElem hkl);have hcr:=hFr.cell hcell (HV.out.2.2.2.1 (by omega) _ eao);subst eao;have hw3:IntKind.i64.wrap (3+(k:Int))=3+(k:Int):=IntWalk.i64_in _ (by omega);have hw1:IntKind.i64.wrap ((k:Int)+1)=(k:Int)+1:=IntWalk.i64_in _ (by omega);have c2:=hMr.c2;have hmr:=hMr.mlt;have hgr:=rr.lt
            have hstep:argsS M' ⟨pp,pa,pn⟩ 0 (l.take (k+1))=((argsS M' ⟨pp,pa,pn⟩ 0 (l.take k)).store ⟨pp,pa,offn pp pn (3+(k:Int))⟩ ⟨false,0,l[k]⟩).1:=by
             rw [List.take_succ_eq_append_getElem hkl,argsS_snoc,offS_eq,List.length_take,Nat.min_eq_left (Nat.le_of_lt hkl),Nat.zero_add]
             rfl
            generalize l[k]=lk at *;have HX:=Lib.hid (And.intro hMr (And.intro hAr (And.intro hFr hstep)));clear hMr hAr hFr rr hcell hstep;go_wp2_with fail
            have cW:=@Mix.cls_drew wr [m,g];refine Mix.wp_region_mix [3,4] [(0,0),(0,1),(0,2),(1,3),(1,4),(0,5),(0,6),(0,8),(2,7),(2,9),(2,10)] (fun U=>∃ g',U=Mix.upon wr [m,g] g') (by kernel_rfl) (by kernel_rfl) cW ?_;clear cW;repeat (first|((first|refine Mix.qa ?_|refine Mix.qb ?_);intro K hK;simp only [nA,nB,nC];go_big_quiet_op;go_big_quiet_on)|refine Mix.qc ?_|refine Mix.qd ?_)
            refine Mix.S_eff rfl rfl ?_;intro K hK;simp only [nA,nB,nC];go_simp;refine (off_c _ pp pa pn (3+(k:Int))).mono ?_;rintro e1 w5 ⟨rfl,hf⟩;refine hK _ _ ⟨Mix.cls_fr (D:=Non) hf (by simp [Non];omega),?_⟩;clear hK K;have hf5:Fr Non wr w5:=Fr.trans (by exact (Fr.refl _ _).drew) hf;have hs5:=hf5.size;clear hf;refine Mix.S_eff rfl rfl ?_;intro K hK;simp only [nA,nB,nC];go_simp;refine (number_c _ lk).mono ?_;rintro e1 w6 ⟨rfl,hf⟩;refine hK _ _ ⟨Mix.cls_fr (D:=Non) hf (by simp [Non];omega),?_⟩;clear hK K;have hf6:Fr Non wr w6:=hf5.trans hf;have hs6:=hf6.size;clear hf hf5;have HF6:=Lib.hid hf6;clear hf6;refine Mix.S_eff rfl rfl ?_;intro K hK;simp only [nA,nB,nC];go_simp;refine (store_i (HX.out.1.mem.frN HF6.out) pp pa (offn pp pn (3+(k:Int))) false 0 lk).mono ?_;rintro e1 w7 ⟨rfl,hM7,hf7⟩;refine hK _ _ ⟨Mix.cls_fr (D:=D1) hf7 (by simp;exact ⟨⟨by omega,H1.out.2.2.2.2.2.2.2.2⟩,by omega,HV.out.2.2.2.2.1⟩),?_⟩;clear hK K;have hf7':Fr D1 wr w7:=(HF6.out.mono (fun _ _ h=>h.elim)).trans hf7;have HY:=Lib.hid (And.intro (HX.out.1.upMem hf7' hM7 (fun b hb=>Or.inl hb)) hf7');clear hM7 hf7 hf7';repeat (first|((first|refine Mix.qa ?_|refine Mix.qb ?_);intro K hK;simp only [nA,nB,nC];go_big_quiet_op;go_big_quiet_on)|refine Mix.qc ?_|refine Mix.qd ?_)
            refine Mix.S_done ?_;go_wp2_with fail
            obtain ⟨hMr,hAr,hFr,hstep⟩:=HX.out;refine ⟨⟨k+1,by omega,rfl,⟨fun x=>Ar x∨D1 x,?_,?_⟩,hFr.trans HY.out.2⟩,by simp [intOf];omega⟩
            · rw [hstep];exact HY.out.1
            · intro x hx;rcases hx with hx|hx
              · exact hAr x hx
              · exact H1.out.1.od x hx
          · have hkk:k=l.length:=by omega
            subst hkk;rw [List.take_length] at hMr;obtain ⟨a0,a1,a2,az⟩:=row3 (hFr.row HV.out.2.2.2.2.2.1 H1.out.2.2.2.2.2.2.1);obtain ⟨b0,b1,bz⟩:=row2 (hFr.row HV.out.2.2.2.2.2.2.1 H1.out.2.2.2.2.2.2.2.1);have HX:=Lib.hid (And.intro hMr (And.intro hAr hFr));clear hMr hAr hFr rr;go_wp2_with fail
            have hR:=HR.out;rw [if_neg (by simp)] at hR;rw [hR];obtain ⟨hMr,hAr,hFr⟩:=HX.out;refine bodyPost_ret (v:=.tuple #[.agg #[.bool pp,.int .i64 pa,.int .i64 pn],.agg #[.int .i64 2,.int .i64 0]]) (by simp [results,Tryz.results12,go_sem,a0,a1,a2,b0,b1]) rfl ⟨rfl,?_⟩
            have hfin:Fr A W wr:=HV.out.2.1.then hFr (fun x hx e=>by
             rcases H1.out.2.1 _ (H1.out.1.od x e) with h|h
             · exact h
             · omega)
            exact Aft.box H1.out.2.2.2.2.2.1 ⟨Ar,⟨_,hMr⟩,fun x hx=>H1.out.2.1 x (hAr x hx),hfin⟩ (E:=fun x=>x=w.heap.size∨x=w.heap.size+1) (by exact ((Fr.set3 _ _ _ _ _ _ _ _).mono fun _ _ h=>Or.inl h).trans (((Fr.set1 _ _ _ _).trans (Fr.set1 _ _ _ _)).mono fun _ _ h=>Or.inr h)) (fun x hx=>by omega) HH.out.1.lt HH.out.1.base_le
       · have hE:=Lib.hid fun w1=>failed_r w1 er hne;go_wp2_with fail
         have sV:(w1.alloc (.cells #[.bool pp,.int .i64 pa,.int .i64 pn] 40)).heap.size=w1.heap.size+1:=by simp
         have fV:Fr Non w1 (w1.alloc (.cells #[.bool pp,.int .i64 pa,.int .i64 pn] 40)):=(Fr.refl _ _).alloc _;generalize w1.alloc (.cells #[.bool pp,.int .i64 pa,.int .i64 pn] 40)=V at *;have cW:=@Mix.cls_drew V [];refine Mix.wp_region_alt [] [(0,0),(0,1),(2,2),(0,3)] 4 5 [(2,5),(2,6)] [(2,4),(2,6)] (fun U=>∃ g',U=Mix.upon V [] g') (by kernel_rfl) (by kernel_rfl) cW ?_;clear cW;repeat (first|((first|refine Mix.qa ?_|refine Mix.qb ?_);intro K hK;simp only [nA,nB,nC];go_big_quiet_op;go_big_quiet_on)|refine Mix.qc ?_|refine Mix.qd ?_)
         refine Mix.S_eff rfl rfl ?_;intro K hK;simp only [nA,nB,nC];go_simp;refine (hE.out _).mono ?_;rintro e6 w6 ⟨v6,rfl,hres,hf6⟩;refine hK _ _ ⟨Mix.cls_fr (D:=Non) hf6 (by simp),?_⟩;clear hK K;have hf56:Fr Non w1 w6:=fV.trans (Fr.trans (by exact (Fr.refl _ _).drew) hf6);have s6:=hf56.size;have herr:errS er=some (if er=10 then (5,0) else (6,er)):=by unfold errS;rw [if_neg hne]
         rw [herr] at hres;rcases hres with ⟨e,_⟩|⟨rb,k6,n6,e6,rfl,hrow6,hlo⟩
         · cases e
         · obtain ⟨d0,d1,dz⟩:=row2 hrow6;simp only [World.size_drew] at hlo;have hrb0:¬ rb=w.heap.size:=by omega
           have hrb1:¬ w.heap.size=rb:=by omega
           have hrb2:¬ rb=w.heap.size+1:=by omega
           obtain ⟨a0',a1',a2',az'⟩:=row3 (hf56.row H1.out.2.2.2.1 id);obtain ⟨b0',b1',bz'⟩:=row2 (hf56.row H1.out.2.2.2.2.1 id);have hd6:=hrow6.lt;have HV6:=Lib.hid hf56;clear hf6 hf56 hrow6 a0 a1 a2 az b0 b1 bz c2 fV;repeat (first|((first|refine Mix.qa ?_|refine Mix.qb ?_);intro K hK;simp only [nA,nB,nC];go_big_quiet_op;go_big_quiet_on)|refine Mix.qc ?_|refine Mix.qd ?_)
           refine Mix.S_done ?_;refine ⟨?_,?_⟩
           · refine Mix.N_eff (C:=fun U=>∃ g',U=Mix.upon V [] g') rfl rfl ?_;intro K hK;simp only [nA,nB,nC];go_simp;refine hK _ _ ⟨Mix.cls_fr (D:=Non) (by exact Fr.refl _ _) (by simp),?_⟩;clear hK K;refine Mix.S_eff rfl rfl ?_;intro K hK;simp only [nA,nB,nC];go_simp;refine hK _ _ ⟨Mix.cls_fr (D:=fun x=>x=w.heap.size) (by exact Fr.set3 _ _ _ _ _ _ _ _) (by simp),?_⟩;clear hK K;refine Mix.S_eff rfl rfl ?_;intro K hK;simp only [nA,nB,nC];go_simp;refine hK _ _ ⟨Mix.cls_fr (D:=fun x=>x=w.heap.size+1) (by exact (Fr.set1 _ _ _ _).trans (Fr.set1 _ _ _ _)) (by simp),?_⟩;clear hK K;refine Mix.S_done ?_;go_wp2_with fail
             have hR:=HR.out;rw [if_pos hne,herr,e6] at hR;simp only [Option.getD_some] at hR;rw [hR];refine bodyPost_ret (v:=.tuple #[.agg #[.bool false,.int .i64 0,.int .i64 0],.agg #[.int .i64 k6,.int .i64 n6]]) (by simp [results,Tryz.results12,go_sem,a0',a1',a2',b0',b1']) rfl ⟨rfl,?_⟩;exact Aft.box H1.out.2.2.2.2.2.1 ⟨A1,⟨_,H1.out.1.frN HV6.out⟩,H1.out.2.1,H1.out.2.2.1.trans (HV6.out.mono fun _ _ h=>h.elim)⟩ (E:=fun x=>x=w.heap.size∨x=w.heap.size+1) (by exact ((Fr.set3 _ _ _ _ _ _ _ _).mono fun _ _ h=>Or.inl h).trans (((Fr.set1 _ _ _ _).trans (Fr.set1 _ _ _ _)).mono fun _ _ h=>Or.inr h)) (fun x hx=>by omega) HH.out.1.lt HH.out.1.base_le
           · refine Mix.N_eff (C:=fun U=>∃ g',U=Mix.upon V [] g') rfl rfl ?_;intro K hK;simp only [nA,nB,nC];go_simp;refine hK _ _ ⟨Mix.cls_fr (D:=fun x=>x=w.heap.size) (by exact Fr.set3 _ _ _ _ _ _ _ _) (by simp),?_⟩;clear hK K;refine Mix.S_eff rfl rfl ?_;intro K hK;simp only [nA,nB,nC];go_simp;refine hK _ _ ⟨Mix.cls_fr (D:=Non) (by exact Fr.refl _ _) (by simp),?_⟩;clear hK K;refine Mix.S_eff rfl rfl ?_;intro K hK;simp only [nA,nB,nC];go_simp;refine hK _ _ ⟨Mix.cls_fr (D:=fun x=>x=w.heap.size+1) (by exact (Fr.set1 _ _ _ _).trans (Fr.set1 _ _ _ _)) (by simp),?_⟩;clear hK K;refine Mix.S_done ?_;go_wp2_with fail
             have hR:=HR.out;rw [if_pos hne,herr,e6] at hR;simp only [Option.getD_some] at hR;rw [hR];refine bodyPost_ret (v:=.tuple #[.agg #[.bool false,.int .i64 0,.int .i64 0],.agg #[.int .i64 k6,.int .i64 n6]]) (by simp [results,Tryz.results12,go_sem,a0',a1',a2',b0',b1']) rfl ⟨rfl,?_⟩;exact Aft.box H1.out.2.2.2.2.2.1 ⟨A1,⟨_,H1.out.1.frN HV6.out⟩,H1.out.2.1,H1.out.2.2.1.trans (HV6.out.mono fun _ _ h=>h.elim)⟩ (E:=fun x=>x=w.heap.size∨x=w.heap.size+1) (by exact ((Fr.set3 _ _ _ _ _ _ _ _).mono fun _ _ h=>Or.inl h).trans (((Fr.set1 _ _ _ _).trans (Fr.set1 _ _ _ _)).mono fun _ _ h=>Or.inr h)) (fun x hx=>by omega) HH.out.1.lt HH.out.1.base_le
     · have hae:((l.length:Int) == xx.args)=false:=beq_false_of_ne hargs;have han:((l.length:Int) != xx.args)=true:=by simp [hargs]
       rw [if_pos (Or.inr (Or.inr hargs))] at hR;have HR:=Lib.hid hR;clear h hc hA hR hcc g4;go_enter Tryz.func12,Tryz.ntmps12
       go_wp2_with fail
       refine bodyPost_ret (v:=.tuple #[.agg #[.bool false,.int .i64 0,.int .i64 0],.agg #[.int .i64 6,.int .i64 1]]) (by simp [results,Tryz.results12,go_sem]) rfl ?_;rw [HR.out];exact ⟨rfl,HH.out.1.aftN (by exact fx)⟩
end
section
variable {base:Nat} {P:Pr} {kinds:List Int} {A:Nat→Prop} {w:World} {m:Nat} {S:St}
theorem start_i (h:MInv base P A w m S) (hB:S.mem.blocks.length<1000000) (co:Int) (l:List Int) (hl:∀ x∈P.cos,x.args≤1000000000) (ao:Option Addr) (cap:Nat) (hc:IntsAt base w ao l) :
 Calls Tryz.prog 12 #[.pointer (some ⟨m,0,none⟩),.int .i64 co,.slice ao l.length cap] w fun e w' =>
  e=.returned (.tuple #[.agg #[.bool (startS P S co l).2.1.p,.int .i64 (startS P S co l).2.1.a,.int .i64 (startS P S co l).2.1.n],.agg #[.int .i64 (startS P S co l).2.2.1,.int .i64 (startS P S co l).2.2.2]])∧Aft base P A w w' m (startS P S co l).1:=by
 refine start_m h hB co l (Or.inr hl) ao cap (fun i n hn=>?_) (fun hl0 a ha=>?_)
 · obtain ⟨b,o,e,hcb⟩:=hc i n hn;exact ⟨b,o,e,hcb.2⟩
 · obtain ⟨b,o,e,hcb⟩:=hc 0 _ (List.getElem?_eq_getElem hl0);rw [ha] at e;cases e
   obtain ⟨L,hL⟩:=h;refine ⟨fun e=>?_,?_⟩
   · have h1:base≤b:=hL.high _ e;have h2:=hcb.1;omega
   · have h1:=hL.base_le;have h2:=hcb.1;show b<w.heap.size;omega
end
abbrev Mo:=Option (Nat × St)
section
variable {base:Nat} {P:Pr} {kinds:List Int} {A E:Nat→Prop} {w w':World} {m:Nat} {S:St} {a b c:Mo} {U:Nat→Prop}
theorem MInv.high (h:MInv base P A w m S):High base A:=by obtain ⟨L,h⟩:=h;exact h.high
theorem MInv.lt (h:MInv base P A w m S):∀ x,A x→x<w.heap.size:=by obtain ⟨L,h⟩:=h;exact h.lt
theorem MInv.om (h:MInv base P A w m S):A m:=by obtain ⟨L,h⟩:=h;exact h.om
theorem MInv.frE (h:MInv base P A w m S) (f:Fr E w w') (hE:High base E) (hd:∀ x,A x→¬ E x):MInv base P A w' m S:=by obtain ⟨L,h⟩:=h;exact ⟨L,h.frE f hE hd⟩
end
end Go.Proofs.YtlbomnbpahmphaaGreat
namespace Go.Proofs.YtlbomnbpahmphaaGreat
section
variable {P:Pr} {kinds:List Int} {S S' S2:St}
end
end Go.Proofs.YtlbomnbpahmphaaGreat
