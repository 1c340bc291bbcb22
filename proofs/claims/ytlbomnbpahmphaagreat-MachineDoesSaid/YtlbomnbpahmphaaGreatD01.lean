/- Generic facts on whole blocks of cells: what a block holds, what a store, an allocation and a frame leave of it. No condition beyond those of each lemma. -/
import Derived.Test.YtlbomnbpahmphaaGreatProg
import Derived.WalkKit
import Derived.WalkSpells
import Derived.WalkLawsBesides
import Derived.Deep.QuietTactic
import Derived.BigQuiet
import Derived.Deep.RegionHeld3
import Derived.Lib.Hide
import Derived.StillTailTactics
namespace Go.Proofs.YtlbomnbpahmphaaGreat
set_option maxHeartbeats 400000
theorem nA {α:Type _} {l:List α} {i:Nat} (h:i<l.toArray.size):l.toArray[i]=l[i]'(by simpa using h):=rfl
theorem nB {α:Type _} {a:α} {l:List α} {h:0<(a :: l).length}:(a :: l)[0]=a:=rfl
theorem nC {α:Type _} {a:α} {l:List α} {i:Nat} (h:i+1<(a :: l).length):(a :: l)[i+1]=l[i]'(Nat.lt_of_succ_lt_succ h):=rfl
open Go.RowKit
def Row (w:World) (b:Nat) (T:TypeId) (cs:List Value):Prop:=w.heap[b]?=some (.cells cs.toArray T (0,0))
theorem Row.lt {w:World} {b:Nat} {T:TypeId} {cs:List Value} (h:Row w b T cs):b<w.heap.size:=lt_of_block h
theorem Row.cell {w:World} {b:Nat} {T:TypeId} {cs:List Value} (h:Row w b T cs) {o:Nat} {v:Value} (hv:cs[o]?=some v):w.cell? ⟨b,o,none⟩=some v:=by
 unfold Row at h;simp [World.cell?,h,hv]
theorem Row.frozen {w:World} {b:Nat} {T:TypeId} {cs:List Value} (h:Row w b T cs) (o:Nat):w.frozen? ⟨b,o,none⟩=false:=by
 unfold Row at h;simp [World.frozen?,h]
theorem Row.ne {w:World} {b b':Nat} {T T':TypeId} {cs cs':List Value} (h:Row w b T cs) (h':Row w b' T' cs') (hT:T≠T'):b≠b':=by
 rintro rfl;unfold Row at h h';rw [h] at h';simp at h';exact hT h'.2
theorem Row.cong {w w':World} {b:Nat} {T:TypeId} {cs:List Value} (h:Row w b T cs) (e:w'.heap[b]?=w.heap[b]?):Row w' b T cs:=e.trans h
theorem Row.drewN {w:World} {b:Nat} {T:TypeId} {cs:List Value} (h:Row w b T cs) (n:Nat):Row (w.drewN n) b T cs:=h
theorem Row.drew {w:World} {b:Nat} {T:TypeId} {cs:List Value} (h:Row w b T cs):Row w.drew b T cs:=h
theorem Row.alloc {w:World} {b:Nat} {T:TypeId} {cs:List Value} (h:Row w b T cs) (o:Obj):Row (w.alloc o) b T cs :=
 h.cong (Below.heap_alloc w o b h.lt)
theorem Row.new (w:World) (c:Array Value) (T:TypeId):Row (w.alloc (.cells c T)) w.heap.size T c.toList:=by
 unfold Row;exact heap_alloc_new w _
theorem Row.set_same {w:World} {b:Nat} {T:TypeId} {cs:List Value} (h:Row w b T cs) (o:Nat) (v:Value):Row (w.setCell ⟨b,o,none⟩ v) b T (cs.set o v):=by
 unfold Row at *;simp [World.setCell,Array.getElem?_modify,h]
theorem Row.set_ne {w:World} {b:Nat} {T:TypeId} {cs:List Value} (h:Row w b T cs) {a:Addr} (hne:b≠a.block) (v:Value):Row (w.setCell a v) b T cs :=
 h.cong (Below.heap_setCell w a v b hne)
structure Fr (D:Nat→Prop) (w w':World):Prop where
 os:w'.os=w.os
 tape:w'.tape=w.tape
 output:w'.output=w.output
 size:w.heap.size≤w'.heap.size
 keep:∀ b,b<w.heap.size→¬ D b→w'.heap[b]?=w.heap[b]?
def Non:Nat→Prop:=fun _=>False
theorem Fr.refl (D:Nat→Prop) (w:World):Fr D w w:=⟨rfl,rfl,rfl,Nat.le_refl _,fun _ _ _=>rfl⟩
theorem Fr.then {D E:Nat→Prop} {a b c:World} (h:Fr D a b) (k:Fr E b c) (he:∀ x,x<a.heap.size→E x→D x):Fr D a c :=
 ⟨k.os.trans h.os,k.tape.trans h.tape,k.output.trans h.output,Nat.le_trans h.size k.size,fun x hx hd=>(k.keep x (Nat.lt_of_lt_of_le hx h.size) fun hE=>hd (he x hx hE)).trans (h.keep x hx hd)⟩
theorem Fr.trans {D:Nat→Prop} {a b c:World} (h:Fr D a b) (k:Fr D b c):Fr D a c:=h.then k fun _ _ h=>h
theorem Fr.mono {D D':Nat→Prop} {w w':World} (h:Fr D w w') (hd:∀ b,b<w.heap.size→D b→D' b):Fr D' w w' :=
 ⟨h.os,h.tape,h.output,h.size,fun b hb hn=>h.keep b hb fun hD=>hn (hd b hb hD)⟩
theorem Fr.drewN {D:Nat→Prop} {w w':World} (h:Fr D w w') (n:Nat):Fr D w (w'.drewN n):=⟨h.os,h.tape,h.output,h.size,h.keep⟩
theorem Fr.drew {D:Nat→Prop} {w w':World} (h:Fr D w w'):Fr D w w'.drew:=⟨h.os,h.tape,h.output,h.size,h.keep⟩
theorem Fr.drewl {D:Nat→Prop} {w w':World} (h:Fr D w w'):Fr D w.drew w':=⟨h.os,h.tape,h.output,h.size,h.keep⟩
theorem Fr.alloc {D:Nat→Prop} {w w':World} (h:Fr D w w') (o:Obj):Fr D w (w'.alloc o) :=
 ⟨h.os,h.tape,h.output,by have:=h.size;simp;omega,fun b hb hd=>(Below.heap_alloc w' o b (Nat.lt_of_lt_of_le hb h.size)).trans (h.keep b hb hd)⟩
theorem Fr.setCell {D:Nat→Prop} {w w':World} (h:Fr D w w') {a:Addr} (ha:D a.block∨w.heap.size≤a.block) (v:Value):Fr D w (w'.setCell a v) :=
 ⟨h.os,h.tape,h.output,by have:=h.size;simp;omega,fun b hb hd=>(Below.heap_setCell w' a v b (by rintro rfl;rcases ha with h|h;exact hd h;omega)).trans (h.keep b hb hd)⟩
theorem Fr.row {D:Nat→Prop} {w w':World} (h:Fr D w w') {b:Nat} {T:TypeId} {cs:List Value} (r:Row w b T cs) (hd:¬ D b):Row w' b T cs:=r.cong (h.keep b r.lt hd)
theorem Fr.cell {D:Nat→Prop} {w w':World} (h:Fr D w w') {b o:Nat} {v:Value} (hc:w.cell? ⟨b,o,none⟩=some v) (hd:¬ D b):w'.cell? ⟨b,o,none⟩=some v:=by
 have hb:b<w.heap.size:=World.block_lt_of_cell? w _ hc;rw [← hc];simp only [World.cell?,h.keep b hb hd]
theorem Fr.frozen {D:Nat→Prop} {w w':World} (h:Fr D w w') {b o:Nat} (hb:b<w.heap.size) (hf:w.frozen? ⟨b,o,none⟩=false) (hd:¬ D b):w'.frozen? ⟨b,o,none⟩=false:=by
 rw [← hf];simp only [World.frozen?,h.keep b hb hd]
theorem Fr.new_cell {D:Nat→Prop} {w w':World} {c:Array Value} {T:TypeId} (h:Fr D (w.alloc (.cells c T)) w') (hd:¬ D w.heap.size) {o:Nat} {v:Value} (hv:c[o]?=some v):w'.cell? ⟨w.heap.size,o,none⟩=some v :=
 h.cell (by simp [hv]) hd
theorem Fr.new_row {D:Nat→Prop} {w w':World} {c:Array Value} {T:TypeId} (h:Fr D (w.alloc (.cells c T)) w') (hd:¬ D w.heap.size):Row w' w.heap.size T c.toList :=
 h.row (Row.new w c T) hd
theorem row2 {w:World} {b:Nat} {T:TypeId} {x0 x1:Value} (h:Row w b T [x0,x1]):w.cell? ⟨b,0,none⟩=some x0∧w.cell? ⟨b,1,none⟩=some x1∧∀ o,w.frozen? ⟨b,o,none⟩=false :=
 ⟨h.cell rfl,h.cell rfl,h.frozen⟩
theorem row3 {w:World} {b:Nat} {T:TypeId} {x0 x1 x2:Value} (h:Row w b T [x0,x1,x2]):w.cell? ⟨b,0,none⟩=some x0∧w.cell? ⟨b,1,none⟩=some x1∧w.cell? ⟨b,2,none⟩=some x2∧∀ o,w.frozen? ⟨b,o,none⟩=false :=
 ⟨h.cell rfl,h.cell rfl,h.cell rfl,h.frozen⟩
theorem row4 {w:World} {b:Nat} {T:TypeId} {x0 x1 x2 x3:Value} (h:Row w b T [x0,x1,x2,x3]):w.cell? ⟨b,0,none⟩=some x0∧w.cell? ⟨b,1,none⟩=some x1∧w.cell? ⟨b,2,none⟩=some x2∧w.cell? ⟨b,3,none⟩=some x3∧∀ o,w.frozen? ⟨b,o,none⟩=false :=
 ⟨h.cell rfl,h.cell rfl,h.cell rfl,h.cell rfl,h.frozen⟩
theorem row5 {w:World} {b:Nat} {T:TypeId} {x0 x1 x2 x3 x4:Value} (h:Row w b T [x0,x1,x2,x3,x4]):w.cell? ⟨b,0,none⟩=some x0∧w.cell? ⟨b,1,none⟩=some x1∧w.cell? ⟨b,2,none⟩=some x2∧w.cell? ⟨b,3,none⟩=some x3∧w.cell? ⟨b,4,none⟩=some x4∧∀ o,w.frozen? ⟨b,o,none⟩=false :=
 ⟨h.cell rfl,h.cell rfl,h.cell rfl,h.cell rfl,h.cell rfl,h.frozen⟩
theorem Fr.new_row2 {D:Nat→Prop} {w w':World} {c c':Array Value} {T T':TypeId} (h:Fr D ((w.alloc (.cells c T)).alloc (.cells c' T')) w') (hd:¬ D w.heap.size) (hd':¬ D (w.heap.size+1)) :
 Row w' w.heap.size T c.toList∧Row w' (w.heap.size+1) T' c'.toList :=
 ⟨h.row ((Row.new w c T).alloc _) hd,by have:=h.row (Row.new (w.alloc (.cells c T)) c' T') (by simpa using hd');simpa using this⟩
theorem Fr.below {w w':World} (h:Below w.heap.size w w'):Fr Non w w':=⟨h.os,h.tape,h.output,h.size,fun b hb _=>h.block b hb⟩
theorem Fr.grown {D:Nat→Prop} {a w w':World} {row:Option Nat} (h:Fr D a w) (hg:w.grownBy w' row) (hr:∀ k,row=some k→D k∨a.heap.size≤k):Fr D a w' :=
 ⟨hg.os.trans h.os,hg.tape.trans h.tape,hg.output.trans h.output,Nat.le_trans h.size hg.size,fun b hb hd=>(hg.block b (Nat.lt_of_lt_of_le hb h.size) (by intro e;rcases hr b e.symm with h|h;exact hd h;omega)).trans (h.keep b hb hd)⟩
theorem fx {D:Nat→Prop} {w w':World} (h:Fr D w w':=by repeat (first|exact .refl _ _|assumption|apply Fr.drewN|apply Fr.drew|apply Fr.drewl|apply Fr.drewNl|apply Fr.alloc)):Fr D w w':=h
end Go.Proofs.YtlbomnbpahmphaaGreat
namespace Go.Proofs.YtlbomnbpahmphaaGreat
open Go.RowKit
structure Wd where
 p:Bool
 a:Int
 n:Int
def Wd.zero:Wd:=⟨false,0,0⟩
def Wd.cs (x:Wd):List Value:=[.bool x.p,.int .i64 x.a,.int .i64 x.n]
def flat (l:List Wd):List Value:=l.flatMap Wd.cs
theorem flat_len (l:List Wd):(flat l).length=l.length * 3:=by
 induction l with
 | nil=>rfl
 | cons x l ih=>simp only [flat,List.flatMap_cons,List.length_append,List.length_cons] at *;rw [ih];simp [Wd.cs];omega
theorem flat_cons (x:Wd) (l:List Wd):flat (x :: l)=.bool x.p :: .int .i64 x.a :: .int .i64 x.n :: flat l:=rfl
theorem flat_get {l:List Wd} {j:Nat} {x:Wd} (h:l[j]?=some x) :
 (flat l)[j * 3]?=some (.bool x.p)∧(flat l)[j * 3+1]?=some (.int .i64 x.a)∧(flat l)[j * 3+2]?=some (.int .i64 x.n):=by
 induction l generalizing j with
 | nil=>simp at h
 | cons y l ih =>
  cases j with
  | zero=>simp at h;subst h;simp [flat_cons]
  | succ j =>
   have:=ih (by simpa using h);rw [flat_cons,show (j+1) * 3=j * 3+3 by omega];exact this
theorem flat_set (l:List Wd) (j:Nat) (x:Wd) :
 (((flat l).set (j * 3) (.bool x.p)).set (j * 3+1) (.int .i64 x.a)).set (j * 3+2) (.int .i64 x.n)=flat (l.set j x):=by
 induction l generalizing j with
 | nil=>simp [flat]
 | cons y l ih =>
  cases j with
  | zero=>simp [flat_cons]
  | succ j =>
   rw [List.set_cons_succ,flat_cons,flat_cons,← ih j,show (j+1) * 3=j * 3+3 by omega]
   rfl
structure Blk where
 words:List Wd
 set:List Bool
 freed:Bool
def Blk.gone:Blk:=⟨[],[],true⟩
structure Mem where
 room:Int
 blocks:List Blk
def used (l:List Blk):Nat:=(l.map fun b=>b.words.length).sum
def live (l:List Blk):Nat:=(l.filter fun b=>!b.freed).length
theorem used_mem {l:List Blk} {b:Blk} (h:b∈l):b.words.length≤used l:=by
 induction l with
 | nil=>cases h
 | cons x l ih =>
  simp only [used,List.map_cons,List.sum_cons] at *;rcases List.mem_cons.1 h with rfl|h
  · omega
  · have:=ih h;omega
theorem used_append (l l':List Blk):used (l ++ l')=used l+used l':=by simp [used]
theorem live_append (l l':List Blk):live (l ++ l')=live l+live l':=by simp [live]
theorem used_set {l:List Blk} {i:Nat} {b:Blk} (h:l[i]?=some b) (b':Blk):used (l.set i b')+b.words.length=used l+b'.words.length:=by
 induction l generalizing i with
 | nil=>simp at h
 | cons x l ih =>
  cases i with
  | zero=>simp at h;subst h;simp [used];omega
  | succ i=>have:=ih (i:=i) (by simpa using h);simp [used] at *;omega
theorem live_set {l:List Blk} {i:Nat} {b:Blk} (h:l[i]?=some b) (b':Blk):live (l.set i b')+(if b.freed=true then 0 else 1)=live l+(if b'.freed=true then 0 else 1):=by
 induction l generalizing i with
 | nil=>simp at h
 | cons x l ih =>
  cases i with
  | zero =>
   simp at h;subst h;cases hx:x.freed <;> cases hb:b'.freed <;> simp [live,hx,hb]
  | succ i =>
   have:=ih (i:=i) (by simpa using h);simp only [live,List.set_cons_succ,List.filter_cons] at *;split
   · simp only [List.length_cons];omega
   · omega
theorem live_le (l:List Blk):live l≤l.length:=List.length_filter_le _ _
def Blk.ok (b:Blk):Prop:=b.set.length=b.words.length∧(b.freed=true→b.words=[])
structure Mem.ok (M:Mem):Prop where
 room:M.room≤1048576
 used:(used M.blocks:Int)≤M.room
 blk:∀ (b:Blk),b∈M.blocks→b.ok
def Mem.blk (M:Mem) (a:Int):Blk:=M.blocks.getD (a - 1).toNat Blk.gone
def Mem.errb (M:Mem) (p:Wd):Int :=
 if p.p=false then 11 else if p.a<1∨(M.blocks.length:Int)<p.a then 13 else if (M.blk p.a).freed=true then 12 else 0
def Mem.errp (M:Mem) (p:Wd) (n:Int):Int :=
 if M.errb p=0 then (if p.n<0∨((M.blk p.a).words.length:Int)<n∨((M.blk p.a).words.length:Int) - n<p.n then 13 else 0) else M.errb p
def Blk.at (w:World) (D:Nat→Prop) (arr:List Value) (wb zb:Nat→Nat) (i:Nat) (b:Blk):Prop :=
 if b.freed=true then arr[i * 3]?=some (.slice none 0 0)∧arr[i * 3+1]?=some (.slice none 0 0)∧arr[i * 3+2]?=some (.bool true)
 else arr[i * 3]?=some (.slice (some ⟨wb i,0,none⟩) b.words.length b.words.length)∧arr[i * 3+1]?=some (.slice (some ⟨zb i,0,none⟩) b.words.length b.words.length)∧arr[i * 3+2]?=some (.bool false) ∧
  Row w (wb i) 40 (flat b.words)∧Row w (zb i) 4 (b.set.map Value.bool)∧D (wb i)∧D (zb i)
structure MemL (D:Nat→Prop) (w:World) (mb:Nat) (ao:Option Addr) (cap bb:Nat) (arr:List Value) (wb zb:Nat→Nat) (M:Mem):Prop where
 head:Row w mb 135 [.int .i64 M.room,.int .i64 (used M.blocks),.int .i64 (live M.blocks),.slice ao M.blocks.length cap]
 own:D mb
 row:(ao=none∧cap=0∧M.blocks=[])∨(ao=some ⟨bb,0,none⟩∧Row w bb 147 arr∧arr.length=cap * 3∧M.blocks.length≤cap∧cap≤maxLen∧D bb)
 blk:∀ (i:Nat) (b:Blk),M.blocks[i]?=some b→b.at w D arr wb zb i
 one:∀ (i j:Nat),i<M.blocks.length→j<M.blocks.length→i≠j→wb i≠wb j∧zb i≠zb j
 lt:∀ (i:Nat),i<M.blocks.length→wb i<w.heap.size∧zb i<w.heap.size
 ok:M.ok
theorem Blk.at.fr {D E:Nat→Prop} {w w':World} {arr:List Value} {wb zb:Nat→Nat} {i:Nat} {b:Blk} (h:b.at w D arr wb zb i) (f:Fr E w w') (hd:∀ x,D x→¬ E x):b.at w' D arr wb zb i:=by
 unfold Blk.at at *;split at h
 · rename_i hf;rw [if_pos hf];exact h
 · rename_i hf;rw [if_neg hf];exact ⟨h.1,h.2.1,h.2.2.1,f.row h.2.2.2.1 (hd _ h.2.2.2.2.2.1),f.row h.2.2.2.2.1 (hd _ h.2.2.2.2.2.2),h.2.2.2.2.2⟩
theorem MemL.fr {D E:Nat→Prop} {w w':World} {mb cap bb:Nat} {ao:Option Addr} {arr:List Value} {wb zb:Nat→Nat} {M:Mem}
 (h:MemL D w mb ao cap bb arr wb zb M) (f:Fr E w w') (hd:∀ x,D x→¬ E x):MemL D w' mb ao cap bb arr wb zb M :=
 { h with
  head:=f.row h.head (hd _ h.own)
  row:=h.row.imp id fun ⟨h1,h2,h3,h4,h5,h6⟩=>⟨h1,f.row h2 (hd _ h6),h3,h4,h5,h6⟩
  blk:=fun i b hb=>(h.blk i b hb).fr f hd
  lt:=fun i hi=>⟨Nat.lt_of_lt_of_le (h.lt i hi).1 f.size,Nat.lt_of_lt_of_le (h.lt i hi).2 f.size⟩ }
section
variable {D:Nat→Prop} {w:World} {mb cap bb:Nat} {ao:Option Addr} {arr:List Value} {wb zb:Nat→Nat} {M:Mem}
theorem MemL.c0 (h:MemL D w mb ao cap bb arr wb zb M):w.cell? ⟨mb,0,none⟩=some (.int .i64 M.room):=h.head.cell rfl
theorem MemL.c1 (h:MemL D w mb ao cap bb arr wb zb M):w.cell? ⟨mb,1,none⟩=some (.int .i64 (used M.blocks)):=h.head.cell rfl
theorem MemL.c2 (h:MemL D w mb ao cap bb arr wb zb M):w.cell? ⟨mb,2,none⟩=some (.int .i64 (live M.blocks)):=h.head.cell rfl
theorem MemL.c3 (h:MemL D w mb ao cap bb arr wb zb M):w.cell? ⟨mb,3,none⟩=some (.slice ao M.blocks.length cap):=h.head.cell rfl
theorem MemL.some (h:MemL D w mb ao cap bb arr wb zb M) {a:Int} (h1:1≤a) (h2:a≤(M.blocks.length:Int)) :
 ao=Option.some ⟨bb,0,none⟩∧Row w bb 147 arr∧arr.length=cap * 3∧M.blocks.length≤cap∧D bb∧M.blocks[(a - 1).toNat]?=Option.some (M.blk a)∧(M.blk a).at w D arr wb zb (a - 1).toNat:=by
 have hl:(a - 1).toNat<M.blocks.length:=by omega
 have hb:M.blocks[(a - 1).toNat]?=Option.some (M.blk a):=by unfold Mem.blk;rw [List.getD,List.getElem?_eq_getElem hl];rfl
 rcases h.row with ⟨_,_,h3⟩|⟨h3,h4,h5,h6,_,h8⟩
 · rw [h3] at hl;simp at hl
 · exact ⟨h3,h4,h5,h6,h8,hb,h.blk _ _ hb⟩
theorem Mem.errb_zero {p:Wd} (h:M.errb p=0):p.p=true∧1≤p.a∧p.a≤(M.blocks.length:Int)∧(M.blk p.a).freed=false:=by
 unfold Mem.errb at h;split at h;· omega
 split at h;· omega
 split at h;· omega
 rename_i h1 h2 h3;exact ⟨by simpa using h1,by omega,by omega,by simpa using h3⟩
theorem Mem.errp_zero {p:Wd} {n:Int} (h:M.errp p n=0):M.errb p=0∧0≤p.n∧n≤((M.blk p.a).words.length:Int)∧p.n≤((M.blk p.a).words.length:Int) - n:=by
 unfold Mem.errp at h;split at h
 · split at h
   · omega
   · rename_i h1 h2;exact ⟨h1,by omega,by omega,by omega⟩
 · contradiction
theorem block_kind (a n:Int):Calls Tryz.prog 99 #[.pointer (Option.some ⟨mb,0,none⟩),.agg #[.bool false,.int .i64 a,.int .i64 n]] w fun e w' =>
 e=.returned (.tuple #[.pointer none,.int .i64 11])∧Fr Non w w':=by
 go_enter Tryz.func99,Tryz.ntmps99
 go_wp2
 go_ret2
 exact ⟨rfl,fx⟩
theorem block_low (h:MemL D w mb ao cap bb arr wb zb M) (a n:Int) (ha:a<1) :
 Calls Tryz.prog 99 #[.pointer (Option.some ⟨mb,0,none⟩),.agg #[.bool true,.int .i64 a,.int .i64 n]] w fun e w' =>
  e=.returned (.tuple #[.pointer none,.int .i64 13])∧Fr Non w w':=by
 have hd:decide (a<1)=true:=by simpa using ha
 have c3:=h.c3;clear h;go_enter Tryz.func99,Tryz.ntmps99
 go_wp2
 go_quiet (fail)
 go_wp2
 go_ret2
 exact ⟨rfl,fx⟩
theorem block_high (h:MemL D w mb ao cap bb arr wb zb M) (a n:Int) (ha:1≤a) (hh:(M.blocks.length:Int)<a) :
 Calls Tryz.prog 99 #[.pointer (Option.some ⟨mb,0,none⟩),.agg #[.bool true,.int .i64 a,.int .i64 n]] w fun e w' =>
  e=.returned (.tuple #[.pointer none,.int .i64 13])∧Fr Non w w':=by
 have hd:decide (a<1)=false:=by simpa using ha
 have hmb:=h.head.lt;have c3:=h.c3;clear h;go_enter Tryz.func99,Tryz.ntmps99
 go_wp2
 go_quiet (fail)
 go_wp2
 go_ret2
 exact ⟨rfl,fx⟩
theorem block_in (h:MemL D w mb ao cap bb arr wb zb M) (a n:Int) (ha:1≤a) (hh:a≤(M.blocks.length:Int)) :
 Calls Tryz.prog 99 #[.pointer (Option.some ⟨mb,0,none⟩),.agg #[.bool true,.int .i64 a,.int .i64 n]] w fun e w' =>
  e=.returned (.tuple (if (M.blk a).freed=true then #[.pointer none,.int .i64 12] else #[.pointer (Option.some ⟨bb,(a - 1).toNat * 3,none⟩),.int .i64 0]))∧Fr Non w w':=by
 obtain ⟨k,rfl⟩:∃ k:Nat,a=(k:Int)+1:=⟨(a - 1).toNat,by omega⟩;rw [show ((k:Int)+1 - 1).toNat=k by omega];have hd:decide ((k:Int)+1<1)=false:=decide_eq_false (by omega)
 have hwr:IntKind.i64.wrap (k:Int)=(k:Int):=by
  refine IntWalk.i64_in _ ?_;rcases h.row with ⟨_,_,h3⟩|⟨_,_,_,h6,h7,_⟩
  · rw [h3] at hh;simp at hh;omega
  · unfold maxLen at h7;omega
 obtain ⟨rfl,hr,_,hcap,_,hb,hat⟩:=h.some ha hh;rw [show ((k:Int)+1 - 1).toNat=k by omega] at hat;have hd2:decide ((M.blocks.length:Int)<(k:Int)+1)=false:=by simpa using hh
 have hmb:=h.head.lt;have hbb:=hr.lt;have c3:=h.c3;have i0:(0:Int)≤(k:Int):=by omega
 have i1:(k:Int)<(M.blocks.length:Int):=by omega
 clear h hb;generalize M.blk ((k:Int)+1)=b at *;cases hf:b.freed with
 | true =>
  rw [Blk.at,if_pos hf] at hat;have f2:=hr.cell hat.2.2;clear hat hr hf hcap;go_enter Tryz.func99,Tryz.ntmps99
  go_wp2
  go_quiet (fail)
  go_wp2
  go_quiet (fail)
  clear hwr;go_wp2
  go_ret2
  exact ⟨rfl,fx⟩
 | false =>
  rw [Blk.at,if_neg (by simp [hf])] at hat;have f2:=hr.cell hat.2.2.1;clear hat hr hf hcap;go_enter Tryz.func99,Tryz.ntmps99
  go_wp2
  go_quiet (fail)
  go_wp2
  go_quiet (fail)
  clear hwr;go_wp2
  go_ret2
  exact ⟨rfl,fx⟩
theorem block_bad (h:MemL D w mb ao cap bb arr wb zb M) (p:Bool) (a n:Int) (he:M.errb ⟨p,a,n⟩≠0) :
 Calls Tryz.prog 99 #[.pointer (Option.some ⟨mb,0,none⟩),.agg #[.bool p,.int .i64 a,.int .i64 n]] w fun e w' =>
  e=.returned (.tuple #[.pointer none,.int .i64 (M.errb ⟨p,a,n⟩)])∧Fr Non w w':=by
 cases p with
 | false=>exact block_kind a n
 | true =>
  by_cases h1:a<1
  · rw [show M.errb ⟨true,a,n⟩=13 by simp [Mem.errb,h1]];exact block_low h a n h1
  · by_cases h2:(M.blocks.length:Int)<a
    · rw [show M.errb ⟨true,a,n⟩=13 by simp [Mem.errb,h2]];exact block_high h a n (by omega) h2
    · have:=block_in h a n (by omega) (by omega);have e:M.errb ⟨true,a,n⟩=if (M.blk a).freed=true then 12 else 0:=by simp [Mem.errb,h1,h2]
      rw [e] at he ⊢;split at he
      · rename_i hf;rw [if_pos hf] at this;rw [if_pos hf];exact this
      · exact absurd rfl he
theorem block_good (h:MemL D w mb ao cap bb arr wb zb M) (p:Bool) (a n:Int) (he:M.errb ⟨p,a,n⟩=0) :
 Calls Tryz.prog 99 #[.pointer (Option.some ⟨mb,0,none⟩),.agg #[.bool p,.int .i64 a,.int .i64 n]] w fun e w' =>
  e=.returned (.tuple #[.pointer (Option.some ⟨bb,(a - 1).toNat * 3,none⟩),.int .i64 0])∧Fr Non w w':=by
 obtain ⟨h1,h2,h3,h4⟩:=Mem.errb_zero he;simp only at h1 h2 h3 h4;subst h1;have:=block_in h a n h2 h3;rw [if_neg (by simp [h4])] at this;exact this
end
section
variable {D:Nat→Prop} {w:World} {mb cap bb:Nat} {ao:Option Addr} {arr:List Value} {wb zb:Nat→Nat} {M:Mem}
theorem piece_bad0 (h:MemL D w mb ao cap bb arr wb zb M) (p:Bool) (a n m:Int) (he:M.errb ⟨p,a,n⟩≠0) :
 Calls Tryz.prog 73 #[.pointer (Option.some ⟨mb,0,none⟩),.agg #[.bool p,.int .i64 a,.int .i64 n],.int .i64 m] w fun e w' =>
  e=.returned (.tuple #[.pointer none,.int .i64 (M.errb ⟨p,a,n⟩)])∧Fr Non w w':=by
 have hc:=fun w1 (h1:MemL D w1 mb ao cap bb arr wb zb M)=>block_bad h1 p a n he;have hd:(M.errb ⟨p,a,n⟩ == 0)=false:=by simpa using he
 generalize M.errb ⟨p,a,n⟩=e at *;have HC:=Lib.hid hc;clear hc;go_enter Tryz.func73,Tryz.ntmps73
 go_wp2_with fail
 refine (HC.out _ (h.fr (by exact fx) (fun _ _=>id))).mono ?_;rintro e1 w1 ⟨rfl,hf⟩;go_wp2
 go_quiet (fail)
 go_wp2
 go_ret2
 exact ⟨rfl,((Fr.refl _ _).alloc _).trans hf |>.drewN _⟩
theorem MemL.good (h:MemL D w mb ao cap bb arr wb zb M) {p:Bool} {a n:Int} (he:M.errb ⟨p,a,n⟩=0) :
 ∃ k:Nat,a=(k:Int)+1∧p=true∧k<M.blocks.length∧M.blocks[k]?=Option.some (M.blk a)∧Row w bb 147 arr∧(M.blk a).ok ∧
  arr[k * 3]?=Option.some (.slice (Option.some ⟨wb k,0,none⟩) (M.blk a).words.length (M.blk a).words.length)∧arr[k * 3+1]?=Option.some (.slice (Option.some ⟨zb k,0,none⟩) (M.blk a).words.length (M.blk a).words.length) ∧
  arr[k * 3+2]?=Option.some (.bool false)∧Row w (wb k) 40 (flat (M.blk a).words)∧Row w (zb k) 4 ((M.blk a).set.map Value.bool)∧D (wb k)∧D (zb k)∧D bb∧(M.blk a).freed=false∧(M.blk a).words.length≤1048576:=by
 obtain ⟨h1,h2,h3,h4⟩:=Mem.errb_zero he;simp only at h1 h2 h3 h4;obtain ⟨k,rfl⟩:∃ k:Nat,a=(k:Int)+1:=⟨(a - 1).toNat,by omega⟩;obtain ⟨_,hr,_,_,hD,hb,hat⟩:=h.some h2 h3;rw [show ((k:Int)+1 - 1).toNat=k by omega] at hat hb;unfold Blk.at at hat;rw [if_neg (by simp [h4])] at hat;obtain ⟨g1,g2,g3,g4,g5,g6,g7⟩:=hat;have hmem:M.blk ((k:Int)+1)∈M.blocks:=List.mem_of_getElem? hb;refine ⟨k,rfl,h1,by omega,hb,hr,h.ok.blk _ hmem,g1,g2,g3,g4,g5,g6,g7,hD,h4,?_⟩;have hu:=h.ok.used;have hro:=h.ok.room;have:(M.blk ((k:Int)+1)).words.length≤used M.blocks:=used_mem hmem;omega
theorem piece_in (h:MemL D w mb ao cap bb arr wb zb M) (p:Bool) (a n m:Int) (he:M.errb ⟨p,a,n⟩=0) (hm:0≤m) :
 Calls Tryz.prog 73 #[.pointer (Option.some ⟨mb,0,none⟩),.agg #[.bool p,.int .i64 a,.int .i64 n],.int .i64 m] w fun e w' =>
  e=.returned (.tuple (if M.errp ⟨p,a,n⟩ m=0 then #[.pointer (Option.some ⟨bb,(a - 1).toNat * 3,none⟩),.int .i64 0] else #[.pointer none,.int .i64 13]))∧Fr Non w w':=by
 have hep:M.errp ⟨p,a,n⟩ m=if n<0∨((M.blk a).words.length:Int)<m∨((M.blk a).words.length:Int) - m<n then 13 else 0:=by unfold Mem.errp;rw [if_pos he]
 have HC:=Lib.hid fun w1 (h1:MemL D w1 mb ao cap bb arr wb zb M)=>block_good h1 p a n he;obtain ⟨k,rfl,rfl,hk,_,hr,_,g1,_,_,_,_,hw,hz,hD,_,hlen⟩:=h.good he;rw [show ((k:Int)+1 - 1).toNat=k by omega] at HC ⊢;have f1:=hr.cell g1;rw [hep];clear hep he hr g1;generalize (M.blk ((k:Int)+1)).words.length=L at *
 have fb:∀ w1,Fr Non (w.alloc (.cells #[.bool true,.int .i64 ((k:Int)+1),.int .i64 n] 40)) w1→w1.cell? ⟨bb,k * 3,none⟩=Option.some (.slice (Option.some ⟨wb k,0,none⟩) L L):=fun w1 hf =>
  (Fr.trans fx hf).cell f1 id
 have HF:=Lib.hid fb;clear fb f1;by_cases h1:n<0
 · have d1:decide (n<0)=true:=decide_eq_true h1;rw [if_pos (Or.inl h1)];simp only [show ¬ ((13:Int)=0) by omega,if_false];go_enter Tryz.func73,Tryz.ntmps73
   go_wp2_with fail
   refine (HC.out _ (h.fr (by exact fx) (fun _ _=>id))).mono ?_;rintro e1 w1 ⟨rfl,hf⟩;have b2:=hf.new_cell (by simp [Non]) (o:=2) rfl;have f1:=HF.out w1 hf;go_wp2
   go_quiet (fail)
   go_wp2
   go_ret2
   exact ⟨rfl,((Fr.refl _ _).alloc _).trans hf |>.drewN _⟩
 · have d1:decide (n<0)=false:=decide_eq_false h1;by_cases h2:(L:Int)<m
   · have d2:decide ((L:Int)<m)=true:=decide_eq_true h2;rw [if_pos (Or.inr (Or.inl h2))];simp only [show ¬ ((13:Int)=0) by omega,if_false];go_enter Tryz.func73,Tryz.ntmps73
     go_wp2_with fail
     refine (HC.out _ (h.fr (by exact fx) (fun _ _=>id))).mono ?_;rintro e1 w1 ⟨rfl,hf⟩;have b2:=hf.new_cell (by simp [Non]) (o:=2) rfl;have f1:=HF.out w1 hf;go_wp2
     go_quiet (fail)
     go_wp2
     go_ret2
     exact ⟨rfl,((Fr.refl _ _).alloc _).trans hf |>.drewN _⟩
   · have d2:decide ((L:Int)<m)=false:=decide_eq_false h2;have hwr:IntKind.i64.wrap ((L:Int) - m)=(L:Int) - m:=IntWalk.i64_in _ (by omega);by_cases h3:(L:Int) - m<n
     · have d3:decide ((L:Int) - m<n)=true:=decide_eq_true h3;rw [if_pos (Or.inr (Or.inr h3))];simp only [show ¬ ((13:Int)=0) by omega,if_false];go_enter Tryz.func73,Tryz.ntmps73
       go_wp2_with fail
       refine (HC.out _ (h.fr (by exact fx) (fun _ _=>id))).mono ?_;rintro e1 w1 ⟨rfl,hf⟩;have b2:=hf.new_cell (by simp [Non]) (o:=2) rfl;have f1:=HF.out w1 hf;go_wp2
       go_quiet (fail)
       clear hwr;go_wp2
       go_ret2
       exact ⟨rfl,((Fr.refl _ _).alloc _).trans hf |>.drewN _⟩
     · have d3:decide ((L:Int) - m<n)=false:=decide_eq_false h3;have hn:¬ (n<0∨(L:Int)<m∨(L:Int) - m<n):=by rintro (h|h|h);exact h1 h;exact h2 h;exact h3 h
       simp only [if_neg hn,if_true];go_enter Tryz.func73,Tryz.ntmps73
       go_wp2_with fail
       refine (HC.out _ (h.fr (by exact fx) (fun _ _=>id))).mono ?_;rintro e1 w1 ⟨rfl,hf⟩;have b2:=hf.new_cell (by simp [Non]) (o:=2) rfl;have f1:=HF.out w1 hf;go_wp2
       go_quiet (fail)
       clear hwr;go_wp2
       go_ret2
       exact ⟨rfl,((Fr.refl _ _).alloc _).trans hf |>.drewN _⟩
theorem piece_bad (h:MemL D w mb ao cap bb arr wb zb M) (p:Bool) (a n m:Int) (hm:0≤m) (he:M.errp ⟨p,a,n⟩ m≠0) :
 Calls Tryz.prog 73 #[.pointer (Option.some ⟨mb,0,none⟩),.agg #[.bool p,.int .i64 a,.int .i64 n],.int .i64 m] w fun e w' =>
  e=.returned (.tuple #[.pointer none,.int .i64 (M.errp ⟨p,a,n⟩ m)])∧Fr Non w w':=by
 by_cases h0:M.errb ⟨p,a,n⟩=0
 · have:=piece_in h p a n m h0 hm;rw [if_neg he] at this
   have e:M.errp ⟨p,a,n⟩ m=13:=by
    unfold Mem.errp at *;rw [if_pos h0] at *;split at he
    · rw [if_pos (by assumption)]
    · exact absurd rfl he
   rw [e];exact this
 · have e:M.errp ⟨p,a,n⟩ m=M.errb ⟨p,a,n⟩:=by unfold Mem.errp;rw [if_neg h0]
   rw [e];exact piece_bad0 h p a n m h0
theorem piece_good (h:MemL D w mb ao cap bb arr wb zb M) (p:Bool) (a n m:Int) (hm:0≤m) (he:M.errp ⟨p,a,n⟩ m=0) :
 Calls Tryz.prog 73 #[.pointer (Option.some ⟨mb,0,none⟩),.agg #[.bool p,.int .i64 a,.int .i64 n],.int .i64 m] w fun e w' =>
  e=.returned (.tuple #[.pointer (Option.some ⟨bb,(a - 1).toNat * 3,none⟩),.int .i64 0])∧Fr Non w w':=by
 have:=piece_in h p a n m (Mem.errp_zero he).1 hm;rw [if_pos he] at this;exact this
end
end Go.Proofs.YtlbomnbpahmphaaGreat
