/- The plain law: the document's memory, a row of what was stored, tells what the program's memory tells. No condition. -/
import Derived.Test.YtlbomnbpahmphaaGreatD11
import Derived.Test.YtlbomnbpahmphaaGreatD08
set_option maxRecDepth 100000
set_option maxHeartbeats 1000000
namespace Go.Proofs.YtlbomnbpahmphaaGreat
structure RC where
 a:Int
 n:Int
 w:Wd
structure RM where
 room:Int
 blocks:List (Int × Bool)
 cells:List RC
def hitC (a n:Int) (c:RC):Bool:=(c.a == a) && (c.n == n)
def findC (cs:List RC) (a n:Int):Option Wd:=(cs.find? (hitC a n)).map (·.w)
def dropC (cs:List RC) (a n:Int):List RC:=cs.filter fun c=>!hitC a n c
def storeC (cs:List RC) (a n:Int) (x:Wd):List RC:=dropC cs a n ++ [⟨a,n,x⟩]
def clearC (cs:List RC) (a n:Int):Nat→List RC
 | 0=>cs
 | k+1=>dropC (clearC cs a n k) a (n+k)
def wordsR (l:List (Int × Bool)):Int:=(l.map fun b=>if b.2 then 0 else b.1).sum
def liveR (l:List (Int × Bool)):Nat:=(l.filter fun b=>!b.2).length
theorem find_drop (a n a' n':Int):∀ cs:List RC,findC (dropC cs a n) a' n'=if a'=a∧n'=n then none else findC cs a' n'
 | []=>by simp [dropC,findC]
 | c :: cs=>by
  have ih:=find_drop a n a' n' cs;unfold dropC findC at ih ⊢;rw [List.filter_cons];cases h:hitC a n c with
  | true =>
   simp only [Bool.not_true,Bool.false_eq_true,if_false];rw [ih,List.find?_cons];cases h2:hitC a' n' c with
   | true =>
    have:a'=a∧n'=n:=by
     unfold hitC at h h2;simp only [Bool.and_eq_true,beq_iff_eq] at h h2;omega
    rw [if_pos this,if_pos this]
   | false=>rfl
  | false =>
   simp only [Bool.not_false,if_true];rw [List.find?_cons,List.find?_cons];cases h2:hitC a' n' c with
   | true =>
    have:¬ (a'=a∧n'=n):=by
     rintro ⟨rfl,rfl⟩;rw [h] at h2;cases h2
    rw [if_neg this]
   | false=>exact ih
theorem find_store (a n a' n':Int) (x:Wd) (cs:List RC):findC (storeC cs a n x) a' n'=if a'=a∧n'=n then some x else findC cs a' n':=by
 have h:=find_drop a n a' n' cs;unfold storeC;unfold findC at h ⊢;rw [List.find?_append];by_cases e:a'=a∧n'=n
 · rw [if_pos e] at h ⊢;cases hf:(dropC cs a n).find? (hitC a' n') with
   | some y=>rw [hf] at h;cases h
   | none =>
    obtain ⟨rfl,rfl⟩:=e;simp [hitC]
 · rw [if_neg e] at h ⊢;rw [← h]
   have hno:hitC a' n' ⟨a,n,x⟩=false:=by
    unfold hitC;by_cases h1:a=a'
    · subst h1;have:¬ n=n':=fun e2=>e ⟨rfl,e2.symm⟩;simp [this]
    · simp [h1]
   cases hf:(dropC cs a n).find? (hitC a' n') with
   | some y=>rfl
   | none=>simp [hno]
theorem find_clear (a n a' n':Int) (cs:List RC):∀ k:Nat,findC (clearC cs a n k) a' n'=if a'=a∧n≤n'∧n'<n+k then none else findC cs a' n'
 | 0=>by rw [if_neg (by omega)];rfl
 | k+1=>by
  rw [clearC,find_drop,find_clear a n a' n' cs k];by_cases h1:a'=a∧n'=n+k
  · rw [if_pos h1,if_pos (by omega)]
  · rw [if_neg h1];by_cases h2:a'=a∧n≤n'∧n'<n+k
    · rw [if_pos h2,if_pos (by omega)]
    · rw [if_neg h2,if_neg (by omega)]
structure RelM (R:RM) (M:Mem):Prop where
 room:R.room=M.room
 len:R.blocks.length=M.blocks.length
 blk:∀ (i:Nat) (b:Blk),M.blocks[i]?=some b→∃ n,R.blocks[i]?=some (n,b.freed)∧(b.freed=false→n=b.words.length∧∀ j:Nat,j<b.words.length→findC R.cells (i+1) j=if b.set.getD j false then b.words[j]? else none)
 ok:M.ok
 old:∀ c∈R.cells,c.a≤R.blocks.length
section
variable {R:RM} {M:Mem}
theorem words_used:∀ (l:List (Int × Bool)) (m:List Blk),l.length=m.length→(∀ (i:Nat) (b:Blk),m[i]?=some b→∃ n,l[i]?=some (n,b.freed)∧(b.freed=false→n=b.words.length))→(∀ b∈m,b.ok)→wordsR l=used m∧liveR l=live m
 | [],[],_,_,_=>⟨rfl,rfl⟩
 | [],_ :: _,h,_,_=>by cases h
 | _ :: _,[],h,_,_=>by cases h
 | x :: l,b :: m,h,hb,ho=>by
  obtain ⟨i1,i2⟩:=words_used l m (by simpa using h) (fun i b' hi=>hb (i+1) b' (by simpa using hi)) fun b' hb'=>ho b' (List.mem_cons_of_mem _ hb');obtain ⟨n,h1,h2⟩:=hb 0 b rfl;have hx:x=(n,b.freed):=by simpa using h1
  subst hx;unfold wordsR liveR used live at *;simp only [List.map_cons,List.sum_cons,List.filter_cons];cases hf:b.freed with
  | true =>
   have:=(ho b List.mem_cons_self).2 hf;simp only [if_true,this,List.length_nil,Bool.not_true,Bool.false_eq_true,if_false];exact ⟨by omega,i2⟩
  | false =>
   simp only [Bool.false_eq_true,if_false,Bool.not_false,if_true,List.length_cons];have:=h2 hf;exact ⟨by push_cast;omega,by omega⟩
theorem RelM.words (h:RelM R M):wordsR R.blocks=used M.blocks∧liveR R.blocks=live M.blocks :=
 words_used _ _ h.len (fun i b hb=>by obtain ⟨n,h1,h2⟩:=h.blk i b hb;exact ⟨n,h1,fun e=>(h2 e).1⟩) h.ok.blk
theorem ok_put (h:M.ok) {k:Nat} {b b':Blk} (hk:M.blocks[k]?=some b) (hw:b'.words.length≤b.words.length) (hb:b'.ok):(M.put k b').ok:=by
 have:=used_set hk b';refine ⟨h.room,?_,fun c hc=>?_⟩
 · have:=h.used;show ((used (M.blocks.set k b'):Nat):Int)≤M.room;omega
 · rcases List.mem_or_eq_of_mem_set hc with hc|rfl
   · exact h.blk c hc
   · exact hb
theorem ok_blk (h:M.ok) {k:Nat} {b:Blk} (hk:M.blocks[k]?=some b):b.words.length≤1048576:=by
 have:=used_mem (List.mem_of_getElem? hk);have:=h.used;have:=h.room;omega
theorem errb_get {p:Wd} (h:M.errb p=0):p.p=true∧∃ (k:Nat) (b:Blk),p.a=(k:Int)+1∧M.blocks[k]?=some b∧M.blk p.a=b∧b.freed=false:=by
 unfold Mem.errb at h;split at h
 · cases h
 · rename_i h1;split at h
   · cases h
   · rename_i h2;split at h
     · cases h
     · rename_i h3;refine ⟨by simpa using h1,(p.a - 1).toNat,M.blk p.a,by omega,?_,rfl,by simpa using h3⟩;unfold Mem.blk;rw [List.getD_eq_getElem?_getD,List.getElem?_eq_getElem (by omega)]
       rfl
theorem errp_get {p:Wd} {n:Int} (h:M.errp p n=0):M.errb p=0∧0≤p.n∧n≤((M.blk p.a).words.length:Int)∧p.n≤((M.blk p.a).words.length:Int) - n:=by
 unfold Mem.errp at h;split at h
 · rename_i h1;split at h
   · cases h
   · exact ⟨h1,by omega,by omega,by omega⟩
 · rename_i h1;exact absurd h h1
theorem RelM.find (h:RelM R M) {p:Wd} (he:M.errp p 1=0):findC R.cells p.a p.n=if (M.blk p.a).set.getD p.n.toNat false then some ((M.blk p.a).words.getD p.n.toNat Wd.zero) else none:=by
 obtain ⟨h1,h2,h3,h4⟩:=errp_get he;obtain ⟨_,k,b,ha,hb,hbb,hf⟩:=errb_get h1;rw [hbb] at h3 h4 ⊢;obtain ⟨n,g1,g2⟩:=h.blk k b hb;obtain ⟨_,g4⟩:=g2 hf;have hlt:p.n.toNat<b.words.length:=by omega
 have:=g4 p.n.toNat hlt;rw [show ((p.n.toNat:Nat):Int)=p.n by omega,← ha] at this;rw [this,List.getD_eq_getElem?_getD,List.getD_eq_getElem?_getD,List.getElem?_eq_getElem hlt]
 rfl
theorem RelM.alloc (h:RelM R M) {n:Int} (h0:0≤n) (h1:¬ M.room - (used M.blocks:Int)<n):RelM { R with blocks:=R.blocks ++ [(n,false)] } { M with blocks:=M.blocks ++ [Blk.new n.toNat] }:=by
 refine ⟨h.room,by simp [h.len],fun i b hb=>?_,⟨h.ok.room,?_,fun b hb=>?_⟩,fun c hc=>?_⟩
 · by_cases hi:i<M.blocks.length
   · rw [List.getElem?_append_left hi] at hb;obtain ⟨m,g1,g2⟩:=h.blk i b hb;exact ⟨m,by rw [List.getElem?_append_left (by rw [h.len];exact hi)];exact g1,g2⟩
   · have hi2:i=M.blocks.length:=by
      have:=(List.getElem?_eq_some_iff.1 hb).1;simp at this;omega
     subst hi2;have hb2:b=Blk.new n.toNat:=by simpa using hb.symm
     subst hb2;refine ⟨n,by rw [← h.len];simp [Blk.new],fun _=>⟨by simp [Blk.new];omega,fun j hj=>?_⟩⟩
     have hno:findC R.cells ((M.blocks.length:Int)+1) j=none:=by
      unfold findC;rw [List.find?_eq_none.2]
      · rfl
      · intro c hc;have:=h.old c hc;have:=h.len;simp [hitC];omega
     rw [hno];have hj':j<n.toNat:=by simpa [Blk.new] using hj
     simp [Blk.new,hj']
 · rw [used_append];have:used [Blk.new n.toNat]=n.toNat:=by simp [used,Blk.new]
   show ((used M.blocks+used [Blk.new n.toNat]:Nat):Int)≤M.room;omega
 · rcases List.mem_append.1 hb with hb|hb
   · exact h.ok.blk b hb
   · rw [List.mem_singleton] at hb;subst hb;exact ⟨by simp [Blk.new],fun e=>by cases e⟩
 · have:=h.old c hc;simp;omega
theorem RelM.free (h:RelM R M) {p:Wd} (he:M.errb p=0) (m:Int):RelM { R with blocks:=R.blocks.set (p.a - 1).toNat (m,true) } (M.put (p.a - 1).toNat Blk.gone):=by
 obtain ⟨_,k,b,ha,hb,hbb,hf⟩:=errb_get he;have hkk:(p.a - 1).toNat=k:=by omega
 rw [hkk];have hkl:=(List.getElem?_eq_some_iff.1 hb).1;refine ⟨h.room,by simp [Mem.put,h.len],fun i c hc=>?_,ok_put h.ok hb (by simp [Blk.gone]) ⟨rfl,fun _=>rfl⟩,fun c hc=>by have:=h.old c hc;simpa using this⟩;simp only [Mem.put] at hc;rw [List.getElem?_set] at hc ⊢;by_cases e:k=i
 · subst e;rw [if_pos rfl,if_pos hkl] at hc;rw [if_pos rfl,if_pos (by rw [h.len];exact hkl)];cases hc
   exact ⟨m,rfl,fun e=>by cases e⟩
 · rw [if_neg e] at hc ⊢;exact h.blk i c hc
theorem RelM.turn (h:RelM R M) {k:Nat} {b b':Blk} (hb:M.blocks[k]?=some b) (hf:b.freed=false) (hf':b'.freed=false) (hw:b'.words.length=b.words.length) (hs:b'.set.length=b.set.length) {cs:List RC} (hin:∀ j:Nat,j<b.words.length→findC cs (k+1) j=if b'.set.getD j false then b'.words[j]? else none)
 (hout:∀ a n:Int,a≠k+1→findC cs a n=findC R.cells a n) (hold:∀ c∈cs,c.a≤R.blocks.length):RelM { R with cells:=cs } (M.put k b'):=by
 have hkl:=(List.getElem?_eq_some_iff.1 hb).1;have hbo:=h.ok.blk b (List.mem_of_getElem? hb);refine ⟨h.room,by simp [Mem.put,h.len],fun i c hc=>?_,ok_put h.ok hb (by omega) ⟨by rw [hw,hs];exact hbo.1,fun e=>by rw [hf'] at e;cases e⟩,hold⟩;simp only [Mem.put] at hc;rw [List.getElem?_set] at hc;by_cases e:k=i
 · subst e;rw [if_pos rfl,if_pos hkl] at hc;cases hc
   obtain ⟨n,g1,g2⟩:=h.blk k b hb;exact ⟨n,by rw [g1,hf,hf'],fun _=>⟨by rw [hw];exact (g2 hf).1,fun j hj=>hin j (by omega)⟩⟩
 · rw [if_neg e] at hc;obtain ⟨n,g1,g2⟩:=h.blk i c hc;refine ⟨n,g1,fun e2=>⟨(g2 e2).1,fun j hj=>?_⟩⟩;rw [hout _ _ (by omega)];exact (g2 e2).2 j hj
end
theorem splice_get {α:Type} {l c:List α} {o k:Nat} (h:o+c.length≤l.length):(splice l o c)[k]?=if k<o then l[k]? else if k<o+c.length then c[k - o]? else l[k]?:=by
 unfold splice;have hl:(l.take o).length=o:=by rw [List.length_take];omega
 by_cases h1:k<o
 · rw [if_pos h1,List.getElem?_append_left (by omega),List.getElem?_take,if_pos h1]
 · rw [if_neg h1,List.getElem?_append_right (by omega),hl];by_cases h2:k<o+c.length
   · rw [if_pos h2,List.getElem?_append_left (by omega)]
   · rw [if_neg h2,List.getElem?_append_right (by omega),List.getElem?_drop]
     congr 1
     omega
theorem splice_length {α:Type} {l c:List α} {o:Nat} (h:o+c.length≤l.length):(splice l o c).length=l.length:=by
 unfold splice;simp;omega
section
variable {R:RM} {M:Mem}
theorem store_old {cs:List RC} {a n m:Int} {x:Wd} (h:∀ c∈cs,c.a≤m) (ha:a≤m):∀ c∈storeC cs a n x,c.a≤m:=fun c hc=>by
 rcases List.mem_append.1 hc with hc|hc
 · exact h c (List.mem_filter.1 hc).1
 · rw [List.mem_singleton] at hc;subst hc;exact ha
theorem clear_old {cs:List RC} {a n m:Int} (h:∀ c∈cs,c.a≤m):∀ k,∀ c∈clearC cs a n k,c.a≤m
 | 0=>h
 | k+1=>fun c hc=>clear_old h k c (List.mem_filter.1 hc).1
theorem RelM.store (h:RelM R M) {p:Wd} (he:M.errp p 1=0) (x:Wd):RelM { R with cells:=storeC R.cells p.a p.n x } (M.store p x).1:=by
 obtain ⟨h1,h2,h3,h4⟩:=errp_get he;obtain ⟨_,k,b,ha,hb,hbb,hf⟩:=errb_get h1;rw [hbb] at h3 h4
 have hM:(M.store p x).1=M.put k (b.put p.n.toNat x):=by
  unfold Mem.store;rw [if_neg (by rw [he];simp),hbb,show (p.a - 1).toNat=k by omega]
 rw [hM,ha];have hbo:=h.ok.blk b (List.mem_of_getElem? hb);obtain ⟨n,g1,g2⟩:=h.blk k b hb;obtain ⟨_,g4⟩:=g2 hf;have hkl:=(List.getElem?_eq_some_iff.1 hb).1;refine h.turn (b':=b.put p.n.toNat x) (cs:=storeC R.cells ((k:Int)+1) p.n x) hb hf hf (by simp [Blk.put]) (by simp [Blk.put]) (fun j hj=>?_) (fun a n hne=>?_) (store_old h.old (show (k:Int)+1≤(R.blocks.length:Int) by have:=h.len;omega))
 · rw [find_store];by_cases e:(j:Int)=p.n
   · rw [if_pos ⟨rfl,e⟩];have e2:p.n.toNat=j:=by omega
     have q1:(b.put p.n.toNat x).set.getD j false=true:=by
      rw [e2];simp only [Blk.put];rw [List.getD_eq_getElem?_getD,List.getElem?_set,if_pos rfl,if_pos (by rw [hbo.1];exact hj)]
      rfl
     have q2:(b.put p.n.toNat x).words[j]?=some x:=by
      rw [e2];simp only [Blk.put];rw [List.getElem?_set,if_pos rfl,if_pos hj]
     simp only [q1,q2,if_true]
   · have q1:(b.put p.n.toNat x).set.getD j false=b.set.getD j false:=by
      simp only [Blk.put];rw [List.getD_eq_getElem?_getD,List.getD_eq_getElem?_getD,List.getElem?_set_ne (by omega)]
     have q2:(b.put p.n.toNat x).words[j]?=b.words[j]?:=by
      simp only [Blk.put];rw [List.getElem?_set_ne (by omega)]
     rw [if_neg (fun q=>e q.2),g4 j hj];simp only [q1,q2]
 · rw [find_store,if_neg (fun q=>hne q.1)]
theorem RelM.clear (h:RelM R M) {p:Wd} {m:Nat} (he:M.errp p m=0):RelM { R with cells:=clearC R.cells p.a p.n m } (M.clear p m).1:=by
 obtain ⟨h1,h2,h3,h4⟩:=errp_get he;obtain ⟨_,k,b,ha,hb,hbb,hf⟩:=errb_get h1;rw [hbb] at h3 h4
 have hM:(M.clear p m).1=M.put k (b.clear p.n.toNat m):=by
  unfold Mem.clear;rw [if_neg (by omega),if_neg (by rw [he];simp),hbb,show (p.a - 1).toNat=k by omega,Int.toNat_natCast]
 rw [hM,ha];have hbo:=h.ok.blk b (List.mem_of_getElem? hb);obtain ⟨n,g1,g2⟩:=h.blk k b hb;obtain ⟨_,g4⟩:=g2 hf;have hsl:p.n.toNat+(List.replicate m false).length≤b.set.length:=by rw [List.length_replicate,hbo.1];omega
 refine h.turn (b':=b.clear p.n.toNat m) (cs:=clearC R.cells ((k:Int)+1) p.n m) hb hf hf rfl (splice_length hsl) (fun j hj=>?_) (fun a n hne=>?_) (clear_old h.old m)
 · rw [find_clear]
   have e:(b.clear p.n.toNat m).set.getD j false=if j<p.n.toNat then b.set.getD j false else if j<p.n.toNat+m then false else b.set.getD j false:=by
    simp only [Blk.clear];rw [List.getD_eq_getElem?_getD,splice_get hsl,List.length_replicate];split
    · rw [List.getD_eq_getElem?_getD]
    · split
      · rw [List.getElem?_replicate,if_pos (by omega)];rfl
      · rw [List.getD_eq_getElem?_getD]
   by_cases e1:j<p.n.toNat
   · rw [if_pos e1] at e;rw [if_neg (by omega),g4 j hj];simp only [e]
     rfl
   · rw [if_neg e1] at e;by_cases e2:j<p.n.toNat+m
     · rw [if_pos e2] at e;rw [if_pos ⟨rfl,by omega,by omega⟩];simp only [e]
       rfl
     · rw [if_neg e2] at e;rw [if_neg (by omega),g4 j hj];simp only [e]
       rfl
 · rw [find_clear,if_neg (fun q=>hne q.1)]
end
theorem errp_put {M:Mem} {k:Nat} {b b':Blk} (hb:M.blocks[k]?=some b) (hf:b.freed=false) (hf':b'.freed=false) (hw:b'.words.length=b.words.length) (q:Wd) (n:Int):(M.put k b').errp q n=M.errp q n∧(q.a=(k:Int)+1→(M.put k b').blk q.a=b'):=by
 have hkl:=(List.getElem?_eq_some_iff.1 hb).1
 have hbl:∀ a:Int,1≤a→(M.put k b').blk a=if a=(k:Int)+1 then b' else M.blk a:=fun a ha=>by
  unfold Mem.blk Mem.put;rw [List.getD_eq_getElem?_getD,List.getElem?_set];by_cases e:a=(k:Int)+1
  · rw [if_pos (by omega),if_pos hkl,if_pos e];rfl
  · rw [if_neg (by omega),if_neg e,List.getD_eq_getElem?_getD]
 have hMb:∀ a:Int,a=(k:Int)+1→M.blk a=b:=fun a e=>by
  unfold Mem.blk;rw [e,show ((k:Int)+1 - 1).toNat=k by omega,List.getD_eq_getElem?_getD,hb]
  rfl
 have hlen:(M.put k b').blocks.length=M.blocks.length:=by simp [Mem.put]
 refine ⟨?_,fun e=>by rw [hbl _ (by omega),if_pos e]⟩
 have hberr:(M.put k b').errb q=M.errb q:=by
  unfold Mem.errb;rw [hlen];by_cases h1:q.a<1∨(M.blocks.length:Int)<q.a
  · simp only [if_pos h1]
  · rw [hbl _ (by omega)];by_cases e:q.a=(k:Int)+1
    · rw [if_pos e,hMb _ e,hf,hf']
    · rw [if_neg e]
 unfold Mem.errp;rw [hberr];split
 · rename_i h0;obtain ⟨_,j,c,ha,_⟩:=errb_get h0;rw [hbl _ (by omega)];by_cases e:q.a=(k:Int)+1
   · rw [if_pos e,hMb _ e,hw]
   · rw [if_neg e]
 · rfl
theorem fill_snoc {b:Blk} (hbo:b.set.length=b.words.length) {j:Nat} {l:List Wd} {x:Wd} (h:j+l.length+1≤b.words.length):(b.fill j l).put (j+l.length) x=b.fill j (l ++ [x]):=by
 have h1:j+l.length≤b.words.length:=by omega
 have h2:j+(List.replicate l.length true).length≤b.set.length:=by rw [List.length_replicate];omega
 have h3:j+(l ++ [x]).length≤b.words.length:=by simp;omega
 have h4:j+(List.replicate (l ++ [x]).length true).length≤b.set.length:=by rw [List.length_replicate];simp;omega
 unfold Blk.fill Blk.put;simp only [Blk.mk.injEq,and_true];constructor
 · refine List.ext_getElem? fun t=>?_;rw [List.getElem?_set,splice_get h1,splice_get h3,splice_length h1,List.length_append,List.length_singleton];by_cases e:j+l.length=t
   · rw [if_pos e,if_pos (by omega),if_neg (by omega),if_pos (by omega),show t - j=l.length by omega,List.getElem?_append_right (Nat.le_refl _)];simp
   · rw [if_neg e];by_cases e1:t<j
     · rw [if_pos e1,if_pos e1]
     · rw [if_neg e1,if_neg e1];by_cases e2:t<j+l.length
       · rw [if_pos e2,if_pos (by omega),List.getElem?_append_left (by omega)]
       · rw [if_neg e2,if_neg (by omega)]
 · refine List.ext_getElem? fun t=>?_;rw [List.getElem?_set,splice_get h2,splice_get h4,splice_length h2,List.length_replicate,List.length_replicate,List.length_append,List.length_singleton];by_cases e:j+l.length=t
   · rw [if_pos e,if_pos (by omega),if_neg (by omega),if_pos (by omega),List.getElem?_replicate,if_pos (by omega)]
   · rw [if_neg e];by_cases e1:t<j
     · rw [if_pos e1,if_pos e1]
     · rw [if_neg e1,if_neg e1];by_cases e2:t<j+l.length
       · rw [if_pos e2,if_pos (by omega),List.getElem?_replicate,List.getElem?_replicate,if_pos (by omega),if_pos (by omega)]
       · rw [if_neg e2,if_neg (by omega)]
theorem stores_fill {M:Mem} (hM:M.ok) {p:Wd} {n:Nat} (he:M.errp p n=0) (l:List Wd) (x:Wd) (hl:l.length+1≤n) :
 ((M.put (p.a - 1).toNat ((M.blk p.a).fill p.n.toNat l)).store ⟨true,p.a,p.n+l.length⟩ x)=(M.put (p.a - 1).toNat ((M.blk p.a).fill p.n.toNat (l ++ [x])),0):=by
 obtain ⟨h1,h2,h3,h4⟩:=errp_get he;obtain ⟨hpp,k,b,ha,hb,hbb,hf⟩:=errb_get h1;rw [hbb] at h3 h4 ⊢;have hbo:=hM.blk b (List.mem_of_getElem? hb);have hkk:(p.a - 1).toNat=k:=by omega
 rw [hkk];have hw:(b.fill p.n.toNat l).words.length=b.words.length:=by unfold Blk.fill;exact splice_length (by omega)
 obtain ⟨q1,q2⟩:=errp_put (b':=b.fill p.n.toNat l) hb hf hf hw ⟨true,p.a,p.n+l.length⟩ 1;have q2:=q2 ha;simp only at q2
 have q0:M.errp ⟨true,p.a,p.n+l.length⟩ 1=0:=by
  have hb0:M.errb ⟨true,p.a,p.n+l.length⟩=0:=by
   unfold Mem.errb at h1 ⊢;rw [hpp] at h1;exact h1
  unfold Mem.errp;rw [if_pos hb0,if_neg];simp only;rw [hbb];omega
 unfold Mem.store;rw [q1,q0,if_neg (by simp)];simp only [Prod.mk.injEq,and_true];rw [hkk,q2];have:(p.n+(l.length:Int)).toNat=p.n.toNat+l.length:=by omega
 rw [this,fill_snoc hbo.1 (by omega)];simp [Mem.put,List.set_set]
end Go.Proofs.YtlbomnbpahmphaaGreat
namespace Go.Proofs.YtlbomnbpahmphaaGreat
open Go.RowKit
def rblks (l:List (Int × Bool)):List Value:=l.flatMap fun b=>[.int .i64 b.1,.bool b.2]
def RC.cs (c:RC):List Value:=[.int .i64 c.a,.int .i64 c.n,.bool c.w.p,.int .i64 c.w.a,.int .i64 c.w.n]
def rcells (l:List RC):List Value:=l.flatMap RC.cs
theorem rblks_cons (b:Int × Bool) (l:List (Int × Bool)):rblks (b :: l)=.int .i64 b.1 :: .bool b.2 :: rblks l:=rfl
theorem rblks_append (l m:List (Int × Bool)):rblks (l ++ m)=rblks l ++ rblks m:=by simp [rblks]
theorem rcells_cons (c:RC) (l:List RC):rcells (c :: l)=.int .i64 c.a :: .int .i64 c.n :: .bool c.w.p :: .int .i64 c.w.a :: .int .i64 c.w.n :: rcells l:=rfl
theorem rcells_append (l m:List RC):rcells (l ++ m)=rcells l ++ rcells m:=by simp [rcells]
theorem rblks_get {l:List (Int × Bool)} {i:Nat} {n:Int} {f:Bool} (h:l[i]?=some (n,f)):(rblks l)[i * 2]?=some (.int .i64 n)∧(rblks l)[i * 2+1]?=some (.bool f):=by
 induction l generalizing i with
 | nil=>simp at h
 | cons x l ih =>
  cases i with
  | zero=>simp at h;subst h;simp [rblks_cons]
  | succ i =>
   have:=ih (i:=i) (by simpa using h);rw [rblks_cons,show (i+1) * 2=i * 2+2 by omega];exact this
theorem rcells_get {l:List RC} {i:Nat} {c:RC} (h:l[i]?=some c):(rcells l)[i * 5]?=some (.int .i64 c.a)∧(rcells l)[i * 5+1]?=some (.int .i64 c.n)∧(rcells l)[i * 5+2]?=some (.bool c.w.p)∧(rcells l)[i * 5+3]?=some (.int .i64 c.w.a)∧(rcells l)[i * 5+4]?=some (.int .i64 c.w.n):=by
 induction l generalizing i with
 | nil=>simp at h
 | cons x l ih =>
  cases i with
  | zero=>simp at h;subst h;simp [rcells_cons]
  | succ i =>
   have:=ih (i:=i) (by simpa using h);rw [rcells_cons,show (i+1) * 5=i * 5+5 by omega];exact this
structure RL (w:World) (q:Nat) (bv cv:Value) (R:RM):Prop where
 row:Row w q 116 [.int .i64 R.room,bv,cv]
 ob:Own w bv 118 2 R.blocks.length (rblks R.blocks)
 oc:Own w cv 152 5 R.cells.length (rcells R.cells)
structure RI (A:Nat→Prop) (B:Nat) (w:World) (q:Nat) (M:Mem) (bv cv:Value) (R:RM):Prop where
 lay:RL w q bv cv R
 rel:RelM R M
 aq:A q
 ab:∀ g,bv.ownBlock=some g→A g
 ac:∀ g,cv.ownBlock=some g→A g
 few:R.cells.length≤B
def RJ (A:Nat→Prop) (B:Nat) (w:World) (q:Nat) (M:Mem):Prop:=(∀ x,A x→x<w.heap.size)∧∃ bv cv R,RI A B w q M bv cv R
structure QF (A A':Nat→Prop) (w w':World):Prop where
 fr:Fr A w w'
 sub:∀ x,A' x→A x∨w.heap.size≤x
section
variable {A A':Nat→Prop} {B:Nat} {w w':World} {q:Nat} {M:Mem} {bv cv:Value} {R:RM} {D:Nat→Prop}
theorem RI.fr (h:RI A B w q M bv cv R) (f:Fr D w w') (hd:∀ x,A x→¬ D x):RI A B w' q M bv cv R :=
 ⟨⟨f.row h.lay.row (hd _ h.aq),h.lay.ob.fr f (fun g hg=>hd g (h.ab g hg)),h.lay.oc.fr f (fun g hg=>hd g (h.ac g hg))⟩,h.rel,h.aq,h.ab,h.ac,h.few⟩
theorem RI.non (h:RI A B w q M bv cv R) (f:Fr Non w w'):RI A B w' q M bv cv R:=h.fr f fun _ _ h=>h
theorem RJ.fr (h:RJ A B w q M) (f:Fr D w w') (hd:∀ x,A x→¬ D x):RJ A B w' q M:=by
 obtain ⟨hl,bv,cv,R,h⟩:=h;exact ⟨fun x hx=>Nat.lt_of_lt_of_le (hl x hx) f.size,bv,cv,R,h.fr f hd⟩
theorem RJ.non (h:RJ A B w q M) (f:Fr Non w w'):RJ A B w' q M:=h.fr f fun _ _ h=>h
theorem RJ.more {B':Nat} (h:RJ A B w q M) (hb:B≤B'):RJ A B' w q M:=by
 obtain ⟨hl,bv,cv,R,h⟩:=h;exact ⟨hl,bv,cv,R,h.lay,h.rel,h.aq,h.ab,h.ac,by have:=h.few;omega⟩
theorem RI.canon (h:RI A B w q M bv cv R):RJ (fun x=>x=q∨bv.ownBlock=some x∨cv.ownBlock=some x) B w q M :=
 ⟨fun x hx=>by
  rcases hx with rfl|hx|hx
  · exact h.lay.row.lt
  · exact h.lay.ob.lt hx
  · exact h.lay.oc.lt hx,bv,cv,R,h.lay,h.rel,Or.inl rfl,fun g hg=>Or.inr (Or.inl hg),fun g hg=>Or.inr (Or.inr hg),h.few⟩
theorem QF.refl (A:Nat→Prop) (w:World):QF A A w w:=⟨Fr.refl _ _,fun _ h=>Or.inl h⟩
theorem QF.non (f:Fr Non w w'):QF A A w w':=⟨f.mono fun _ _ h=>h.elim,fun _ h=>Or.inl h⟩
theorem QF.trans {A2:Nat→Prop} {w2:World} (h:QF A A' w w') (k:QF A' A2 w' w2):QF A A2 w w2 :=
 ⟨h.fr.then k.fr fun x hx hA=>(h.sub x hA).elim id fun h2=>absurd hx (by omega),fun x hx=>(k.sub x hx).elim (fun h2=>h.sub x h2) fun h2=>Or.inr (by have:=h.fr.size;omega)⟩
theorem RI.freed (h:RI A B w q M bv cv R) {i:Nat} {b:Blk} (hb:M.blocks[i]?=some b):∃ n,(rblks R.blocks)[i * 2]?=some (.int .i64 n)∧(rblks R.blocks)[i * 2+1]?=some (.bool b.freed)∧(b.freed=false→n=b.words.length):=by
 obtain ⟨n,h1,h2⟩:=h.rel.blk i b hb;obtain ⟨g1,g2⟩:=rblks_get h1;exact ⟨n,g1,g2,fun e=>(h2 e).1⟩
theorem qcheck_c (h:RI A B w q M bv cv R) (p:Wd):Calls Tryz.prog 76 #[.pointer (some ⟨q,0,none⟩),.agg #[.bool p.p,.int .i64 p.a,.int .i64 p.n]] w fun e w'=>e=.returned (.int .i64 (M.errb p))∧Fr Non w w':=by
 have c1:=h.lay.row.cell (o:=1) rfl;have hql:=h.lay.row.lt;obtain ⟨ba,bc,ebv,hz1,hz2,hbg,hz3⟩:=h.lay.ob.form;subst ebv;have hmx:R.blocks.length≤maxLen:=by omega
 clear hz1 hz2 hz3;obtain ⟨E,hE⟩:∃ E,E=M.errb p:=⟨_,rfl⟩;rw [← hE];unfold Mem.errb at hE;have hlen:=h.rel.len;have HH:=Lib.hid (And.intro h (And.intro hE hbg));clear h hE hbg;obtain ⟨pp,pa,pn⟩:=p;simp only at HH ⊢;cases pp with
 | false =>
  go_enter Tryz.func76,Tryz.ntmps76
  go_wp2_with fail
  go_ret
  exact ⟨by rw [HH.out.2.1,if_pos trivial];rfl,by exact fx⟩
 | true =>
  have hE2:=HH.out.2.1;rw [if_neg (by simp)] at hE2;have HE:=Lib.hid hE2;clear hE2;by_cases h1:pa<1
  · have d1:decide (pa<1)=true:=decide_eq_true h1;go_enter Tryz.func76,Tryz.ntmps76
    go_wp2_with fail
    go_quiet (fail)
    go_wp2_with fail
    go_ret
    exact ⟨by rw [HE.out,if_pos (Or.inl h1)];rfl,by exact fx⟩
  have d1:decide (pa<1)=false:=decide_eq_false h1;by_cases h2:(M.blocks.length:Int)<pa
  · have d2:decide ((R.blocks.length:Int)<pa)=true:=decide_eq_true (by omega);go_enter Tryz.func76,Tryz.ntmps76
    go_wp2_with fail
    go_quiet (fail)
    go_wp2_with fail
    go_ret
    exact ⟨by rw [HE.out,if_pos (Or.inr h2)];rfl,by exact fx⟩
  have d2:decide ((R.blocks.length:Int)<pa)=false:=decide_eq_false (by omega);have hE3:=HE.out;rw [if_neg (by omega)] at hE3;obtain ⟨k,hk⟩:=Int.eq_ofNat_of_zero_le (show 0≤pa - 1 by omega);have hkl:k<M.blocks.length:=by omega
  obtain ⟨b,hb⟩:∃ b,M.blocks[k]?=some b:=⟨M.blocks[k],List.getElem?_eq_getElem hkl⟩
  have hbb:M.blk pa=b:=by
   unfold Mem.blk;rw [show (pa - 1).toNat=k by omega,List.getD_eq_getElem?_getD,hb]
   rfl
  rw [hbb] at hE3;obtain ⟨g,rfl⟩:=HH.out.2.2 (by omega);obtain ⟨n,z1,z2,z3⟩:=HH.out.1.freed hb;have k1:=HH.out.1.lay.ob.cell rfl z2;have kgl:=HH.out.1.lay.ob.lt (g:=g) rfl;have hw:IntKind.i64.wrap (pa - 1)=(k:Int):=by rw [hk];exact IntWalk.i64_in _ (by unfold maxLen at hmx;omega)
  have j0:(0:Int)≤(k:Int):=by omega
  have j1:(k:Int)<(R.blocks.length:Int):=by omega
  have j2:k<R.blocks.length:=by omega
  have HE3:=Lib.hid hE3;clear hE3 hk hb hbb z1 z2 z3;cases hf:b.freed with
  | true =>
   rw [hf] at k1;go_enter Tryz.func76,Tryz.ntmps76
   go_wp2_with fail
   go_quiet (fail)
   go_wp2_with fail
   go_quiet (fail)
   go_wp2_with fail
   go_ret
   exact ⟨by rw [HE3.out,hf];rfl,by exact fx⟩
  | false =>
   rw [hf] at k1;go_enter Tryz.func76,Tryz.ntmps76
   go_wp2_with fail
   go_quiet (fail)
   go_wp2_with fail
   go_quiet (fail)
   go_wp2_with fail
   go_ret
   exact ⟨by rw [HE3.out,hf];rfl,by exact fx⟩
theorem qhas_c (h:RI A B w q M bv cv R) (p:Wd) (he:M.errb p=0) (n:Int) (hn:0≤n∧n≤1099511627776):Calls Tryz.prog 77 #[.pointer (some ⟨q,0,none⟩),.agg #[.bool p.p,.int .i64 p.a,.int .i64 p.n],.int .i64 n] w fun e w'=>e=.returned (.bool (M.errp p n == 0))∧Fr Non w w':=by
 have c1:=h.lay.row.cell (o:=1) rfl;have hql:=h.lay.row.lt;obtain ⟨ba,bc,ebv,hz1,hz2,hbg,hz3⟩:=h.lay.ob.form;subst ebv;have hmx:R.blocks.length≤maxLen:=by omega
 clear hz1 hz2 hz3;obtain ⟨hpp,k,b,ha,hb,hbb,hf⟩:=errb_get he;have hlen:=h.rel.len;have hkl:k<M.blocks.length:=(List.getElem?_eq_some_iff.1 hb).1;have hbw:=ok_blk h.rel.ok hb;obtain ⟨m,z1,z2,z3⟩:=h.freed hb;have z3:=z3 hf;subst z3;obtain ⟨g,rfl⟩:=hbg (by omega);have k0:=h.lay.ob.cell rfl z1;have kgl:=h.lay.ob.lt (g:=g) rfl;have hw:IntKind.i64.wrap (p.a - 1)=(k:Int):=by rw [show p.a - 1=(k:Int) by omega];exact IntWalk.i64_in _ (by unfold maxLen at hmx;omega)
 have hw2:IntKind.i64.wrap ((b.words.length:Int) - n)=(b.words.length:Int) - n:=IntWalk.i64_in _ (by omega);have j0:(0:Int)≤(k:Int):=by omega
 have j1:(k:Int)<(R.blocks.length:Int):=by omega
 have j2:k<R.blocks.length:=by omega
 obtain ⟨E,hE⟩:∃ E,E=(M.errp p n == 0):=⟨_,rfl⟩;rw [← hE];unfold Mem.errp at hE;rw [if_pos he,hbb] at hE;have HE:=Lib.hid hE;have HH:=Lib.hid (And.intro h hb);clear h hE hb hbb he hbg z1 z2 hf;obtain ⟨pp,pa,pn⟩:=p;simp only at HE hpp ha hw ⊢;subst hpp;subst ha;have hw3:IntKind.i64.wrap (k:Int)=(k:Int):=IntWalk.i64_in _ (by unfold maxLen at hmx;omega);have j1':(k:Int)<(M.blocks.length:Int):=by omega
 by_cases h1:0≤pn
 · have d1:decide (0≤pn)=true:=decide_eq_true h1;by_cases h2:n≤(b.words.length:Int)
   · have d2:decide (n≤(b.words.length:Int))=true:=decide_eq_true h2;go_enter Tryz.func77,Tryz.ntmps77
     go_wp2_with fail
     go_quiet (fail)
     go_wp2_with fail
     go_ret
     refine ⟨?_,by exact fx⟩;rw [HE.out];by_cases h3:pn≤(b.words.length:Int) - n
     · rw [if_neg (by omega)];simp [h3]
     · rw [if_pos (by omega)];simp [h3]
   · have d2:decide (n≤(b.words.length:Int))=false:=decide_eq_false h2;go_enter Tryz.func77,Tryz.ntmps77
     go_wp2_with fail
     go_quiet (fail)
     go_wp2_with fail
     go_ret
     exact ⟨by rw [HE.out,if_pos (by omega)];rfl,by exact fx⟩
 · have d1:decide (0≤pn)=false:=decide_eq_false h1;go_enter Tryz.func77,Tryz.ntmps77
   go_wp2_with fail
   go_quiet (fail)
   go_wp2_with fail
   go_ret
   exact ⟨by rw [HE.out,if_pos (by omega)];rfl,by exact fx⟩
theorem qnew_c (w:World) (words:Int):Calls Tryz.prog 36 #[.int .i64 words] w fun e w'=>e=.returned (.pointer (some ⟨w.heap.size,0,none⟩))∧RJ (fun x=>x=w.heap.size) 0 w' w.heap.size ⟨roomOf words,[]⟩∧Fr Non w w':=by
 have hfin:∀ w':World,Row w' w.heap.size 116 [.int .i64 (roomOf words),.slice none 0 0,.slice none 0 0]→RJ (fun x=>x=w.heap.size) 0 w' w.heap.size ⟨roomOf words,[]⟩:=fun w' hr =>
  ⟨fun x hx=>by rw [hx];exact hr.lt,_,_,⟨roomOf words,[],[]⟩,⟨hr,Own.nil _ _ _,Own.nil _ _ _⟩,⟨rfl,rfl,(fun i b h=>by simp at h),⟨by unfold roomOf;simp;omega,by simp [used];unfold roomOf;omega,(fun b hb=>by cases hb)⟩,(fun c hc=>by cases hc)⟩,rfl,(fun g h=>by cases h),(fun g h=>by cases h),Nat.le_refl _⟩
 have HF:=Lib.hid hfin;clear hfin;go_enter Tryz.func36,Tryz.ntmps36
 go_wp2_with fail
 go_ret
 exact ⟨rfl,HF.out _ (Row.new' rfl),by exact fx⟩
end
end Go.Proofs.YtlbomnbpahmphaaGreat
