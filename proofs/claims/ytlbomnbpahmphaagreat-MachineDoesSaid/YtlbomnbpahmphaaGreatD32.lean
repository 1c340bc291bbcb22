/- Two machines, two rows of words, and boxes, side by side. No condition. -/
import Derived.Test.YtlbomnbpahmphaaGreatD14
import Derived.Test.YtlbomnbpahmphaaGreatD20
import Derived.Test.YtlbomnbpahmphaaGreatD31
import Derived.Test.YtlbomnbpahmphaaGreatD29
namespace Go.Proofs.YtlbomnbpahmphaaGreat
open Go.RowKit
abbrev Bx:=Nat × TypeId × List Value
def Boxes (U:Nat→Prop) (w:World) (bs:List Bx):Prop:=∀ e∈bs,Row w e.1 e.2.1 e.2.2∧¬ U e.1
section
variable {base:Nat} {P:Pr} {U U' E:Nat→Prop} {w0 w w':World} {ma mb:Nat} {v u:Value} {l:List Wd} {a b a' b':St} {bs:List Bx}
theorem Boxes.to (h:Boxes U w bs) (f:Fr E w w') (hE:∀ x,E x→U x) (hU:∀ x,U' x→U x∨w.heap.size≤x):Boxes U' w' bs:=fun e he=>by
 obtain ⟨h1,h2⟩:=h e he;refine ⟨f.row h1 fun hx=>h2 (hE _ hx),fun hx=>?_⟩;rcases hU _ hx with k|k
 · exact h2 k
 · have:=h1.lt;omega
def EvIn (tO:Option Addr) (e:List Ev) (bs:List Bx):Prop:=0<e.length→∃ g arr,tO=some ⟨g,0,none⟩∧(g,74,arr)∈bs∧∀ (j:Nat) (x:Value),(evs e)[j]?=some x→arr[j]?=some x
theorem Own.wds {w:World} {ao:Option Addr} {n cap:Nat} {l:List Wd} (h:Own w (.slice ao n cap) 40 3 l.length (flat l)):n=l.length∧WdsAt w ao l:=by
 obtain ⟨ao',cap',e,_,_,h1,_⟩:=h.form;cases e
 refine ⟨rfl,fun hl=>?_⟩;obtain ⟨g,rfl⟩:=h1 hl;exact ⟨g,0,rfl,fun j u hu=>by rw [Nat.zero_add];exact h.cell rfl hu⟩
end
def Both (base:Nat) (P:Pr) (U:Nat→Prop) (m r:Nat) (w:World) (S:St) (T:Nat) (S2:St):Prop :=
 ∃ A1 A2:Nat→Prop,MInv base P A1 w m S∧NInv base P A2 T w r S2∧(∀ x,A1 x→¬ A2 x)∧∀ x,U x ↔ A1 x∨A2 x
structure One (base:Nat) (U:Nat→Prop) (w:World) (v:Value) (l:List Wd) (bs:List Bx):Prop where
 o1:Own w v 40 3 l.length (flat l)
 n1:∀ x,v.ownBlock=some x→¬ U x∧base≤x∧∀ e∈bs,e.1≠x
def Duo (base:Nat) (P:Pr) (m r:Nat) (w0 w:World) (v:Value) (l:List Wd) (S:St) (T:Nat) (S2:St) (bs:List Bx):Prop :=
 ∃ U,Both base P U m r w S T S2∧One base U w v l bs∧Boxes U w bs∧Fr (fun x=>base≤x) w0 w
section
variable {base:Nat} {P:Pr} {A U U' E:Nat→Prop} {w0 w w':World} {m r T T':Nat} {v:Value} {l:List Wd} {S S' S2 S2':St} {bs:List Bx}
theorem NInv.high (h:NInv base P A T w r S):High base A:=by obtain ⟨Y,h⟩:=h;exact h.high
theorem NInv.lt (h:NInv base P A T w r S):∀ x,A x→x<w.heap.size:=by obtain ⟨Y,h⟩:=h;exact h.lt
theorem NInv.am (h:NInv base P A T w r S):A r:=by obtain ⟨Y,h⟩:=h;exact h.am
theorem NInv.frE (h:NInv base P A T w r S) (f:Fr E w w') (hE:High base E) (hd:∀ x,A x→¬ E x):NInv base P A T w' r S:=by obtain ⟨Y,h⟩:=h;exact ⟨Y,h.frE f hE hd⟩
theorem NInv.more (h:NInv base P A T w r S) (hT:T≤T') (hm:T'≤400000):NInv base P A T' w r S:=by obtain ⟨Y,h⟩:=h;exact ⟨Y,h.more hT hm⟩
theorem NInv.blocks (h:NInv base P A T w r S):S.mem.blocks.length≤400000:=by obtain ⟨Y,h⟩:=h;have:=h.few;have:=h.max;omega
theorem Both.frE (h:Both base P U m r w S T S2) (f:Fr E w w') (hE:High base E) (hd:∀ x,U x→¬ E x):Both base P U m r w' S T S2:=by
 obtain ⟨A1,A2,h1,h2,h3,h4⟩:=h;exact ⟨A1,A2,h1.frE f hE fun x hx=>hd x ((h4 x).2 (Or.inl hx)),h2.frE f hE fun x hx=>hd x ((h4 x).2 (Or.inr hx)),h3,h4⟩
theorem Both.lt (h:Both base P U m r w S T S2):∀ x,U x→x<w.heap.size:=by
 obtain ⟨A1,A2,h1,h2,h3,h4⟩:=h;intro x hx;rcases (h4 x).1 hx with k|k
 · exact h1.lt x k
 · exact h2.lt x k
theorem One.fwd (h:One base U w v l bs) (f:Fr E w w') (hE:∀ x,E x→U x) (hU:∀ x,U' x→U x∨w.heap.size≤x):One base U' w' v l bs:=by
 refine ⟨h.o1.fr f fun x hx hxE=>(h.n1 x hx).1 (hE _ hxE),fun x hx=>⟨fun k=>?_,(h.n1 x hx).2⟩⟩;rcases hU _ k with k|k
 · exact (h.n1 x hx).1 k
 · have:=h.o1.lt hx;omega
theorem Duo.frN (h:Duo base P m r w0 w v l S T S2 bs) (f:Fr Non w w'):Duo base P m r w0 w' v l S T S2 bs:=by
 obtain ⟨U,h1,h2,h3,h4⟩:=h;exact ⟨U,h1.frE f (high_non _) (fun _ _ h=>h),h2.fwd f (fun _ h=>h.elim) fun _ h=>Or.inl h,h3.to f (fun _ h=>h.elim) fun _ h=>Or.inl h,h4.then f fun _ _ h=>h.elim⟩
theorem Duo.row (h:Duo base P m r w0 w v l S T S2 bs) {g:Nat} {t:TypeId} {cs:List Value} (hm:(g,t,cs)∈bs):Row w g t cs:=by
 obtain ⟨U,h1,h2,h3,h4⟩:=h;exact (h3 _ hm).1
theorem Duo.base_le (h:Duo base P m r w0 w v l S T S2 bs):base≤w.heap.size:=by
 obtain ⟨U,⟨A1,A2,k1,k2,_⟩,h2,h3,h4⟩:=h;have:=k1.high _ k1.om;have:=k1.lt _ k1.om;omega
theorem Duo.fr (h:Duo base P m r w0 w v l S T S2 bs):Fr (fun x=>base≤x) w0 w:=by
 obtain ⟨U,h1,h2,h3,h4⟩:=h;exact h4
theorem Duo.o1 (h:Duo base P m r w0 w v l S T S2 bs):Own w v 40 3 l.length (flat l):=by
 obtain ⟨U,h1,h2,h3,h4⟩:=h;exact h2.o1
theorem Duo.less (h:Duo base P m r w0 w v l S T S2 bs) {cs:List Bx} (hs:∀ e∈cs,e∈bs):Duo base P m r w0 w v l S T S2 cs:=by
 obtain ⟨U,h1,h2,h3,h4⟩:=h;exact ⟨U,h1,⟨h2.o1,fun x hx=>⟨(h2.n1 x hx).1,(h2.n1 x hx).2.1,fun e he=>(h2.n1 x hx).2.2 e (hs e he)⟩⟩,fun e he=>h3 e (hs e he),h4⟩
theorem Duo.more (h:Duo base P m r w0 w v l S T S2 bs) (hT:T≤T') (hm:T'≤400000):Duo base P m r w0 w v l S T' S2 bs:=by
 obtain ⟨U,⟨A1,A2,k1,k2,k3⟩,h2⟩:=h;exact ⟨U,⟨A1,A2,k1,k2.more hT hm,k3⟩,h2⟩
theorem Duo.ne (h:Duo base P m r w0 w v l S T S2 bs):m≠r:=by
 obtain ⟨U,⟨A1,A2,k1,k2,k3,k4⟩,h2⟩:=h;exact fun e=>k3 m k1.om (e ▸ k2.am)
theorem Duo.rlt (h:Duo base P m r w0 w v l S T S2 bs):r<w.heap.size:=by
 obtain ⟨U,⟨A1,A2,k1,k2,k3,k4⟩,h2⟩:=h;exact k2.lt _ k2.am
theorem Duo.blocks (h:Duo base P m r w0 w v l S T S2 bs):S2.mem.blocks.length≤400000:=by
 obtain ⟨U,⟨A1,A2,k1,k2,k3,k4⟩,h2⟩:=h;exact k2.blocks
theorem Duo.told_le (h:Duo base P m r w0 w v l S T S2 bs):S2.told.length≤400000:=by
 obtain ⟨U,⟨A1,A2,k1,⟨Y,k2⟩,k3,k4⟩,h2⟩:=h;have:=k2.few;have:=k2.max;omega
theorem word_ok {l:List Wd} (h:∀ y∈l,y.ok) {a:Int} (ha:I64 a):(wordL l a).ok:=by
 unfold wordL;split
 · exact getD_ok h _
 · exact ha
theorem Duo.box (h:Duo base P m r w0 w v l S T S2 bs) (c:List Value) (t:TypeId):Duo base P m r w0 (w.alloc (.cells c.toArray t)) v l S T S2 ((w.heap.size,t,c) :: bs):=by
 have hf:Fr Non w (w.alloc (.cells c.toArray t)):=(Fr.refl _ _).alloc _;obtain ⟨U,k1,k2,k3,k4⟩:=h;have hnU:¬ U w.heap.size:=fun e=>by have:=k1.lt _ e;omega
 refine ⟨U,k1.frE hf (high_non _) (fun _ _ h=>h),⟨k2.o1.fr hf fun _ _=>id,fun x hx=>⟨(k2.n1 x hx).1,(k2.n1 x hx).2.1,fun e he=>?_⟩⟩,fun e he=>?_,k4.then hf fun _ _ h=>h.elim⟩
 · rcases List.mem_cons.1 he with rfl|he
   · have:=k2.o1.lt hx;simp only;omega
   · exact (k2.n1 x hx).2.2 e he
 · rcases List.mem_cons.1 he with rfl|he
   · exact ⟨Row.new w c.toArray t,hnU⟩
   · exact ⟨hf.row (k3 e he).1 id,(k3 e he).2⟩
theorem Duo.stepM (h:Duo base P m r w0 w v l S T S2 bs) {f:FuncId} {args:Array Value} {Q:Ending→Prop} (hc:∀ A,MInv base P A w m S→Calls Tryz.prog f args w fun e w'=>Q e∧Aft base P A w w' m S') :
 Calls Tryz.prog f args w fun e w'=>Q e∧Duo base P m r w0 w' v l S' T S2 bs∧w.heap.size≤w'.heap.size:=by
 obtain ⟨U,⟨A1,A2,h1,h2,h3,h4⟩,k2,k3,k4⟩:=h;refine (hc A1 h1).mono fun e w' ⟨he,A',j1,j2,j3⟩=>⟨he,⟨fun x=>A' x∨A2 x,⟨A',A2,j1,h2.frE j3 h1.high (fun x hx e=>h3 x e hx),fun x hx e=>?_,fun x=>Iff.rfl⟩,k2.fwd j3 (fun x hx=>(h4 x).2 (Or.inl hx)) ?_,k3.to j3 (fun x hx=>(h4 x).2 (Or.inl hx)) ?_,k4.then j3 fun x hx e=>h1.high x e⟩,j3.size⟩
 · rcases j2 x hx with g|g
   · exact h3 x g e
   · have:=h2.lt x e;omega
 all_goals
  rintro x (hx|hx)
  · rcases j2 x hx with g|g
    · exact Or.inl ((h4 x).2 (Or.inl g))
    · exact Or.inr g
  · exact Or.inl ((h4 x).2 (Or.inr hx))
theorem Duo.stepN (h:Duo base P m r w0 w v l S T S2 bs) {f:FuncId} {args:Array Value} {Q:Ending→St→Prop} (hc:∀ A,NInv base P A T w r S2→Calls Tryz.prog f args w fun e w'=>∃ S2',Q e S2'∧NAft base P A T' w w' r S2') :
 Calls Tryz.prog f args w fun e w'=>∃ S2',Q e S2'∧Duo base P m r w0 w' v l S T' S2' bs∧w.heap.size≤w'.heap.size:=by
 obtain ⟨U,⟨A1,A2,h1,h2,h3,h4⟩,k2,k3,k4⟩:=h;refine (hc A2 h2).mono fun e w' ⟨S2',he,A',j1,j2,j3,j4⟩=>⟨S2',he,⟨fun x=>A1 x∨A' x,⟨A1,A',h1.frE j3 h2.high (fun x hx e=>h3 x hx e),j1,fun x hx e=>?_,fun x=>Iff.rfl⟩,k2.fwd j3 (fun x hx=>(h4 x).2 (Or.inr hx)) ?_,k3.to j3 (fun x hx=>(h4 x).2 (Or.inr hx)) ?_,k4.then j3 fun x hx e=>h2.high x e⟩,j3.size⟩
 · rcases j2 x e with g|g
   · exact h3 x hx g
   · have:=h1.lt x hx;omega
 all_goals
  rintro x (hx|hx)
  · exact Or.inl ((h4 x).2 (Or.inl hx))
  · rcases j2 x hx with g|g
    · exact Or.inl ((h4 x).2 (Or.inr g))
    · exact Or.inr g
theorem Duo.evs (h:Duo base P m r w0 w v l S T S2 bs) {tO:Option Addr} {e:List Ev} (he:EvIn tO e bs):Evs w tO e:=fun hl=>by
 obtain ⟨g,arr,rfl,e2,e3⟩:=he hl;exact ⟨g,0,rfl,fun j x hx=>by rw [Nat.zero_add];exact (h.row e2).cell (e3 j x hx)⟩
theorem Duo.toldM (h:Duo base P m r w0 w v l S T S2 bs) :
 Calls Tryz.prog 22 #[.pointer (some ⟨m,0,none⟩)] w fun e w'=>∃ tO tc bs',e=.returned (.slice tO S.told.length tc)∧Duo base P m r w0 w' v l { S with told:=[] } T S2 bs'∧EvIn tO S.told bs'∧(∀ x∈bs,x∈bs')∧Fr (fun x=>x=m) w w':=by
 obtain ⟨U,⟨A1,A2,h1,h2,h3,h4⟩,k2,k3,k4⟩:=h;refine (told_m h1).mono ?_;rintro e w' ⟨tv,A',rfl,ho,hM,hA',htA,hf⟩;have hfU:∀ x,x=m→U x:=fun x e=>(h4 x).2 (Or.inl (e ▸ h1.om))
 have hU':∀ x,(A' x∨A2 x)→U x∧tv.ownBlock≠some x:=fun x hx=>by
  rcases hx with hx|hx
  · exact ⟨(h4 x).2 (Or.inl (hA' x hx).1),(hA' x hx).2⟩
  · exact ⟨(h4 x).2 (Or.inr hx),fun e=>h3 x (htA x e) hx⟩
 have hb:=k3.to (U':=fun x=>A' x∨A2 x) hf hfU fun x hx=>Or.inl (hU' x hx).1;have ht:=k2.fwd (U':=fun x=>A' x∨A2 x) hf hfU fun x hx=>Or.inl (hU' x hx).1;have h5:=k4.then hf fun x hx e=>h1.high x (by rw [e];exact h1.om);have hBoth:Both base P (fun x=>A' x∨A2 x) m r w' { S with told:=[] } T S2:=⟨A',A2,hM,h2.frE hf (fun x hx=>h1.high x (by rw [hx];exact h1.om)) (fun x hx e=>h3 x (by rw [e];exact h1.om) hx),fun x hx e=>h3 x (hA' x hx).1 e,fun x=>Iff.rfl⟩;obtain ⟨tO,tc,rfl,_,_,hg,hlt⟩:=ho.form;by_cases hl:0<S.told.length
 · obtain ⟨g,rfl⟩:=hg hl;obtain ⟨arr,harr⟩:=ho.row (g:=g) rfl;have hUg:U g:=(h4 g).2 (Or.inl (htA g rfl));refine ⟨_,tc,(g,74,arr) :: bs,rfl,⟨_,hBoth,⟨ht.o1,fun x hx=>⟨(ht.n1 x hx).1,(ht.n1 x hx).2.1,fun e he=>?_⟩⟩,fun e he=>?_,h5⟩,fun _=>⟨g,arr,rfl,List.mem_cons_self,fun j x hx=>?_⟩,fun x hx=>List.mem_cons_of_mem _ hx,hf⟩
   · rcases List.mem_cons.1 he with rfl|he
     · rintro rfl;exact (k2.n1 g hx).1 hUg
     · exact (ht.n1 x hx).2.2 e he
   · rcases List.mem_cons.1 he with rfl|he
     · exact ⟨harr,fun e=>(hU' g e).2 rfl⟩
     · exact hb e he
   · have hc:=ho.cell (g:=g) rfl hx;unfold Row at harr
     simpa [World.cell?,harr] using hc
 · exact ⟨tO,tc,bs,rfl,⟨_,hBoth,ht,hb,h5⟩,fun h=>absurd h hl,fun x hx=>hx,hf⟩
theorem Duo.toldN (h:Duo base P m r w0 w v l S T S2 bs):∃ tO tc q,w.cell? ⟨r,4,none⟩=some (.slice tO S2.told.length tc)∧w.cell? ⟨r,2,none⟩=some (.pointer (some ⟨q,0,none⟩))∧(∀ o,w.frozen? ⟨r,o,none⟩=false)∧(∀ w',Fr (fun x=>x=m) w w'→Evs w' tO S2.told)∧(∀ w',Fr Non w w'→Duo base P m r w0 (w'.setCell ⟨r,4,none⟩ (.slice none 0 0)) v l S T { S2 with told:=[] } bs):=by
 obtain ⟨U,⟨A1,A2,h1,⟨Y,h2⟩,h3,h4⟩,k2,k3,k4⟩:=h;obtain ⟨tO,tc,etv,_⟩:=h2.told.form;have hrow:=h2.row;refine ⟨tO,tc,Y.q,?_,h2.c2,h2.row.frozen,fun w' f=>?_,fun w' f=>?_⟩
 · have:=h2.row.cell (o:=4) (v:=Y.tv) rfl;rw [etv] at this;exact this
 · have hto:=h2.told;have hat:=h2.at_;rw [etv] at hto hat;refine (hto.fr f fun x hx e=>h3 m h1.om (by rw [← e];exact hat x hx)).evs.2
 · have h2':=h2.frN f;have f1:=Fr.set1 w' r 4 (.slice none 0 0);have hH:High base (fun x=>x=r):=fun x hx=>by rw [hx];exact h2.high _ h2.am
   have hr:Row (w'.setCell ⟨r,4,none⟩ (.slice none 0 0)) r 61 ({ Y with tv:=.slice none 0 0 }.cells P S2.fuel S2.task):=h2'.row.set_same 4 _;have hU:∀ x,x=r→U x:=fun x e=>by rw [e];exact (h4 r).2 (Or.inr h2.am)
   have fE:Fr (fun x=>x=r) w (w'.setCell ⟨r,4,none⟩ (.slice none 0 0)):=(f.mono fun _ _ h=>h.elim).trans f1
   have hA2:NL base P A2 T (w'.setCell ⟨r,4,none⟩ (.slice none 0 0)) r { S2 with told:=[] } { Y with tv:=.slice none 0 0 } :=
    { high:=h2'.high,lt:=fun x hx=>Nat.lt_of_lt_of_le (h2'.lt x hx) f1.size,row:=hr,funs:=h2'.funs.fr f1 hH,cos:=h2'.cos.fr f1 hH,mem:=h2'.mem.fr f1 (fun x hx e=>(h2'.sep x hx).1 e),evo:=h2'.evo.fr f1 (fun x hx e=>h2'.ev_m (e ▸ hx)),told:=Own.nil _ _ _,am:=h2'.am,ae:=h2'.ae,at_:=fun x hx=>(by cases hx),aq:=h2'.aq,sep:=fun x hx=>⟨(h2'.sep x hx).1,(h2'.sep x hx).2.1,fun e=>(by cases e)⟩,cells:=h2'.cells,few:=by have:=h2'.few;show S2.mem.blocks.length+0+2 * S2.fuel.toNat≤T;omega,evn:=h2'.evn,max:=h2'.max }
   exact ⟨U,⟨A1,A2,h1.frE fE hH (fun x hx e=>h3 x hx (by rw [e];exact h2.am)),⟨_,hA2⟩,h3,h4⟩,k2.fwd fE hU fun x hx=>Or.inl hx,k3.to fE hU fun x hx=>Or.inl hx,k4.then fE fun x _ e=>by rw [e];exact h2.high _ h2.am⟩
theorem Duo.liveM (h:Duo base P m r w0 w v l S T S2 bs):Calls Tryz.prog 23 #[.pointer (some ⟨m,0,none⟩)] w fun e w'=>e=.returned (.int .i64 (live S.mem.blocks))∧Fr Non w w':=by
 obtain ⟨U,⟨A1,A2,h1,h2,h3,h4⟩,k2⟩:=h;exact live_m h1
theorem Duo.liveN (h:Duo base P m r w0 w v l S T S2 bs) {q:Nat} (hq:w.cell? ⟨r,2,none⟩=some (.pointer (some ⟨q,0,none⟩))):Calls Tryz.prog 24 #[.pointer (some ⟨q,0,none⟩)] w fun e w'=>e=.returned (.int .i64 (live S2.mem.blocks))∧Fr Non w w':=by
 obtain ⟨U,⟨A1,A2,h1,⟨Y,h2⟩,h3,h4⟩,k2⟩:=h;have:=h2.c2.symm.trans hq;injection this with e;injection e with e;injection e with e;injection e with e;subst e;obtain ⟨_,bv,cv,R,hI⟩:=h2.mem;exact qlive_c hI
theorem Duo.app {v':Value} {x:Wd} (h:Duo base P m r w0 w v l S T S2 bs) (ho:Own w' v' 40 3 (l ++ [x]).length (flat (l ++ [x]))) (f:Fr (fun y=>v.ownBlock=some y) w w') (hg:∀ y,v'.ownBlock=some y→v.ownBlock=some y∨w.heap.size≤y):Duo base P m r w0 w' v' (l ++ [x]) S T S2 bs:=by
 have hbl:=h.base_le;obtain ⟨U,h1,h2,h3,h4⟩:=h;have hH:High base (fun y=>v.ownBlock=some y):=fun y hy=>(h2.n1 y hy).2.1;refine ⟨U,h1.frE f hH fun y hy e=>(h2.n1 y e).1 hy,⟨ho,fun y hy=>?_⟩,fun e he=>⟨f.row (h3 e he).1 fun k=>(h2.n1 _ k).2.2 e he rfl,(h3 e he).2⟩,h4.then f fun y hy e=>hH y e⟩;rcases hg y hy with k|k
 · exact h2.n1 y k
 · exact ⟨fun e=>by have:=h1.lt y e;omega,by omega,fun e he k2=>by have:=(h3 e he).1.lt;omega⟩
theorem Duo.nil {A1 A2:Nat→Prop} (h1:MInv base P A1 w m S) (h2:NInv base P A2 T w r S2) (h3:∀ x,A1 x→¬ A2 x) (hf:Fr (fun x=>base≤x) w0 w):Duo base P m r w0 w (.slice none 0 0) [] S T S2 [] :=
 ⟨fun x=>A1 x∨A2 x,⟨A1,A2,h1,h2,h3,fun x=>Iff.rfl⟩,⟨Own.nil _ _ _,fun x hx=>by cases hx⟩,fun e he=>(by cases he),hf⟩
theorem Duo.done (h:Duo w0.heap.size P m r w0 w v l S T S2 bs):Fr Non w0 w:=h.fr.mono fun x hx e=>by omega
end
end Go.Proofs.YtlbomnbpahmphaaGreat
