/- How the document's machine lies in memory: its program below 'base', all else from 'base' on. No condition. -/
import Derived.Deep.LoopGhost
import Derived.Test.YtlbomnbpahmphaaGreatD26
import Derived.Test.YtlbomnbpahmphaaGreatD27
import Derived.Test.YtlbomnbpahmphaaGreatD11
set_option maxRecDepth 100000
set_option maxHeartbeats 600000
namespace Go.Proofs.YtlbomnbpahmphaaGreat
open Go.RowKit
def evr (l:List (Int × Int)):List Value:=l.flatMap fun e=>[.int .i64 e.1,.int .i64 e.2]
theorem evr_cons (e:Int × Int) (l:List (Int × Int)):evr (e :: l)=.int .i64 e.1 :: .int .i64 e.2 :: evr l:=rfl
theorem evr_append (l m:List (Int × Int)):evr (l ++ m)=evr l ++ evr m:=by simp [evr]
theorem evr_get {l:List (Int × Int)} {i:Nat} {k n:Int} (h:l[i]?=some (k,n)):(evr l)[i * 2]?=some (.int .i64 k)∧(evr l)[i * 2+1]?=some (.int .i64 n):=by
 induction l generalizing i with
 | nil=>simp at h
 | cons x l ih =>
  cases i with
  | zero=>simp at h;subst h;simp [evr_cons]
  | succ i =>
   have:=ih (i:=i) (by simpa using h);rw [evr_cons,show (i+1) * 2=i * 2+2 by omega];exact this
structure NY where
 fo:Option Addr
 co:Option Addr
 fc:Nat
 cc:Nat
 q:Nat
 ev:Value
 tv:Value
 Aq:Nat→Prop
 B:Nat
def NY.cells (Y:NY) (P:Pr) (fuel task:Int):List Value:=[.slice Y.fo P.funs.length Y.fc,.slice Y.co P.cos.length Y.cc,ptr Y.q,Y.ev,Y.tv,.int .i64 fuel,.int .i64 task]
structure NL (base:Nat) (P:Pr) (A:Nat→Prop) (T:Nat) (w:World) (m:Nat) (S:St) (Y:NY):Prop where
 high:High base A
 lt:∀ x,A x→x<w.heap.size
 row:Row w m 61 (Y.cells P S.fuel S.task)
 funs:FunsAt base w Y.fo P.funs
 cos:CosB base w Y.co P.cos
 mem:RJ Y.Aq Y.B w Y.q S.mem
 evo:Own w Y.ev 112 2 S.ev.length (evr S.ev)
 told:Own w Y.tv 74 4 S.told.length (evs S.told)
 am:A m
 ae:∀ x,Y.ev.ownBlock=some x→A x
 at_:∀ x,Y.tv.ownBlock=some x→A x
 aq:∀ x,Y.Aq x→A x
 sep:∀ x,Y.Aq x→x≠m∧Y.ev.ownBlock≠some x∧Y.tv.ownBlock≠some x
 cells:Y.B+2097152 * S.fuel.toNat≤2097152 * T
 few:S.mem.blocks.length+S.told.length+2 * S.fuel.toNat≤T
 evn:S.ev.length≤1000000
 max:T≤400000
def NInv (base:Nat) (P:Pr) (A:Nat→Prop) (T:Nat) (w:World) (m:Nat) (S:St):Prop:=∃ Y,NL base P A T w m S Y
def Kp (w w':World) (m:Nat):Prop:=∀ o,o<3→w'.cell? ⟨m,o,none⟩=w.cell? ⟨m,o,none⟩
theorem Kp.trans {w w' w2:World} {m:Nat} (h:Kp w w' m) (k:Kp w' w2 m):Kp w w2 m:=fun o ho=>(k o ho).trans (h o ho)
theorem Kp.fr {D:Nat→Prop} {w w':World} {m:Nat} (f:Fr D w w') (hm:m<w.heap.size) (hD:¬ D m):Kp w w' m:=fun o _=>by simp only [World.cell?,f.keep m hm hD]
theorem Kp.rows {w w':World} {m:Nat} {t:TypeId} {l l':List Value} (h:Row w m t l) (h':Row w' m t l') (e:l.take 3=l'.take 3):Kp w w' m:=fun o ho=>by
 unfold Row at h h';have:=congrArg (fun x=>x[o]?) e;simp only [List.getElem?_take,ho,if_true] at this;simp [World.cell?,h,h',this]
def NAft (base:Nat) (P:Pr) (A:Nat→Prop) (T:Nat) (w w':World) (m:Nat) (S:St):Prop :=
 ∃ A',NInv base P A' T w' m S∧(∀ x,A' x→A x∨w.heap.size≤x)∧Fr A w w'∧Kp w w' m
section
variable {base:Nat} {P:Pr} {A:Nat→Prop} {T:Nat} {w w':World} {m:Nat} {S S':St} {Y:NY}
theorem NL.frE {E:Nat→Prop} (h:NL base P A T w m S Y) (f:Fr E w w') (hE:High base E) (hA:∀ x,A x→¬ E x):NL base P A T w' m S Y :=
 { h with
  lt:=fun x hx=>Nat.lt_of_lt_of_le (h.lt x hx) f.size
  row:=f.row h.row (hA _ h.am)
  funs:=h.funs.fr f hE
  cos:=h.cos.fr f hE
  mem:=h.mem.fr f fun x hx=>hA _ (h.aq x hx)
  evo:=h.evo.fr f fun x hx=>hA _ (h.ae x hx)
  told:=h.told.fr f fun x hx=>hA _ (h.at_ x hx) }
theorem NL.frN (h:NL base P A T w m S Y) (f:Fr Non w w'):NL base P A T w' m S Y:=h.frE f (high_non _) fun _ _ h=>h
theorem NL.mlt (h:NL base P A T w m S Y):m<w.heap.size:=h.row.lt
theorem NL.base_le (h:NL base P A T w m S Y):base≤w.heap.size:=Nat.le_of_lt (Nat.lt_of_le_of_lt (h.high _ h.am) (h.lt _ h.am))
theorem NL.tv_m (h:NL base P A T w m S Y):Y.tv.ownBlock≠some m:=h.told.ne h.row (by decide)
theorem NL.ev_m (h:NL base P A T w m S Y):Y.ev.ownBlock≠some m:=h.evo.ne h.row (by decide)
theorem NL.tv_ev (h:NL base P A T w m S Y) (x:Nat) (e:Y.tv.ownBlock=some x):Y.ev.ownBlock≠some x:=fun e2=>by
 obtain ⟨arr,ha⟩:=h.told.row e;exact h.evo.ne ha (by decide) e2
theorem NL.upMem (h:NL base P A T w m S Y) {D':Nat→Prop} {B':Nat} {M':Mem} (hM:RJ D' B' w' Y.q M') (f:QF Y.Aq D' w w') (hB:B'+2097152 * S.fuel.toNat≤2097152 * T) (hn:M'.blocks.length+S.told.length+2 * S.fuel.toNat≤T) :
 NL base P (fun x=>A x∨D' x) T w' m { S with mem:=M' } { Y with Aq:=D',B:=B' }:=by
 have hH:High base Y.Aq:=fun x hx=>h.high x (h.aq x hx);have hb:=h.base_le;refine { high:=?_,lt:=?_,row:=f.fr.row h.row fun e=>(h.sep _ e).1 rfl,funs:=h.funs.fr f.fr hH,cos:=h.cos.fr f.fr hH,mem:=hM,evo:=h.evo.fr f.fr fun x hx e=>(h.sep _ e).2.1 hx,told:=h.told.fr f.fr fun x hx e=>(h.sep _ e).2.2 hx,am:=Or.inl h.am,ae:=fun x hx=>Or.inl (h.ae x hx),at_:=fun x hx=>Or.inl (h.at_ x hx),aq:=fun x hx=>Or.inr hx,sep:=?_,cells:=hB,few:=hn,evn:=h.evn,max:=h.max }
 · rintro x (hx|hx)
   · exact h.high x hx
   · rcases f.sub x hx with e|e
     · exact hH x e
     · omega
 · rintro x (hx|hx)
   · exact Nat.lt_of_lt_of_le (h.lt x hx) f.fr.size
   · exact hM.1 x hx
 · intro x hx;rcases f.sub x hx with e|e
   · exact h.sep x e
   · have hn:∀ y,A y→x≠y:=fun y hy e2=>by have:=h.lt y hy;omega
     exact ⟨hn _ h.am,fun e2=>hn _ (h.ae _ e2) rfl,fun e2=>hn _ (h.at_ _ e2) rfl⟩
theorem NL.upTold (h:NL base P A T w m S Y) {tv':Value} {t':List Ev} (r:Row w' m 61 ({ Y with tv:=tv' }.cells P S.fuel S.task)) (ho:Own w' tv' 74 4 t'.length (evs t'))
 (hg:∀ g,tv'.ownBlock=some g→Y.tv.ownBlock=some g∨w.heap.size≤g) (f:Fr (fun x=>x=m∨Y.tv.ownBlock=some x) w w') (hn:S.mem.blocks.length+t'.length+2 * S.fuel.toNat≤T) :
 NL base P (fun x=>A x∨tv'.ownBlock=some x) T w' m { S with told:=t' } { Y with tv:=tv' }:=by
 have hE:∀ x,(x=m∨Y.tv.ownBlock=some x)→A x:=fun x hx=>by rcases hx with rfl|hx;exact h.am;exact h.at_ x hx
 have hH:High base (fun x=>x=m∨Y.tv.ownBlock=some x):=fun x hx=>h.high x (hE x hx);have hb:=h.base_le;refine { high:=?_,lt:=?_,row:=r,funs:=h.funs.fr f hH,cos:=h.cos.fr f hH,mem:=h.mem.fr f ?_,evo:=h.evo.fr f ?_,told:=ho,am:=Or.inl h.am,ae:=fun x hx=>Or.inl (h.ae x hx),at_:=fun x hx=>Or.inr hx,aq:=fun x hx=>Or.inl (h.aq x hx),sep:=?_,cells:=h.cells,few:=hn,evn:=h.evn,max:=h.max }
 · rintro x (hx|hx)
   · exact h.high x hx
   · rcases hg x hx with e|e
     · exact h.high x (h.at_ x e)
     · omega
 · rintro x (hx|hx)
   · exact Nat.lt_of_lt_of_le (h.lt x hx) f.size
   · exact ho.lt hx
 · rintro x hx (e|e)
   · exact (h.sep x hx).1 e
   · exact (h.sep x hx).2.2 e
 · rintro x hx (e|e)
   · exact h.ev_m (e ▸ hx)
   · exact h.tv_ev x e hx
 · intro x hx;obtain ⟨s1,s2,s3⟩:=h.sep x hx;refine ⟨s1,s2,fun e=>?_⟩;rcases hg x e with e2|e2
   · exact s3 e2
   · have:=h.lt x (h.aq x hx);omega
theorem NL.upEv (h:NL base P A T w m S Y) {ev':Value} {l':List (Int × Int)} (r:Row w' m 61 ({ Y with ev:=ev' }.cells P S.fuel S.task)) (ho:Own w' ev' 112 2 l'.length (evr l'))
 (hg:∀ g,ev'.ownBlock=some g→Y.ev.ownBlock=some g∨w.heap.size≤g) (f:Fr (fun x=>x=m∨Y.ev.ownBlock=some x) w w') (hn:l'.length≤1000000) :
 NL base P (fun x=>A x∨ev'.ownBlock=some x) T w' m { S with ev:=l' } { Y with ev:=ev' }:=by
 have hE:∀ x,(x=m∨Y.ev.ownBlock=some x)→A x:=fun x hx=>by rcases hx with rfl|hx;exact h.am;exact h.ae x hx
 have hH:High base (fun x=>x=m∨Y.ev.ownBlock=some x):=fun x hx=>h.high x (hE x hx);have hb:=h.base_le;refine { high:=?_,lt:=?_,row:=r,funs:=h.funs.fr f hH,cos:=h.cos.fr f hH,mem:=h.mem.fr f ?_,evo:=ho,told:=h.told.fr f ?_,am:=Or.inl h.am,ae:=fun x hx=>Or.inr hx,at_:=fun x hx=>Or.inl (h.at_ x hx),aq:=fun x hx=>Or.inl (h.aq x hx),sep:=?_,cells:=h.cells,few:=h.few,evn:=hn,max:=h.max }
 · rintro x (hx|hx)
   · exact h.high x hx
   · rcases hg x hx with e|e
     · exact h.high x (h.ae x e)
     · omega
 · rintro x (hx|hx)
   · exact Nat.lt_of_lt_of_le (h.lt x hx) f.size
   · exact ho.lt hx
 · rintro x hx (e|e)
   · exact (h.sep x hx).1 e
   · exact (h.sep x hx).2.1 e
 · rintro x hx (e|e)
   · exact h.tv_m (e ▸ hx)
   · exact h.tv_ev x hx e
 · intro x hx;obtain ⟨s1,s2,s3⟩:=h.sep x hx;refine ⟨s1,fun e=>?_,s3⟩;rcases hg x e with e2|e2
   · exact s2 e2
   · have:=h.lt x (h.aq x hx);omega
theorem NL.upNums (h:NL base P A T w m S Y) {T':Nat} {task fuel:Int} (r:Row w' m 61 (Y.cells P fuel task)) (f:Fr (fun x=>x=m) w w') (hB:Y.B+2097152 * fuel.toNat≤2097152 * T') (hn:S.mem.blocks.length+S.told.length+2 * fuel.toNat≤T') (hT:T'≤400000) :
 NL base P A T' w' m { S with task:=task,fuel:=fuel } Y:=by
 have hH:High base (fun x=>x=m):=fun x hx=>h.high x (hx ▸ h.am);refine { high:=h.high,lt:=fun x hx=>Nat.lt_of_lt_of_le (h.lt x hx) f.size,row:=r,funs:=h.funs.fr f hH,cos:=h.cos.fr f hH,mem:=h.mem.fr f (fun x hx e=>(h.sep x hx).1 e),evo:=h.evo.fr f ?_,told:=h.told.fr f ?_,am:=h.am,ae:=h.ae,at_:=h.at_,aq:=h.aq,sep:=h.sep,cells:=hB,few:=hn,evn:=h.evn,max:=hT }
 · rintro x hx rfl;exact h.ev_m hx
 · rintro x hx rfl;exact h.tv_m hx
theorem NL.aftN (h:NL base P A T w m S Y) (f:Fr Non w w'):NAft base P A T w w' m S:=⟨A,⟨Y,h.frN f⟩,fun _x hx=>Or.inl hx,f.mono fun _ _ h=>h.elim,Kp.fr f h.mlt id⟩
theorem NL.aftMem (h:NL base P A T w m S Y) {D':Nat→Prop} {B':Nat} {M':Mem} (hM:RJ D' B' w' Y.q M') (f:QF Y.Aq D' w w') (hB:B'+2097152 * S.fuel.toNat≤2097152 * T) (hn:M'.blocks.length+S.told.length+2 * S.fuel.toNat≤T):NAft base P A T w w' m { S with mem:=M' } :=
 ⟨_,⟨_,h.upMem hM f hB hn⟩,fun x hx=>by
  rcases hx with hx|hx
  · exact Or.inl hx
  · exact (f.sub x hx).imp (fun e=>h.aq x e) id,f.fr.mono fun x _ hx=>h.aq x hx,Kp.fr f.fr h.mlt fun e=>(h.sep _ e).1 rfl⟩
theorem NAft.trans {w1:World} {S1:St} (h:NAft base P A T w w1 m S1) (k:∀ A1,NInv base P A1 T w1 m S1→(∀ x,A1 x→A x∨w.heap.size≤x)→NAft base P A1 T w1 w' m S'):NAft base P A T w w' m S':=by
 obtain ⟨A1,h1,h2,h3,h4⟩:=h;obtain ⟨A2,k1,k2,k3,k4⟩:=k A1 h1 h2;refine ⟨A2,k1,fun x hx=>?_,h3.then k3 fun x hx e=>?_,h4.trans k4⟩
 · rcases k2 x hx with e|e
   · exact h2 x e
   · exact Or.inr (Nat.le_trans h3.size e)
 · rcases h2 x e with e|e
   · exact e
   · omega
theorem NAft.ahead {w1:World} (f:Fr Non w w1) (hm:m<w.heap.size) (k:NAft base P A T w1 w' m S'):NAft base P A T w w' m S':=by
 obtain ⟨A2,k1,k2,k3,k4⟩:=k;exact ⟨A2,k1,fun x hx=>(k2 x hx).imp id fun e=>Nat.le_trans f.size e,(f.mono fun _ _ h=>h.elim).trans k3,(Kp.fr f hm id).trans k4⟩
end
section
variable {base:Nat} {P:Pr} {A:Nat→Prop} {T:Nat} {w w':World} {m:Nat} {S S':St} {Y:NY}
theorem NL.c2 (h:NL base P A T w m S Y):w.cell? ⟨m,2,none⟩=some (.pointer (some ⟨Y.q,0,none⟩)):=h.row.cell rfl
theorem NL.hB (h:NL base P A T w m S Y):Y.B≤900000000000:=by
 have:=h.cells;have:=h.max;omega
theorem nnumber_c (h:NL base P A T w m S Y) (p:Bool) (a n:Int) :
 Calls Tryz.prog 51 #[.pointer (some ⟨m,0,none⟩),.agg #[.bool p,.int .i64 a,.int .i64 n]] w fun e w'=>e=.returned (.tuple #[.int .i64 (S.mem.word ⟨p,a,n⟩).1,.int .i64 (S.mem.word ⟨p,a,n⟩).2])∧Fr Non w w':=by
 have h2:=h.c2;have hL:=Lib.hid fun w1 (h1:Fr Non w w1)=>qload_j (h.mem.non h1) h.hB ⟨p,a,n⟩;unfold Mem.word;generalize S.mem.load ⟨p,a,n⟩=L at *;obtain ⟨⟨xp,xa,xn⟩,er⟩:=L;simp only at hL ⊢;have hm:=World.block_lt_of_cell? w _ h2;have hR:(er=0∧(er != 0)=false)∨(er≠0∧(er != 0)=true):=by by_cases h:er=0 <;> simp [h]
 clear h;obtain ⟨R,hR2⟩:∃ R:Int × Int,R=(if er≠0 then (0,er) else if xp=true then (0,11) else (xn,0)):=⟨_,rfl⟩;rw [← hR2];have HR:=Lib.hid hR2;clear hR2;go_enter Tryz.func51,Tryz.ntmps51
 go_wp2_with fail
 have hb1:Row (w.alloc (.cells #[.bool p,.int .i64 a,.int .i64 n] 40)) w.heap.size 40 [.bool p,.int .i64 a,.int .i64 n]:=Row.new' rfl;have hf0:Fr Non w (w.alloc (.cells #[.bool p,.int .i64 a,.int .i64 n] 40)):=by exact fx
 have hs:(w.alloc (.cells #[.bool p,.int .i64 a,.int .i64 n] 40)).heap.size=w.heap.size+1:=by simp
 have k2:=hf0.cell h2 id;generalize w.alloc (.cells #[.bool p,.int .i64 a,.int .i64 n] 40)=W at *;obtain ⟨q0,q1,q2,qz⟩:=row3 hb1;have hlt:=hb1.lt;have HF:=Lib.hid hf0;clear hf0 hb1;have hmW:m<W.heap.size:=by omega
 have cW:=@Mix.cls_drew W [m,w.heap.size];refine Mix.wp_region_alt [3,4] [(0,0),(0,1),(0,2),(1,3),(1,4)] 5 9 [(0,6),(0,7),(0,8),(2,9),(2,10),(0,11)] [(2,5),(0,6),(0,7),(0,8),(2,10),(0,11)] (fun V=>∃ g,V=Mix.upon W [m,w.heap.size] g) (by kernel_rfl) (by kernel_rfl) cW ?_;clear cW;repeat (first|((first|refine Mix.qa ?_|refine Mix.qb ?_);intro K hK;simp only [nA,nB,nC];go_big_quiet_op;go_big_quiet_on)|refine Mix.qc ?_|refine Mix.qd ?_)
 refine Mix.S_done ?_;refine ⟨?_,?_⟩
 · refine Mix.N_eff (C:=fun V=>∃ g,V=Mix.upon W [m,w.heap.size] g) rfl rfl ?_;intro K hK;simp only [nA,nB,nC];go_simp;refine (hL.out _ (by exact HF.out.drew)).mono ?_;rintro e1 w1 ⟨rfl,hg⟩;have hg1:Fr Non W w1:=Fr.trans (by exact fx) hg;refine hK _ _ ⟨Mix.cls_fr (D:=Non) hg (by simp [Non];omega),?_⟩;clear hK K hg;have hs1:=hg1.size;have HG:=Lib.hid hg1;clear hg1;repeat (first|((first|refine Mix.qa ?_|refine Mix.qb ?_);intro K hK;simp only [nA,nB,nC];go_big_quiet_op;go_big_quiet_on)|refine Mix.qc ?_|refine Mix.qd ?_)
   refine Mix.S_eff rfl rfl ?_;intro K hK;simp only [nA,nB,nC];go_simp;refine hK _ _ ⟨Mix.cls_fr (D:=Non) (by exact fx) (by simp [Non];omega),?_⟩;clear hK K;refine Mix.S_eff rfl rfl ?_;intro K hK;simp only [nA,nB,nC];go_simp;refine hK _ _ ⟨Mix.cls_fr (D:=fun x=>x=w1.heap.size) (by exact Fr.realloc _ _ _) (by simp;omega),?_⟩;clear hK K;repeat (first|((first|refine Mix.qa ?_|refine Mix.qb ?_);intro K hK;simp only [nA,nB,nC];go_big_quiet_op;go_big_quiet_on)|refine Mix.qc ?_|refine Mix.qd ?_)
   refine Mix.S_done ?_;rcases hR with ⟨rfl,her⟩|⟨hne,her⟩
   · cases xp
     · go_wp2_with fail
       go_ret2
       refine ⟨by rw [HR.out];rfl,?_⟩;exact (HF.out.trans HG.out).alloc _
     · go_wp2_with fail
       go_ret2
       refine ⟨by rw [HR.out];rfl,?_⟩;exact (HF.out.trans HG.out).alloc _
   · go_wp2_with fail
     go_ret2
     refine ⟨by rw [HR.out,if_pos hne];rfl,?_⟩;exact (HF.out.trans HG.out).alloc _
 · refine Mix.N_eff (C:=fun V=>∃ g,V=Mix.upon W [m,w.heap.size] g) rfl rfl ?_;intro K hK;simp only [nA,nB,nC];go_simp;refine hK _ _ ⟨Mix.cls_fr (D:=Non) (by exact fx) (by simp [Non];omega),?_⟩;clear hK K;refine Mix.S_eff rfl rfl ?_;intro K hK;simp only [nA,nB,nC];go_simp;refine (hL.out _ (by exact (HF.out.drew).alloc _)).mono ?_;rintro e1 w1 ⟨rfl,hg⟩;have hg1:Fr Non W w1:=Fr.trans (by exact fx) hg;have hx:Row w1 (w.heap.size+1) 40 [.bool false,.int .i64 0,.int .i64 0]:=hg.row (by exact (Row.new' (by simp [hs]))) id;obtain ⟨b0,b1,b2,bz⟩:=row3 hx;refine hK _ _ ⟨Mix.cls_fr (D:=Non) hg (by simp [Non];omega),?_⟩;have hs1:=hg.size;simp only [World.size_alloc,World.size_drew] at hs1;clear hK K hg;have HG:=Lib.hid hg1;clear hg1;repeat (first|((first|refine Mix.qa ?_|refine Mix.qb ?_);intro K hK;simp only [nA,nB,nC];go_big_quiet_op;go_big_quiet_on)|refine Mix.qc ?_|refine Mix.qd ?_)
   refine Mix.S_eff rfl rfl ?_;intro K hK;simp only [nA,nB,nC];go_simp;refine hK _ _ ⟨Mix.cls_fr (D:=fun x=>x=w.heap.size+1) (by exact ((Fr.set1 _ _ _ _).trans (Fr.set1 _ _ _ _)).trans (Fr.set1 _ _ _ _)) (by simp;omega),?_⟩;clear hK K;repeat (first|((first|refine Mix.qa ?_|refine Mix.qb ?_);intro K hK;simp only [nA,nB,nC];go_big_quiet_op;go_big_quiet_on)|refine Mix.qc ?_|refine Mix.qd ?_)
   refine Mix.S_done ?_
   have hw3:Fr Non w (((w1.setCell ⟨w.heap.size+1,0,none⟩ (.bool xp)).setCell ⟨w.heap.size+1,1,none⟩ (.int .i64 xa)).setCell ⟨w.heap.size+1,2,none⟩ (.int .i64 xn)) :=
    (((HF.out.trans HG.out).setCell (a:=⟨w.heap.size+1,0,none⟩) (Or.inr (by simp)) _).setCell (a:=⟨w.heap.size+1,1,none⟩) (Or.inr (by simp)) _).setCell (a:=⟨w.heap.size+1,2,none⟩) (Or.inr (by simp)) _
   have hx3:=((hx.set_same 0 (.bool xp)).set_same 1 (.int .i64 xa)).set_same 2 (.int .i64 xn);obtain ⟨y0,y1,y2,yz⟩:=row3 hx3;generalize ((w1.setCell ⟨w.heap.size+1,0,none⟩ (.bool xp)).setCell ⟨w.heap.size+1,1,none⟩ (.int .i64 xa)).setCell ⟨w.heap.size+1,2,none⟩ (.int .i64 xn)=w3 at *;have HG3:=Lib.hid hw3;clear hw3 hx3 hx b0 b1 b2 bz HG;rcases hR with ⟨rfl,her⟩|⟨hne,her⟩
   · cases xp
     all_goals go_wp2_with fail
     all_goals go_ret2
     all_goals refine ⟨by rw [HR.out];rfl,HG3.out⟩
   · go_wp2_with fail
     go_ret2
     exact ⟨by rw [HR.out,if_pos hne];rfl,HG3.out⟩
def stateN (P:Pr) (M:Mem) (p:Wd):Int × Int × Int :=
 if (M.word p).2≠0 then (0,0,(M.word p).2)
 else if (M.word ⟨p.p,p.a,wrap64 (p.n+2)⟩).2≠0 then (0,0,(M.word ⟨p.p,p.a,wrap64 (p.n+2)⟩).2)
 else if (M.word ⟨p.p,p.a,wrap64 (p.n+2)⟩).1<0∨(P.cos.length:Int)≤(M.word ⟨p.p,p.a,wrap64 (p.n+2)⟩).1 then (0,0,30)
 else ((M.word p).1,(M.word ⟨p.p,p.a,wrap64 (p.n+2)⟩).1,0)
theorem stateN_is {P:Pr} {M:Mem} {p:Wd} (hp:p.ok):(stateS P M p).1=(stateN P M p).1∧(stateS P M p).2.2=(stateN P M p).2.2∧((stateN P M p).2.2=0→(0≤(stateN P M p).2.1∧(stateN P M p).2.1<P.cos.length)∧(stateS P M p).2.1=P.co (stateN P M p).2.1):=by
 unfold stateS stateN;rw [off_zero hp];by_cases h1:(M.word p).2≠0
 · rw [if_pos h1,if_pos h1];exact ⟨rfl,rfl,fun e=>absurd e h1⟩
 · rw [if_neg h1,if_neg h1]
   have hpp:p.p=true:=by
    cases hq:p.p with
    | true=>rfl
    | false =>
     exfalso;refine h1 ?_;unfold Mem.word
     have hl:(M.load p).2=11:=by
      unfold Mem.load
      have:M.errp p 1=11:=by
       unfold Mem.errp Mem.errb;rw [if_pos hq]
       rfl
      rw [this,if_pos (by decide)]
     rw [if_pos (by rw [hl];decide),hl]
     decide
   have ho:offS p 2=⟨p.p,p.a,wrap64 (p.n+2)⟩:=by
    unfold offS;rw [if_pos hpp,hpp,IntWalk.i64_left]
   rw [ho];by_cases h2:(M.word ⟨p.p,p.a,wrap64 (p.n+2)⟩).2≠0
   · rw [if_pos h2,if_pos h2];exact ⟨rfl,rfl,fun e=>absurd e h2⟩
   · rw [if_neg h2,if_neg h2];by_cases h3:(M.word ⟨p.p,p.a,wrap64 (p.n+2)⟩).1<0∨(P.cos.length:Int)≤(M.word ⟨p.p,p.a,wrap64 (p.n+2)⟩).1
     · rw [if_pos h3,if_pos h3];exact ⟨rfl,rfl,fun e=>by cases e⟩
     · rw [if_neg h3,if_neg h3];exact ⟨rfl,rfl,fun _=>⟨by simp only;omega,rfl⟩⟩
theorem nstate_c (h:NL base P A T w m S Y) (p:Bool) (a n:Int) :
 Calls Tryz.prog 85 #[.pointer (some ⟨m,0,none⟩),.agg #[.bool p,.int .i64 a,.int .i64 n]] w fun e w'=>e=.returned (.tuple #[.int .i64 (stateN P S.mem ⟨p,a,n⟩).1,.int .i64 (stateN P S.mem ⟨p,a,n⟩).2.1,.int .i64 (stateN P S.mem ⟨p,a,n⟩).2.2])∧Fr Non w w':=by
 have hW0:=Lib.hid fun w1 (f:Fr Non w w1)=>nnumber_c (h.frN f) p a n;have hW2:=Lib.hid fun w1 (f:Fr Non w w1)=>nnumber_c (h.frN f) p a (wrap64 (n+2));obtain ⟨R,hR⟩:∃ R,R=stateN P S.mem ⟨p,a,n⟩:=⟨_,rfl⟩;rw [← hR];unfold stateN at hR;simp only at hR;generalize S.mem.word ⟨p,a,n⟩=X at *;generalize S.mem.word ⟨p,a,wrap64 (n+2)⟩=Z at *;obtain ⟨s,e0⟩:=X;obtain ⟨k,e2⟩:=Z;simp only at hR hW0 hW2;have HR:=Lib.hid hR;have hm:=h.mlt;have c1:w.cell? ⟨m,1,none⟩=some (.slice Y.co P.cos.length Y.cc):=h.row.cell rfl;clear hR h;by_cases he0:e0=0
 · subst he0;by_cases he2:e2=0
   · subst he2
     have hcase:(k<0∧decide (k<0)=true)∨(¬ k<0∧decide (k<0)=false∧(P.cos.length:Int)≤k∧decide ((P.cos.length:Int)≤k)=true)∨(¬ k<0∧decide (k<0)=false∧¬ (P.cos.length:Int)≤k∧decide ((P.cos.length:Int)≤k)=false):=by
      by_cases hk:k<0 <;> by_cases hk2:(P.cos.length:Int)≤k <;> simp [hk,hk2]
     go_enter Tryz.func85,Tryz.ntmps85
     go_wp2_with fail
     refine (hW0.out _ (by exact fx)).mono ?_;rintro e1 w1 ⟨rfl,hf1⟩;have xb:Row w1 w.heap.size 40 [.bool p,.int .i64 a,.int .i64 n]:=hf1.row (by exact Row.new' rfl) id;have HF1:=Lib.hid (Fr.trans (by exact fx) hf1:Fr Non w w1);obtain ⟨q0,q1,q2,qz⟩:=row3 xb;have ql:=xb.lt;clear hf1 xb;go_wp2_with fail
     refine (noff_c _ p a n 2).mono ?_;rintro e3 w3 ⟨rfl,hf3⟩;have HF3:=Lib.hid (HF1.out.trans hf3);clear hf3 q0 q1 q2 qz ql;go_wp2_with fail
     refine (hW2.out w3 HF3.out).mono ?_;rintro e4 w4 ⟨rfl,hf4⟩;have HF4:=Lib.hid (HF3.out.trans hf4);have c1':=(HF3.out.trans hf4).cell c1 id;have hm4:m<w4.heap.size:=by have:=(HF3.out.trans hf4).size;omega
     clear hf4 c1;rcases hcase with ⟨hk,hd⟩|⟨hk,hd,hk2,hd2⟩|⟨hk,hd,hk2,hd2⟩
     · go_wp2_with fail
       exact bodyPost_ret (v:=.tuple #[.int .i64 0,.int .i64 0,.int .i64 30]) (by simp [results,Tryz.results85,go_sem]) rfl ⟨by rw [HR.out,if_neg (by decide),if_neg (by decide),if_pos (Or.inl hk)],HF4.out⟩
     · go_wp2_with fail
       exact bodyPost_ret (v:=.tuple #[.int .i64 0,.int .i64 0,.int .i64 30]) (by simp [results,Tryz.results85,go_sem]) rfl ⟨by rw [HR.out,if_neg (by decide),if_neg (by decide),if_pos (Or.inr hk2)],HF4.out⟩
     · go_wp2_with fail
       exact bodyPost_ret (v:=.tuple #[.int .i64 s,.int .i64 k,.int .i64 0]) (by simp [results,Tryz.results85,go_sem]) rfl ⟨by rw [HR.out,if_neg (by decide),if_neg (by decide),if_neg (by omega)],HF4.out⟩
   · have hb2:(e2 != 0)=true:=by simpa using he2
     go_enter Tryz.func85,Tryz.ntmps85
     go_wp2_with fail
     refine (hW0.out _ (by exact fx)).mono ?_;rintro e1 w1 ⟨rfl,hf1⟩;have xb:Row w1 w.heap.size 40 [.bool p,.int .i64 a,.int .i64 n]:=hf1.row (by exact Row.new' rfl) id;have HF1:=Lib.hid (Fr.trans (by exact fx) hf1:Fr Non w w1);obtain ⟨q0,q1,q2,qz⟩:=row3 xb;have ql:=xb.lt;clear hf1 xb;go_wp2_with fail
     refine (noff_c _ p a n 2).mono ?_;rintro e3 w3 ⟨rfl,hf3⟩;have HF3:=Lib.hid (HF1.out.trans hf3);clear hf3 q0 q1 q2 qz ql;go_wp2_with fail
     refine (hW2.out w3 HF3.out).mono ?_;rintro e4 w4 ⟨rfl,hf4⟩;have HF4:=Lib.hid (HF3.out.trans hf4);clear hf4;go_wp2_with fail
     exact bodyPost_ret (v:=.tuple #[.int .i64 0,.int .i64 0,.int .i64 e2]) (by simp [results,Tryz.results85,go_sem]) rfl ⟨by rw [HR.out,if_neg (by decide),if_pos he2],HF4.out⟩
 · have hb0:(e0 != 0)=true:=by simpa using he0
   go_enter Tryz.func85,Tryz.ntmps85
   go_wp2_with fail
   refine (hW0.out _ (by exact fx)).mono ?_;rintro e1 w1 ⟨rfl,hf1⟩;have HF1:=Lib.hid (Fr.trans (by exact fx) hf1:Fr Non w w1);clear hf1;go_wp2_with fail
   exact bodyPost_ret (v:=.tuple #[.int .i64 0,.int .i64 0,.int .i64 e0]) (by simp [results,Tryz.results85,go_sem]) rfl ⟨by rw [HR.out,if_pos he0],HF1.out⟩
end
theorem Tryz.infoPair:(Tryz.prog.info? 112).map (fun i=>(i.zero,i.size,i.bytes))=some (some (.agg #[.int .i64 0,.int .i64 0]),2,16):=by kernel_rfl
theorem ev_first {l:List (Int × Int)} {k n:Int} {i:Nat} (h1:l[i]?=some (k,n)) (h3:∀ j,j<i→∀ d,l[j]?=some d→d.1≠k):evOf l k=some n:=by
 unfold evOf;have hi:=(List.getElem?_eq_some_iff.1 h1).1;have hx:l[i]=(k,n):=by have:=List.getElem?_eq_getElem hi;rw [this] at h1;exact Option.some.inj h1
 rw [← List.take_append_drop i l,List.find?_append,List.find?_eq_none.2 (fun d hd=>by
  obtain ⟨j,hj,rfl⟩:=List.getElem_of_mem hd;rw [List.length_take] at hj;have:=h3 j (by omega) _ (List.getElem?_eq_getElem (by omega));rw [List.getElem_take]
  simpa using this)]
 rw [List.drop_eq_getElem_cons hi,hx,List.find?_cons];simp
theorem ev_not {l:List (Int × Int)} {k:Int} (h3:∀ j,j<l.length→∀ d,l[j]?=some d→d.1≠k):evOf l k=none:=by
 unfold evOf
 rw [List.find?_eq_none.2 (fun d hd=>by
  obtain ⟨j,hj,rfl⟩:=List.getElem_of_mem hd;have:=h3 j hj _ (List.getElem?_eq_getElem hj)
  simpa using this)]
 rfl
section
variable {base:Nat} {P:Pr} {A:Nat→Prop} {T:Nat} {w w':World} {m:Nat} {S S':St} {Y:NY}
theorem nbrought_c (h:NL base P A T w m S Y) (k:Int):Calls Tryz.prog 55 #[.pointer (some ⟨m,0,none⟩),.int .i64 k] w fun e w' =>
 e=.returned (.tuple #[.int .i64 ((evOf S.ev k).getD 0),.bool (evOf S.ev k).isSome])∧Fr Non w w':=by
 have c3:w.cell? ⟨m,3,none⟩=some Y.ev:=h.row.cell rfl;have hm:=h.mlt;obtain ⟨ea,ec,eev,qf1,qf2,hg,qf3⟩:=h.evo.form;rw [eev] at c3;have hn:=h.evn;have HH:=Lib.hid (And.intro h (And.intro eev hg));obtain ⟨R,hR⟩:∃ R,R=evOf S.ev k:=⟨_,rfl⟩;rw [← hR];have HR:=Lib.hid hR;generalize hl:S.ev=l at *;have HL:=Lib.hid hl;clear h eev hg qf1 qf2 qf3 hR hl;go_enter Tryz.func55,Tryz.ntmps55
 go_wp2_with fail
 go_loopg [6] l.length (fun n v6 wr=>∃ i:Nat,i≤l.length∧n=l.length - i∧v6=.int .i64 i∧(∀ j,j<i→∀ d,l[j]?=some d→d.1≠k)∧Fr Non w wr)
 case atStart=>exact ⟨0,Nat.zero_le _,rfl,rfl,fun j hj=>absurd hj (by omega),Fr.refl _ _⟩
 case round =>
  obtain ⟨i,hi,rfl,rfl,hall,hfr⟩:=hrel;have d3:=hfr.cell c3 id;have hmr:m<wr.heap.size:=by have:=hfr.size;omega
  have hi0:(0:Int)≤(i:Int):=by omega
  by_cases hil:i<l.length
  · have hi1:(i:Int)<(l.length:Int):=by omega
    have hwi:IntKind.i64.wrap ((i:Int)+1)=(i:Int)+1:=IntWalk.i64_in _ (by omega);obtain ⟨⟨a,n⟩,hx⟩:∃ x,l[i]?=some x:=⟨l[i],List.getElem?_eq_getElem hil⟩;obtain ⟨z0,z1⟩:=evr_get hx;obtain ⟨g,hga⟩:=HH.out.2.2 (by omega);have hev:=HH.out.2.1;rw [hga] at hev;have hO:=HH.out.1.evo;rw [hev] at hO;have hO2:=hO.fr hfr fun _ _=>id;rw [HL.out] at hO2;subst hga;have k0:=hO2.cell rfl z0;have k1:=hO2.cell rfl z1;have kgl:=hO2.lt (g:=g) rfl
    have hnext:Hid (a≠k→∀ j,j<i+1→∀ d,l[j]?=some d→d.1≠k):=Lib.hid fun e j hj d hd=>by
     rcases Nat.lt_succ_iff_lt_or_eq.1 hj with h|rfl
     · exact hall j h d hd
     · rw [hx] at hd;cases hd
       exact e
    have HX:=Lib.hid (And.intro hall (And.intro hfr hx));clear hO hO2 z0 z1 hev hx hall hfr;by_cases hak:a=k
    · have hb:(a == k)=true:=by simp [hak]
      have hR:R=some n:=by rw [HR.out];exact ev_first (by rw [HX.out.2.2,hak]) HX.out.1
      have HR2:=Lib.hid hR;clear hR hak;go_wp2_with fail
      go_ret2
      exact ⟨by rw [HR2.out];rfl,by exact HX.out.2.1⟩
    · have hb:(a == k)=false:=beq_false_of_ne hak;have HN:=Lib.hid (hnext.out hak);clear hak hnext;go_wp2_with fail
      go_roundg (l.length - (i+1))
      case measure=>omega
      case rel=>exact ⟨i+1,by omega,rfl,by simp,HN.out,HX.out.2.1⟩
  · obtain rfl:i=l.length:=by omega
    have hR:R=none:=by rw [HR.out];exact ev_not hall
    have HR2:=Lib.hid (And.intro hR hfr);have hnlt:¬ ((l.length:Int)<(l.length:Int)):=by omega
    clear hR hall hfr;go_wp2_with fail
    go_ret2
    exact ⟨by rw [HR2.out.1];rfl,by exact HR2.out.2⟩
theorem ncomplete_c (h:NL base P A T w m S Y) (hl:S.ev.length<1000000) (k n:Int):Calls Tryz.prog 20 #[.pointer (some ⟨m,0,none⟩),.int .i64 k,.int .i64 n] w fun e w' =>
 e=.returned (.tuple #[])∧NAft base P A T w w' m (completeS S k n):=by
 have hB:=Lib.hid (nbrought_c h k);unfold completeS;cases hev:evOf S.ev k with
 | some v =>
  rw [hev] at hB;have HH:=Lib.hid h;clear h hev;go_enter Tryz.func20,Tryz.ntmps20
  go_wp2_with fail
  refine hB.out.mono ?_;rintro e1 w1 ⟨rfl,hf⟩;have HF:=Lib.hid hf;clear hf hB;go_wp2_with fail
  refine bodyPost_end (results_none rfl _ _ _) rfl ?_;exact ⟨rfl,by exact HH.out.aftN HF.out⟩
 | none =>
  rw [hev] at hB;obtain ⟨i0,hi,hz0,hz1,hz2⟩:=info_parts Tryz.infoPair;have HH:=Lib.hid h;have c3:w.cell? ⟨m,3,none⟩=some Y.ev:=h.row.cell rfl;have hm:=h.mlt;have hno:=h.ev_m;have HL:=Lib.hid hl;clear h hev hl;go_enter Tryz.func20,Tryz.ntmps20
  go_wp2_with fail
  refine hB.out.mono ?_;rintro e1 w1 ⟨rfl,hf⟩;have hm1:m<w1.heap.size:=by have:=hf.size;omega
  obtain ⟨x,c',w2,hrun,ho2,hf2,hg2⟩:=own_app (P:=Tryz.prog) (w:=w1.alloc (.cells #[.int .i64 k,.int .i64 n] 112)) (HH.out.evo.fr (hf.alloc _) (fun _ _ h=>h)) 59 i0 _ 16 Tryz.underlying59 hi hz0 hz1 hz2 rfl (by omega) (some ⟨w1.heap.size,0,none⟩) 1 1 (evr [(k,n)]) rfl (fun _=>⟨_,0,rfl,(by exact (Row.new' rfl).news)⟩) (fun u hu=>by simp [evr] at hu;rcases hu with rfl|rfl <;> rfl) (by have:=HL.out;omega) (by unfold maxLen;have:=HL.out;omega);have hr2:=hf2.row ((hf.row HH.out.row id).alloc _) hno;have c31:=hf.cell c3 id;have y3:=hr2.cell (o:=3) (v:=Y.ev) rfl;have yz:=hr2.frozen;have hm2:=hr2.lt;have H2:=Lib.hid (And.intro hf (And.intro ho2 (And.intro hf2 (And.intro hg2 (And.intro hr2 hno)))));clear hf ho2 hf2 hg2 hr2 hno hB c3;go_wp2_with (at_builtin;refine wpList_app rfl (.tmp 20) (.tmp 24) _ rfl rfl rfl _ rfl hrun ?_)
  refine bodyPost_end (results_none rfl _ _ _) rfl ?_;obtain ⟨hf,ho2,hf2,hg2,hr2,hno⟩:=H2.out;have hI:=HH.out;have hfA:Fr (fun y=>y=m∨Y.ev.ownBlock=some y) w w2:=(((hf.mono fun _ _ e=>e.elim).alloc _).then hf2 fun y _ hy=>Or.inr hy);have hup:=hI.upEv (w':=w2.setCell ⟨m,3,none⟩ (.slice x (S.ev.length+1) c')) (ev':=.slice x (S.ev.length+1) c') (l':=S.ev ++ [(k,n)]) (hr2.set_same 3 _) ?_ ?_ (hfA.setCell (a:=⟨m,3,none⟩) (Or.inl (Or.inl rfl)) _) (by have:=HL.out;simp;omega)
  · refine ⟨rfl,_,⟨_,hup⟩,?_,?_,Kp.rows hI.row hup.row rfl⟩
    · rintro y (hy|hy)
      · exact Or.inl hy
      · rcases hg2 y hy with e|e
        · exact Or.inl (hI.ae y e)
        · right;have:=hf.size;simp at e;omega
    · refine (hfA.setCell (a:=⟨m,3,none⟩) (Or.inl (Or.inl rfl)) _).mono fun y _ hy=>?_;rcases hy with rfl|hy
      · exact hI.am
      · exact hI.ae y hy
  · rw [evr_append,List.length_append];exact Own.fr (D:=fun y=>y=m) ho2 (Fr.set1 _ m 3 _) fun y hy e=>ho2.ne hr2 (by decide) (e ▸ hy)
  · intro g hg;rcases hg2 g hg with e|e
    · exact Or.inl e
    · right;have:=hf.size;simp at e;omega
end
end Go.Proofs.YtlbomnbpahmphaaGreat
