/- The plain law: what a function that calls itself comes out with, told of the machine that keeps a stack. Condition: the program is checked. -/
import Derived.Test.YtlbomnbpahmphaaGreatD25
import Derived.Test.YtlbomnbpahmphaaGreatD14
namespace Go.Proofs.YtlbomnbpahmphaaGreat
def St.on (S:St) (K:List Cl):St:={ S with stack:=K }
def St.tick (S:St):St:={ S with fuel:=S.fuel - 1 }
def Cl.as (c:Cl) (r i l:Int):Cl:={ c with role:=r,into:=i,label:=l }
def Cl.inc (c:Cl):Cl:={ c with at_:=c.at_+1 }
def Calm (P:Pr) (kinds:List Int) (f:List In):Prop:=∃ k:Nat,P.funs[k]?=some f∧kinds.getD k 0≠1
structure PrDoes (P:Pr) (kinds:List Int):Prop where
 good:PrGood P kinds
 calm:∀ (k:Nat) (f:List In),P.funs[k]?=some f→kinds.getD k 0≠1→∀ x∈f,x.op ∉ [20,21,23,24,27,(28:Int)]
 frame:∀ (k:Nat) (f:List In),P.funs[k]?=some f→kinds.getD k 0=0→∀ x∈f,x.op≠1
 can:∀ x∈P.cos,kinds.getD x.cancel.toNat 0=2
 call:∀ f∈P.funs,∀ x∈f,x.op=26→kinds.getD x.b.toNat 0=0
 fits:∀ f∈P.funs,∀ x∈f,I64 x.b
 cnt:∀ f∈P.funs,∀ x∈f,x.op∈[5,6,7,(16:Int)]→0≤x.c∧x.c≤1048576
structure CallR (P:Pr) (kinds:List Int) (c:Cl):Prop where
 fn:∃ k:Nat,P.funs[k]?=some c.fn∧(kinds.getD k 0≠0→c.frame.p=true)
 a0:0≤c.at_
 a1:c.at_<c.fn.length
 fits:c.fits
 frame:c.frame.ok
 len:c.regs.length=16
def retS (r:Int × Int) (c:Cl) (S:St):Out × St :=
 if r.1=0∨r.1=1 then suspS r.1 r.2 S (c :: S.stack)
 else if r.1=2 then (if c.role=2 then freedS S c.frame else if c.role=3 then (none,S) else doneS S c)
 else if r.1=3 then abortedS S c
 else (some r,S)
def goS (P:Pr) (g:Out × St):(Int × Int) × St:=((runS P g.2.fuel.toNat g.1 g.2).1,(runS P g.2.fuel.toNat g.1 g.2).2.on [])
structure Leaves (S:St) (r:Int × Int) (S':St):Prop where
 fuel:S'.fuel≤S.fuel
 kind:0≤r.1∧r.1≤6
 zero:r.1=2∨r.1=3→r.2=0
 mem:S'.mem.fits
 ev:S'.ev=S.ev
 task:S'.task=S.task
structure Runs (P:Pr) (kinds:List Int) (c:Cl) (S:St) (r:Int × Int) (S':St):Prop where
 lv:Leaves S r S'
 calm:Calm P kinds c.fn→2≤r.1∧r.1≠3
 go:∀ (K:List Cl) (ro i l:Int),(ro=2∨ro=3→Calm P kinds c.fn)→GoodL P kinds (c.as ro i l :: K)→goS P (none,S.on (c.as ro i l :: K))=goS P (retS r (c.as ro i l) (S'.on K))
structure GoesOn (P:Pr) (kinds:List Int) (p:Wd) (S:St) (r:Int × Int) (S':St):Prop where
 lv:Leaves S r S'
 go:∀ (K:List Cl) (d:Cl),d.at_=0→(d.role=0∨d.role=1)→(d.role=1→0≤d.into∧d.into<16)→d.regs=List.replicate 16 Wd.zero→(∀ e l,K=e :: l→0≤d.label∧d.label<e.fn.length)→GoodL P kinds K →
  goS P (goOnS P (S.on K) p d)=goS P (retS r { d with frame:=p } (S'.on K))
structure Stops (P:Pr) (kinds:List Int) (p:Wd) (S:St) (r:Int × Int) (S':St):Prop where
 lv:Leaves S r S'
 calm:2≤r.1∧r.1≠3
 go:∀ K:List Cl,GoodL P kinds K→goS P (stopS P (S.on K) p)=goS P (if r.1=2∧K≠[] then none else some r,S'.on K)
section
variable {P:Pr} {kinds:List Int} {c c1:Cl} {S S1 S':St} {r r1:Int × Int} {x:In} {K:List Cl}
theorem goS_some (r:Int × Int) (S:St):goS P (some r,S)=(r,S.on []):=by
 unfold goS;simp only;cases S.fuel.toNat <;> rfl
theorem goS_out (h:S.fuel≤0):goS P (none,S)=((4,0),S.on []):=by
 unfold goS;simp only;rw [show S.fuel.toNat=0 by omega]
 rfl
theorem goS_step (hf:0<S.fuel) (hk:(stepS P S.tick).2.fuel=S.fuel - 1):goS P (none,S)=goS P (stepS P S.tick):=by
 obtain ⟨f,hf2⟩:=Int.eq_ofNat_of_zero_le (show 0≤S.fuel - 1 by omega);unfold goS;simp only;rw [hk,show S.fuel.toNat=f+1 by omega,show (S.fuel - 1).toNat=f by omega];have:S.tick={ S with fuel:=(f:Int) }:=by unfold St.tick;rw [hf2]
 rw [this]
 rfl
theorem outR_out (e:Int):5≤(outR e).1∧(outR e).1≤6:=by unfold outR;split <;> simp
theorem errS_out {e:Int} (h:e≠0):errS e=some (outR e):=by unfold errS outR;rw [if_neg h]
theorem retS_out (h:3<r.1) (c:Cl) (S:St):retS r c S=(some r,S):=by
 unfold retS;rw [if_neg (by omega),if_neg (by omega),if_neg (by omega)]
theorem retS_done (c:Cl) (S:St):retS (2,0) c S=if c.role=2 then freedS S c.frame else if c.role=3 then (none,S) else doneS S c:=by
 unfold retS;rw [if_neg (by decide),if_pos rfl]
theorem susp_pop {k n:Int} {S:St} {l:List Cl} (h:c.role≠1):suspS k n S (c :: l)=suspS k n S l:=by rw [suspS,if_pos (Or.inl h)]
theorem susp_on (k n:Int) (S:St) (X Y:List Cl):∀ l:List Cl,suspS k n (S.on X) l=suspS k n (S.on Y) l
 | []=>rfl
 | c :: l=>by
  rw [suspS,suspS,susp_on k n S X Y l]
  rfl
theorem susp_eq (k n:Int) (S:St) (X Y:List Cl) (h1:c1.role=c.role) (h2:c1.into=c.into) (l:List Cl):suspS k n (S.on X) (c1 :: l)=suspS k n (S.on Y) (c :: l):=by
 rw [suspS,suspS,susp_on k n S X Y l,h1,h2]
 rfl
theorem retS_cong (h:c1.frame=c.frame) (r:Int × Int) (ro i l:Int) (S:St):retS r (c1.as ro i l) S=retS r (c.as ro i l) S:=by
 obtain ⟨a1,a2,a3,a4,a5,a6,a7⟩:=c;obtain ⟨b1,b2,b3,b4,b5,b6,b7⟩:=c1;cases h
 rfl
theorem Leaves.out (hf:S'.fuel≤S.fuel) (hm:S'.mem.fits) (he:S'.ev=S.ev) (ht:S'.task=S.task) (h:3<r.1∧r.1≤6):Leaves S r S':=⟨hf,by omega,by omega,hm,he,ht⟩
theorem Leaves.trans (h:Leaves S1 r S') (hf:S1.fuel≤S.fuel) (he:S1.ev=S.ev) (ht:S1.task=S.task):Leaves S r S':=⟨by have:=h.fuel;omega,h.kind,h.zero,h.mem,h.ev.trans he,h.task.trans ht⟩
theorem Runs.mk' (hP:PrDoes P kinds) (hf:0<S.fuel) (hl:Leaves S r S') (hc:Calm P kinds c.fn→2≤r.1∧r.1≠3)
 (h:∀ (K:List Cl) (ro i l:Int),(ro=2∨ro=3→Calm P kinds c.fn)→GoodL P kinds (c.as ro i l :: K)→goS P (stepS P (S.tick.on (c.as ro i l :: K)))=goS P (retS r (c.as ro i l) (S'.on K))):Runs P kinds c S r S' :=
 ⟨hl,hc,fun K ro i l hr hg=>(goS_step (S:=S.on (c.as ro i l :: K)) hf (by
  have:=stepS_ok (S:=S.tick.on (c.as ro i l :: K)) hP.good rfl hg
  exact this.1.fuel)).trans (h K ro i l hr hg)⟩
theorem GoodL.as' {ro i l:Int} (hg:GoodL P kinds (c.as ro i l :: K)) (hfn:c1.fn=c.fn) (h0:0≤c1.at_) (h1:c1.at_<c.fn.length):GoodL P kinds (c1.as ro i l :: K):=by
 refine GoodL.set (c:=c.as ro i l) hg ⟨?_,h0,by show c1.at_<c1.fn.length;rw [hfn];exact h1,hg.1.into,hg.1.role⟩ rfl rfl;have:=hg.1.fn;show ∃ k:Nat,P.funs[k]?=some c1.fn∧_;rw [hfn];exact this
theorem Runs.next (k:Runs P kinds c1 S1 r S') (hP:PrDoes P kinds) (hf:0<S.fuel) (hfn:c1.fn=c.fn) (hfr:c1.frame=c.frame) (h0:0≤c1.at_) (h1:c1.at_<c.fn.length) (hS:S1.fuel≤S.fuel∧S1.ev=S.ev∧S1.task=S.task)
 (h:∀ (K:List Cl) (ro i l:Int),(ro=2∨ro=3→Calm P kinds c.fn)→GoodL P kinds (c.as ro i l :: K)→goS P (stepS P (S.tick.on (c.as ro i l :: K)))=goS P (none,S1.on (c1.as ro i l :: K))):Runs P kinds c S r S' :=
 Runs.mk' hP hf (k.lv.trans hS.1 hS.2.1 hS.2.2) (fun hc=>k.calm (hfn ▸ hc)) fun K ro i l hr hg=>(h K ro i l hr hg).trans ((k.go K ro i l (fun e=>hfn ▸ hr e) (hg.as' hfn h0 h1)).trans (by rw [retS_cong hfr]))
theorem Runs.out (hf:S.fuel≤0) (hm:S.mem.fits):Runs P kinds c S (4,0) S :=
 ⟨Leaves.out (Int.le_refl _) hm rfl rfl (by decide),fun _=>by decide,fun K ro i l _ _=>by rw [goS_out (by exact hf),retS_out (by decide),goS_some];rfl⟩
theorem CallR.inst (h:CallR P kinds c):∃ x:In,c.fn[c.at_.toNat]?=some x:=⟨_,List.getElem?_eq_getElem (by have:=h.a0;have:=h.a1;omega)⟩
theorem CallR.mem (h:CallR P kinds c):c.fn∈P.funs:=by obtain ⟨k,hk,_⟩:=h.fn;exact List.mem_of_getElem? hk
theorem CallR.ins (h:CallR P kinds c) (hP:PrDoes P kinds) (hx:c.fn[c.at_.toNat]?=some x):InOk P c.fn.length x∧(x.op ∉ [13,15,27,28,(29:Int)]→c.at_+1<c.fn.length)∧I64 x.b∧(x.op=1→c.frame.p=true)∧(x.op=26→kinds.getD x.b.toNat 0=0)∧c.fn.length≤65536:=by
 obtain ⟨k,hk,hkr⟩:=h.fn;obtain ⟨_,h1,h2⟩:=hP.good.fun_ k _ hk;obtain ⟨a1,a2,_⟩:=h2 _ x hx;have hm:=List.mem_of_getElem? hx;have:=h.a0;refine ⟨a1,fun e=>by have:=a2 e;omega,hP.fits _ h.mem _ hm,fun e=>hkr fun e0=>hP.frame k _ hk e0 x hm e,hP.call _ h.mem _ hm,h1⟩
theorem Calm.ops (h:Calm P kinds c.fn) (hP:PrDoes P kinds) (hx:c.fn[c.at_.toNat]?=some x):x.op ∉ [20,21,23,24,27,(28:Int)]:=by
 obtain ⟨k,hk,hk2⟩:=h;exact hP.calm k _ hk hk2 x (List.mem_of_getElem? hx)
theorem inst_getD (hx:c.fn[c.at_.toNat]?=some x) (ro i l:Int):(c.as ro i l).fn.getD (c.as ro i l).at_.toNat In.zero=x:=by
 show c.fn.getD c.at_.toNat In.zero=x;rw [List.getD_eq_getElem?_getD,hx]
 rfl
theorem ite_f {α β:Type} (f:α→β) {p:Prop} [Decidable p] {a b:α} {a' b':β} (h1:p→a'=f a) (h2:¬ p→b'=f b):(if p then a' else b')=f (if p then a else b):=by
 by_cases h:p
 · rw [if_pos h,if_pos h];exact h1 h
 · rw [if_neg h,if_neg h];exact h2 h
def asW (ro i l:Int) (r:Mem × Cl × Int):Mem × Cl × Int:=(r.1,r.2.1.as ro i l,r.2.2)
def asR (ro i l:Int) (r:Cl × Int):Cl × Int:=(r.1.as ro i l,r.2)
theorem words_as (P:Pr) (M:Mem) (c:Cl) (x:In) (ro i l:Int):wordsS P M (c.as ro i l) x=asW ro i l (wordsS P M c x):=by
 unfold wordsS;refine ite_f _ (fun _=>rfl) fun _=>ite_f _ (fun _=>rfl) fun _=>ite_f _ (fun _=>rfl) fun _=>ite_f _ (fun _=>rfl) fun _=>ite_f _ (fun _=>rfl) fun _=>ite_f _ (fun _=>rfl) fun _=>ite_f _ (fun _=>ite_f _ (fun _=>rfl) fun _=>rfl) fun _=>?_;exact ite_f _ (fun _=>rfl) fun _=>ite_f _ (fun _=>rfl) fun _=>ite_f _ (fun _=>rfl) fun _=>ite_f _ (fun _=>rfl) fun _=>rfl
theorem goes_as (c:Cl) (x:In) (ro i l:Int):goesS (c.as ro i l) x=asR ro i l (goesS c x):=by
 unfold goesS;exact ite_f _ (fun _=>rfl) fun _=>ite_f _ (fun _=>rfl) fun _=>ite_f _ (fun _=>rfl) fun _=>ite_f _ (fun _=>rfl) fun _=>rfl
theorem reckons_as (c:Cl) (x:In) (ro i l:Int):reckonsS (c.as ro i l) x=asR ro i l (reckonsS c x):=by
 unfold reckonsS;exact ite_f _ (fun _=>rfl) fun _=>ite_f _ (fun _=>goes_as _ _ _ _ _) fun _=>ite_f _ (fun _=>rfl) fun _=>ite_f _ (fun _=>rfl) fun _=>ite_f _ (fun _=>rfl) fun _=>ite_f _ (fun _=>rfl) fun _=>rfl
theorem step_words (hx:c.fn.getD c.at_.toNat In.zero=x) (h:x.op≤7∨x.op=16∨x.op=17∨x.op=22) (S:St) (K:List Cl) :
 stepS P (S.on (c :: K))=(errS (wordsS P S.mem c.inc x).2.2,{ S with mem:=(wordsS P S.mem c.inc x).1 }.on ((wordsS P S.mem c.inc x).2.1 :: K)):=by
 unfold stepS;simp only [St.top,St.on,List.headD_cons,hx];rw [if_pos h]
 rfl
theorem step_reckons (hx:c.fn.getD c.at_.toNat In.zero=x) (h:8≤x.op∧x.op≤15) (S:St) (K:List Cl) :
 stepS P (S.on (c :: K))=(errS (reckonsS c.inc x).2,S.on ((reckonsS c.inc x).1 :: K)):=by
 unfold stepS;simp only [St.top,St.on,List.headD_cons,hx];rw [if_neg (by omega),if_pos (by omega)]
 rfl
theorem step_outside (hx:c.fn.getD c.at_.toNat In.zero=x) (h:18≤x.op∧x.op≤21) (S:St) (K:List Cl) :
 stepS P (S.on (c :: K))=outsideS (S.on (c.inc :: K)) c.inc x:=by
 unfold stepS;simp only [St.top,St.on,List.headD_cons,hx];rw [if_neg (by omega),if_neg (by omega),if_pos (by omega)]
 rfl
theorem step_calls (hx:c.fn.getD c.at_.toNat In.zero=x) (h:23≤x.op) (S:St) (K:List Cl) :
 stepS P (S.on (c :: K))=callsS P (S.on (c.inc :: K)) c.inc x:=by
 unfold stepS;simp only [St.top,St.on,List.headD_cons,hx];rw [if_neg (by omega),if_neg (by omega),if_neg (by omega)]
 rfl
end
section
variable {P:Pr} {kinds:List Int} {c:Cl} {S S1 S':St} {r r1:Int × Int} {x:In}
structure At (P:Pr) (kinds:List Int) (c:Cl) (S:St) (x:In):Prop where
 hP:PrDoes P kinds
 hc:CallR P kinds c
 hf:0<S.fuel
 hm:S.mem.fits
 he:∀ y∈S.ev,I64 y.2
 hx:c.fn[c.at_.toNat]?=some x
theorem At.ok (h:At P kinds c S x):InOk P c.fn.length x:=(h.hc.ins h.hP h.hx).1
theorem At.nx (h:At P kinds c S x) (ho:x.op ∉ [13,15,27,28,(29:Int)]):0≤c.inc.at_∧c.inc.at_<c.fn.length:=⟨by have:=h.hc.a0;unfold Cl.inc;simp only;omega,(h.hc.ins h.hP h.hx).2.1 ho⟩
theorem At.tick (_h:At P kinds c S x):S.tick.fuel≤S.fuel:=by unfold St.tick;simp only;omega
theorem CallR.elsewhere (h:CallR P kinds c) {c1:Cl} (hfn:c1.fn=c.fn) (hfr:c1.frame=c.frame) (h0:0≤c1.at_) (h1:c1.at_<c.fn.length) (hf:c1.fits) (hl:c1.regs.length=16):CallR P kinds c1 :=
 ⟨by rw [hfn,hfr];exact h.fn,h0,by rw [hfn];exact h1,hf,by rw [hfr];exact h.frame,hl⟩
theorem Runs.words (h:At P kinds c S x) (ho:x.op≤7∨x.op=16∨x.op=17∨x.op=22) {M':Mem} {c':Cl} (hw:wordsS P S.mem c.inc x=(M',c',0)) (k:Runs P kinds c' { S.tick with mem:=M' } r S'):Runs P kinds c S r S':=by
 obtain ⟨w1,w2,_⟩:=words_at P S.mem c.inc x;have hn:=h.nx (by simp;omega);have hfr:(wordsS P S.mem c.inc x).2.1.frame=c.frame:=by rcases words_cl P S.mem c.inc x with e|⟨y,e⟩ <;> rw [e] <;> rfl
 rw [hw] at w1 w2 hfr;simp only at w1 w2 hfr;refine Runs.next k h.hP h.hf w1 hfr (by rw [w2];exact hn.1) (by rw [w2];exact hn.2) ⟨h.tick,rfl,rfl⟩ (fun K ro i l _ _=>?_);rw [step_words (inst_getD h.hx ro i l) ho];have:=words_as P S.mem c.inc x ro i l;rw [hw] at this;change goS P (errS (wordsS P S.mem (c.inc.as ro i l) x).2.2,{ S.tick with mem:=(wordsS P S.mem (c.inc.as ro i l) x).1 }.on ((wordsS P S.mem (c.inc.as ro i l) x).2.1 :: K))=_;rw [this]
 rfl
theorem Runs.wordsBad (h:At P kinds c S x) (ho:x.op≤7∨x.op=16∨x.op=17∨x.op=22) {M':Mem} {c':Cl} {e:Int} (hw:wordsS P S.mem c.inc x=(M',c',e)) (he:e≠0):Runs P kinds c S (outR e) { S.tick with mem:=M' }:=by
 have hb:=(h.hc.ins h.hP h.hx).2.2.1;have hm:=(words_fit (P:=P) (x:=x) h.hm (show c.inc.fits from h.hc.fits) (show c.inc.frame.ok from h.hc.frame) hb).1;rw [hw] at hm;have ho2:=outR_out e;refine Runs.mk' h.hP h.hf (Leaves.out h.tick hm rfl rfl ⟨by omega,ho2.2⟩) (fun _=>by omega) fun K ro i l _ _=>?_;rw [step_words (inst_getD h.hx ro i l) ho];have:=words_as P S.mem c.inc x ro i l;rw [hw] at this;change goS P (errS (wordsS P S.mem (c.inc.as ro i l) x).2.2,{ S.tick with mem:=(wordsS P S.mem (c.inc.as ro i l) x).1 }.on ((wordsS P S.mem (c.inc.as ro i l) x).2.1 :: K))=_;rw [this,retS_out (by omega)];simp only [asW];rw [errS_out he,goS_some,goS_some]
 rfl
theorem reckons_in (c:Cl) (x:In):(reckonsS c x).1.frame=c.frame∧(reckonsS c x).1.regs.length=c.regs.length:=by
 have hh:∀ y:Wd,(c.put x.a y).frame=c.frame∧(c.put x.a y).regs.length=c.regs.length:=fun y=>⟨rfl,List.length_set⟩;unfold reckonsS goesS;refine ite_c (C:=fun r:Cl × Int=>r.1.frame=c.frame∧r.1.regs.length=c.regs.length) (fun _=>⟨rfl,rfl⟩) fun _=>?_;refine ite_c (C:=fun r:Cl × Int=>r.1.frame=c.frame∧r.1.regs.length=c.regs.length) (fun _=>?_) fun _=>?_
 · refine ite_c (C:=fun r:Cl × Int=>r.1.frame=c.frame∧r.1.regs.length=c.regs.length) (fun _=>⟨rfl,rfl⟩) fun _=>?_;refine ite_c (C:=fun r:Cl × Int=>r.1.frame=c.frame∧r.1.regs.length=c.regs.length) (fun _=>⟨rfl,rfl⟩) fun _=>?_;refine ite_c (C:=fun r:Cl × Int=>r.1.frame=c.frame∧r.1.regs.length=c.regs.length) (fun _=>⟨rfl,rfl⟩) fun _=>?_;exact ite_c (C:=fun r:Cl × Int=>r.1.frame=c.frame∧r.1.regs.length=c.regs.length) (fun _=>⟨rfl,rfl⟩) fun _=>⟨rfl,rfl⟩
 refine ite_c (C:=fun r:Cl × Int=>r.1.frame=c.frame∧r.1.regs.length=c.regs.length) (fun _=>⟨rfl,rfl⟩) fun _=>?_;refine ite_c (C:=fun r:Cl × Int=>r.1.frame=c.frame∧r.1.regs.length=c.regs.length) (fun _=>hh _) fun _=>?_;refine ite_c (C:=fun r:Cl × Int=>r.1.frame=c.frame∧r.1.regs.length=c.regs.length) (fun _=>hh _) fun _=>?_;exact ite_c (C:=fun r:Cl × Int=>r.1.frame=c.frame∧r.1.regs.length=c.regs.length) (fun _=>hh _) fun _=>⟨rfl,rfl⟩
theorem Runs.reckons (h:At P kinds c S x) (ho:8≤x.op∧x.op≤15) {c':Cl} (hw:reckonsS c.inc x=(c',0)) (k:Runs P kinds c' S.tick r S'):Runs P kinds c S r S':=by
 have ha:=h.hc.a0;have hat:=reckons_at h.ok ho c.inc ⟨by unfold Cl.inc;simp only;omega,fun e=>(h.nx e).2⟩ (by rw [hw]);have hin:=(reckons_in c.inc x).1;rw [hw] at hat hin;simp only at hat hin;refine Runs.next k h.hP h.hf hat.1 hin hat.2.1.1 hat.2.1.2 ⟨h.tick,rfl,rfl⟩ (fun K ro i l _ _=>?_);rw [step_reckons (inst_getD h.hx ro i l) ho];have:=reckons_as c.inc x ro i l;rw [hw] at this;change goS P (errS (reckonsS (c.inc.as ro i l) x).2,S.tick.on ((reckonsS (c.inc.as ro i l) x).1 :: K))=_;rw [this]
 rfl
theorem Runs.reckonsBad (h:At P kinds c S x) (ho:8≤x.op∧x.op≤15) {c':Cl} {e:Int} (hw:reckonsS c.inc x=(c',e)) (he:e≠0):Runs P kinds c S (outR e) S.tick:=by
 have ho2:=outR_out e;refine Runs.mk' h.hP h.hf (Leaves.out h.tick h.hm rfl rfl ⟨by omega,ho2.2⟩) (fun _=>by omega) fun K ro i l _ _=>?_;rw [step_reckons (inst_getD h.hx ro i l) ho];have:=reckons_as c.inc x ro i l;rw [hw] at this;change goS P (errS (reckonsS (c.inc.as ro i l) x).2,S.tick.on ((reckonsS (c.inc.as ro i l) x).1 :: K))=_;rw [this,retS_out (by omega)];simp only [asR];rw [errS_out he,goS_some,goS_some]
 rfl
theorem Runs.outs (h:At P kinds c S x) (ho:18≤x.op∧x.op≤20) (hb:(c.reg x.a).p=true):Runs P kinds c S (6,11) S.tick:=by
 refine Runs.mk' h.hP h.hf (Leaves.out h.tick h.hm rfl rfl (by decide)) (fun _=>by decide) fun K ro i l _ _=>?_;rw [step_outside (inst_getD h.hx ro i l) ⟨ho.1,by omega⟩];unfold outsideS;rw [if_neg (show ¬ x.op=21 by omega),if_pos (by exact hb),retS_out (by decide)];show goS P (some (6,11),_)=_;rw [goS_some,goS_some]
 rfl
theorem Runs.tell (h:At P kinds c S x) (hb:(c.reg x.a).p=false) {kk a:Int} (ho:(x.op=18∧kk=2∧a=0)∨(x.op=19∧kk=3∧a=x.b)) (k:Runs P kinds c.inc (S.tick.tell kk a (c.reg x.a).n) r S'):Runs P kinds c S r S':=by
 have hn:=h.nx (by simp;omega);refine Runs.next k h.hP h.hf rfl rfl hn.1 hn.2 ⟨h.tick,rfl,rfl⟩ (fun K ro i l _ _=>?_);rw [step_outside (inst_getD h.hx ro i l) (by omega)]
 have hb2:¬ ((c.as ro i l).inc.reg x.a).p=true:=by
  show ¬ (c.reg x.a).p=true;rw [hb]
  decide
 unfold outsideS;rw [if_neg (show ¬ x.op=21 by omega),if_neg hb2];rcases ho with ⟨e1,rfl,rfl⟩|⟨e1,rfl,rfl⟩
 · rw [if_pos e1];rfl
 · rw [if_neg (show ¬ x.op=18 by omega),if_pos e1];rfl
theorem Runs.yield (h:At P kinds c S x) (ho:x.op=20) (hb:(c.reg x.a).p=false):Runs P kinds c S (0,(c.reg x.a).n) S.tick:=by
 refine Runs.mk' h.hP h.hf ⟨h.tick,by simp,by simp,h.hm,rfl,rfl⟩ (fun hc=>absurd (hc.ops h.hP h.hx) (by simp [ho])) fun K ro i l _ _=>?_;rw [step_outside (inst_getD h.hx ro i l) (by omega)]
 have hb2:¬ ((c.as ro i l).inc.reg x.a).p=true:=by
  show ¬ (c.reg x.a).p=true;rw [hb]
  decide
 unfold outsideS;rw [if_neg (show ¬ x.op=21 by omega),if_neg hb2,if_neg (show ¬ x.op=18 by omega),if_neg (show ¬ x.op=19 by omega),if_pos ho];exact congrArg (goS P) (susp_eq 0 _ S.tick _ _ rfl rfl K)
theorem Runs.waitBad (h:At P kinds c S x) (ho:x.op=21) (hb:(c.reg x.b).p=true):Runs P kinds c S (6,11) S.tick:=by
 refine Runs.mk' h.hP h.hf (Leaves.out h.tick h.hm rfl rfl (by decide)) (fun _=>by decide) fun K ro i l _ _=>?_;rw [step_outside (inst_getD h.hx ro i l) (by omega)];unfold outsideS;rw [if_pos ho,if_pos (by exact hb),retS_out (by decide)];show goS P (some (6,11),_)=_;rw [goS_some,goS_some]
 rfl
theorem Runs.pend (h:At P kinds c S x) (ho:x.op=21) (hb:(c.reg x.b).p=false) (hev:evOf S.ev (c.reg x.b).n=none):Runs P kinds c S (1,(c.reg x.b).n) S.tick:=by
 refine Runs.mk' h.hP h.hf ⟨h.tick,by simp,by simp,h.hm,rfl,rfl⟩ (fun hc=>absurd (hc.ops h.hP h.hx) (by simp [ho])) fun K ro i l _ _=>?_;rw [step_outside (inst_getD h.hx ro i l) (by omega)]
 have hb2:¬ ((c.as ro i l).inc.reg x.b).p=true:=by
  show ¬ (c.reg x.b).p=true;rw [hb]
  decide
 have hev2:evOf (S.tick.on ((c.as ro i l).inc :: K)).ev ((c.as ro i l).inc.reg x.b).n=none:=hev;unfold outsideS;rw [if_pos ho,if_neg hb2,if_neg (show ¬ x.op=18 by omega),if_neg (show ¬ x.op=19 by omega),if_neg (show ¬ x.op=20 by omega),hev2];exact congrArg (goS P) (susp_eq 1 _ S.tick _ _ rfl rfl K)
theorem Runs.wait (h:At P kinds c S x) (ho:x.op=21) (hb:(c.reg x.b).p=false) {n:Int} (hev:evOf S.ev (c.reg x.b).n=some n) (k:Runs P kinds (c.inc.put x.a (num n)) S.tick r S'):Runs P kinds c S r S':=by
 have hn:=h.nx (by simp [ho]);refine Runs.next k h.hP h.hf rfl rfl hn.1 hn.2 ⟨h.tick,rfl,rfl⟩ (fun K ro i l _ _=>?_);rw [step_outside (inst_getD h.hx ro i l) (by omega)]
 have hb2:¬ ((c.as ro i l).inc.reg x.b).p=true:=by
  show ¬ (c.reg x.b).p=true;rw [hb]
  decide
 have hev2:evOf (S.tick.on ((c.as ro i l).inc :: K)).ev ((c.as ro i l).inc.reg x.b).n=some n:=hev;unfold outsideS;rw [if_pos ho,if_neg hb2,if_neg (show ¬ x.op=18 by omega),if_neg (show ¬ x.op=19 by omega),if_neg (show ¬ x.op=20 by omega),hev2]
 rfl
theorem goodK (h:At P kinds c S x) (ho:x.op ∉ [13,15,27,28,(29:Int)]) {K:List Cl} {ro i l:Int} (hg:GoodL P kinds (c.as ro i l :: K)):GoodL P kinds (c.inc.as ro i l :: K):=hg.as' rfl (h.nx ho).1 (h.nx ho).2
theorem goes_eq (h:At P kinds c S x) (ho:x.op=23∨x.op=24) {p:Wd} {ro1 i1:Int} (hp:(x.op=23∧p=c.reg x.a∧ro1=0∧i1=0)∨(x.op=24∧p=c.reg x.b∧ro1=1∧i1=x.a)) (hg:GoesOn P kinds p S.tick r1 S1) {K:List Cl} {ro i l:Int} (hgd:GoodL P kinds (c.as ro i l :: K)) :
 goS P (stepS P (S.tick.on (c.as ro i l :: K)))=goS P (retS r1 { Cl.new Wd.zero ro1 i1 (x.lab 0) with frame:=p } (S1.on (c.inc.as ro i l :: K))):=by
 have hin:=h.ok;have hl:=In.lab_ok hin (hin.lab (by rcases ho with e|e <;> simp [e])) (i:=0) (by omega) (by have:=hin.lab (by rcases ho with e|e <;> simp [e]);omega);have hno:x.op ∉ [13,15,27,28,(29:Int)]:=by simp;omega
 rw [step_calls (inst_getD h.hx ro i l) (by omega)]
 have hgo:=hg.go (c.inc.as ro i l :: K) (Cl.new Wd.zero ro1 i1 (x.lab 0)) rfl (by rcases hp with ⟨_,_,e,_⟩|⟨_,_,e,_⟩ <;> simp [Cl.new,e]) (fun e=>by
  rcases hp with ⟨_,_,e1,_⟩|⟨e2,_,_,e1⟩
  · rw [Cl.new,e1] at e;cases e
  · simp only [Cl.new,e1];exact hin.ra (by simp [e2])) rfl (fun e l' he=>by cases he;exact hl) (goodK h hno hgd)
 rw [← hgo];unfold callsS;rcases hp with ⟨e,rfl,rfl,rfl⟩|⟨e,rfl,rfl,rfl⟩
 · rw [if_pos e];rfl
 · rw [if_neg (show ¬ x.op=23 by omega),if_pos e];rfl
theorem Leaves.tick (h:Leaves S.tick r S'):Leaves S r S':=by
 refine h.trans ?_ rfl rfl;unfold St.tick;simp only;omega
theorem Leaves.eq (h:Leaves S.tick r S'):S'.fuel≤S.fuel∧S'.ev=S.ev∧S'.task=S.task:=⟨h.tick.fuel,h.ev,h.task⟩
theorem Runs.pollOn (h:At P kinds c S x) (ho:x.op=23) (hg:GoesOn P kinds (c.reg x.a) S.tick r1 S1) (h2:r1.1=2) (k:Runs P kinds c.inc S1 r S'):Runs P kinds c S r S':=by
 have hn:=h.nx (by simp [ho]);refine Runs.next k h.hP h.hf rfl rfl hn.1 hn.2 hg.lv.eq (fun K ro i l _ hgd=>?_);rw [goes_eq h (Or.inl ho) (Or.inl ⟨ho,rfl,rfl,rfl⟩) hg hgd];unfold retS;rw [if_neg (by omega),if_pos h2]
 rfl
theorem Runs.stepOn (h:At P kinds c S x) (ho:x.op=24) (hg:GoesOn P kinds (c.reg x.b) S.tick r1 S1) (h2:r1.1=2) (k:Runs P kinds (c.inc.put x.a (num 0)) S1 r S'):Runs P kinds c S r S':=by
 have hn:=h.nx (by simp [ho]);refine Runs.next k h.hP h.hf rfl rfl hn.1 hn.2 hg.lv.eq (fun K ro i l _ hgd=>?_);rw [goes_eq h (Or.inr ho) (Or.inr ⟨ho,rfl,rfl,rfl⟩) hg hgd];unfold retS;rw [if_neg (by omega),if_pos h2]
 rfl
theorem Runs.goAb (h:At P kinds c S x) {p:Wd} (ho:(x.op=23∧p=c.reg x.a)∨(x.op=24∧p=c.reg x.b)) (hg:GoesOn P kinds p S.tick r1 S1) (h3:r1.1=3) (k:Runs P kinds { c with at_:=x.lab 0 } S1 r S'):Runs P kinds c S r S':=by
 have hin:=h.ok;have hl:=In.lab_ok hin (hin.lab (by rcases ho with ⟨e,_⟩|⟨e,_⟩ <;> simp [e])) (i:=0) (by omega) (by have:=hin.lab (by rcases ho with ⟨e,_⟩|⟨e,_⟩ <;> simp [e]);omega);refine Runs.next k h.hP h.hf rfl rfl hl.1 hl.2 hg.lv.eq (fun K ro i l _ hgd=>?_)
 have hq:∃ ro1 i1:Int,(x.op=23∧p=c.reg x.a∧ro1=0∧i1=0)∨(x.op=24∧p=c.reg x.b∧ro1=1∧i1=x.a):=by
  rcases ho with ⟨e,e2⟩|⟨e,e2⟩
  · exact ⟨0,0,Or.inl ⟨e,e2,rfl,rfl⟩⟩
  · exact ⟨1,x.a,Or.inr ⟨e,e2,rfl,rfl⟩⟩
 obtain ⟨ro1,i1,hq⟩:=hq;rw [goes_eq (ro1:=ro1) (i1:=i1) h (ho.imp And.left And.left) hq hg hgd];unfold retS;rw [if_neg (by omega),if_neg (by omega),if_pos h3]
 rfl
theorem Runs.goOut (h:At P kinds c S x) {p:Wd} (ho:(x.op=23∧p=c.reg x.a)∨(x.op=24∧p=c.reg x.b)) (hg:GoesOn P kinds p S.tick r1 S1) (h3:3<r1.1∨(x.op=23∧r1.1<2)):Runs P kinds c S r1 S1:=by
 have hk:=hg.lv.kind;refine Runs.mk' h.hP h.hf hg.lv.tick (fun hc=>absurd (hc.ops h.hP h.hx) (by rcases ho with ⟨e,_⟩|⟨e,_⟩ <;> simp [e])) fun K ro i l _ hgd=>?_
 have hq:∃ ro1 i1:Int,(x.op=23∧p=c.reg x.a∧ro1=0∧i1=0)∨(x.op=24∧p=c.reg x.b∧ro1=1∧i1=x.a):=by
  rcases ho with ⟨e,e2⟩|⟨e,e2⟩
  · exact ⟨0,0,Or.inl ⟨e,e2,rfl,rfl⟩⟩
  · exact ⟨1,x.a,Or.inr ⟨e,e2,rfl,rfl⟩⟩
 obtain ⟨ro1,i1,hq⟩:=hq;rw [goes_eq (ro1:=ro1) (i1:=i1) h (ho.imp And.left And.left) hq hg hgd];by_cases h4:3<r1.1
 · rw [retS_out h4,retS_out h4,goS_some,goS_some]
   rfl
 · have h5:x.op=23∧r1.1<2:=h3.resolve_left h4
   have h6:ro1=0:=by
    rcases hq with ⟨_,_,e,_⟩|⟨e,_⟩
    · exact e
    · omega
   subst h6;unfold retS;rw [if_pos (by omega),if_pos (by omega)];refine (congrArg (goS P) (susp_pop (show (0:Int)≠1 by decide))).trans ?_;exact congrArg (goS P) (susp_eq _ _ S1 _ _ rfl rfl K)
theorem Runs.stepY (h:At P kinds c S x) (ho:x.op=24) (hg:GoesOn P kinds (c.reg x.b) S.tick r1 S1) (h2:r1.1=0) (k:Runs P kinds (c.inc.put x.a (num 1)) (S1.tell 5 0 r1.2) r S'):Runs P kinds c S r S':=by
 have hn:=h.nx (by simp [ho]);refine Runs.next k h.hP h.hf rfl rfl hn.1 hn.2 hg.lv.eq (fun K ro i l _ hgd=>?_);rw [goes_eq h (Or.inr ho) (Or.inr ⟨ho,rfl,rfl,rfl⟩) hg hgd];unfold retS;rw [if_pos (by omega),h2]
 rfl
theorem Runs.stepP (h:At P kinds c S x) (ho:x.op=24) (hg:GoesOn P kinds (c.reg x.b) S.tick r1 S1) (h2:r1.1=1) (k:Runs P kinds (c.inc.put x.a (num 1)) S1 r S'):Runs P kinds c S r S':=by
 have hn:=h.nx (by simp [ho]);refine Runs.next k h.hP h.hf rfl rfl hn.1 hn.2 hg.lv.eq (fun K ro i l _ hgd=>?_);rw [goes_eq h (Or.inr ho) (Or.inr ⟨ho,rfl,rfl,rfl⟩) hg hgd];unfold retS;rw [if_pos (by omega),h2]
 rfl
theorem stops_eq (h:At P kinds c S x) (ho:x.op=25) (hg:Stops P kinds (c.reg x.a) S.tick r1 S1) {K:List Cl} {ro i l:Int} (hgd:GoodL P kinds (c.as ro i l :: K)) :
 goS P (stepS P (S.tick.on (c.as ro i l :: K)))=goS P (if r1.1=2 then none else some r1,S1.on (c.inc.as ro i l :: K)):=by
 rw [step_calls (inst_getD h.hx ro i l) (by omega)];have hgo:=hg.go (c.inc.as ro i l :: K) (goodK h (by simp [ho]) hgd);unfold callsS;rw [if_neg (show ¬ x.op=23 by omega),if_neg (show ¬ x.op=24 by omega),if_pos ho];refine hgo.trans ?_;by_cases h2:r1.1=2
 · rw [if_pos h2,if_pos ⟨h2,by simp⟩]
 · rw [if_neg h2,if_neg (fun e=>h2 e.1)]
theorem Runs.stopOn (h:At P kinds c S x) (ho:x.op=25) (hg:Stops P kinds (c.reg x.a) S.tick r1 S1) (h2:r1.1=2) (k:Runs P kinds c.inc S1 r S'):Runs P kinds c S r S':=by
 have hn:=h.nx (by simp [ho]);refine Runs.next k h.hP h.hf rfl rfl hn.1 hn.2 hg.lv.eq (fun K ro i l _ hgd=>?_);rw [stops_eq h ho hg hgd,if_pos h2]
theorem Runs.stopOut (h:At P kinds c S x) (ho:x.op=25) (hg:Stops P kinds (c.reg x.a) S.tick r1 S1) (h2:r1.1≠2):Runs P kinds c S r1 S1:=by
 have hc:=hg.calm;refine Runs.mk' h.hP h.hf hg.lv.tick (fun _=>hc) fun K ro i l _ hgd=>?_;rw [stops_eq h ho hg hgd,if_neg h2,retS_out (by omega),goS_some,goS_some]
 rfl
def Pr.glue (P:Pr) (c:Cl) (x:In):Cl:={ (Cl.new Wd.zero 0 0 0).put 0 (c.reg x.a) with fn:=P.fn x.b }
theorem glue_calm (h:At P kinds c S x) (ho:x.op=26):Calm P kinds (P.glue c x).fn∧CallR P kinds (P.glue c x):=by
 have hx:=h.ok.fn ho;have hf:=fn_at h.hP.good hx.1 hx.2;have h0:=(h.hc.ins h.hP h.hx).2.2.2.2.1 ho;refine ⟨⟨_,hf.1,by rw [h0];decide⟩,⟨⟨_,hf.1,fun e=>absurd h0 e⟩,by simp [Pr.glue,Cl.new,Cl.put],?_,?_,zero_ok,by simp [Pr.glue,Cl.new,Cl.put]⟩⟩
 · have:=hf.2;simp only [Pr.glue,Cl.new,Cl.put];omega
 · refine Cl.fits.put (c:=Cl.new Wd.zero 0 0 0) (fun y hy=>?_) (reg_ok h.hc.fits _) 0;rw [(List.mem_replicate.1 hy).2];exact zero_ok
theorem glue_eq (h:At P kinds c S x) (ho:x.op=26) (hr:Runs P kinds (P.glue c x) S.tick r1 S1) {K:List Cl} {ro i l:Int} (hgd:GoodL P kinds (c.as ro i l :: K)) :
 goS P (stepS P (S.tick.on (c.as ro i l :: K)))=goS P (if r1.1=2 then none else some r1,S1.on (c.inc.as ro i l :: K)):=by
 obtain ⟨hcm,hcr⟩:=glue_calm h ho;have hx:=h.ok.fn ho;have hf:=fn_at h.hP.good hx.1 hx.2;have hk:=hr.calm hcm;have hgK:=goodK h (by simp [ho]) hgd;rw [step_calls (inst_getD h.hx ro i l) (by omega)]
 have hgo:=hr.go (c.inc.as ro i l :: K) 3 0 0 (fun _=>hcm) ⟨⟨⟨_,hf.1,fun e=>by simp [Cl.as] at e⟩,hcr.a0,hcr.a1,fun e=>by simp [Cl.as] at e,by simp [Cl.as]⟩,⟨by simp [Cl.as],by
  have:=hgK.1.a0;have:=hgK.1.a1;simp only [Cl.as] at *
  omega⟩,hgK⟩
 unfold callsS;rw [if_neg (show ¬ x.op=23 by omega),if_neg (show ¬ x.op=24 by omega),if_neg (show ¬ x.op=25 by omega),if_pos ho];refine Eq.trans (b:=goS P (retS r1 ((P.glue c x).as 3 0 0) (S1.on (c.inc.as ro i l :: K)))) hgo ?_;by_cases h2:r1.1=2
 · unfold retS;rw [if_neg (by omega),if_pos h2,if_pos h2]
   rfl
 · rw [if_neg h2,retS_out (by omega)]
theorem Runs.callOn (h:At P kinds c S x) (ho:x.op=26) (hr:Runs P kinds (P.glue c x) S.tick r1 S1) (h2:r1.1=2) (k:Runs P kinds c.inc S1 r S'):Runs P kinds c S r S':=by
 have hn:=h.nx (by simp [ho]);refine Runs.next k h.hP h.hf rfl rfl hn.1 hn.2 hr.lv.eq (fun K ro i l _ hgd=>?_);rw [glue_eq h ho hr hgd,if_pos h2]
theorem Runs.callOut (h:At P kinds c S x) (ho:x.op=26) (hr:Runs P kinds (P.glue c x) S.tick r1 S1) (h2:r1.1≠2):Runs P kinds c S r1 S1:=by
 have hc:=hr.calm (glue_calm h ho).1;refine Runs.mk' h.hP h.hf hr.lv.tick (fun _=>hc) fun K ro i l _ hgd=>?_;rw [glue_eq h ho hr hgd,if_neg h2,retS_out (by omega),goS_some,goS_some]
 rfl
theorem Runs.endsBad (h:At P kinds c S x) {n:Int} (ho:(x.op=27∧n = -1)∨(x.op=28∧n = -2)) {M':Mem} {e:Int} (hs:S.mem.store c.frame (num n)=(M',e)) (he:e≠0):Runs P kinds c S (outR e) { S.tick with mem:=M' }:=by
 have hm:=store_fits h.hm (x:=num n) (num_ok (by unfold I64;omega)) c.frame;rw [hs] at hm;have ho2:=outR_out e;refine Runs.mk' h.hP h.hf (Leaves.out h.tick hm rfl rfl ⟨by omega,ho2.2⟩) (fun _=>by omega) fun K ro i l _ _=>?_;rw [step_calls (inst_getD h.hx ro i l) (by omega),retS_out (by omega),goS_some]
 have hs2:(S.tick.on ((c.as ro i l).inc :: K)).mem.store (offS (S.tick.on ((c.as ro i l).inc :: K)).top.frame 0) (num (if x.op=28 then -2 else -1))=(M',e):=by
  show S.mem.store (offS c.frame 0) _=_;rw [off_zero h.hc.frame,← hs];rcases ho with ⟨e1,rfl⟩|⟨e1,rfl⟩
  · rw [if_neg (by omega)]
  · rw [if_pos e1]
 unfold callsS;rw [if_neg (show ¬ x.op=23 by omega),if_neg (show ¬ x.op=24 by omega),if_neg (show ¬ x.op=25 by omega),if_neg (show ¬ x.op=26 by omega),if_pos (by omega)];unfold endsS;simp only [hs2];rw [if_pos he,errS_out he,goS_some]
 rfl
theorem Runs.ends (h:At P kinds c S x) {n k:Int} (ho:(x.op=27∧n = -1∧k=2)∨(x.op=28∧n = -2∧k=3)) {M':Mem} (hs:S.mem.store c.frame (num n)=(M',0)):Runs P kinds c S (k,0) { S.tick with mem:=M' }:=by
 have hm:=store_fits h.hm (x:=num n) (num_ok (by unfold I64;omega)) c.frame;rw [hs] at hm;have hno:¬ Calm P kinds c.fn:=fun hc=>absurd (hc.ops h.hP h.hx) (by rcases ho with ⟨e,_⟩|⟨e,_⟩ <;> simp [e]);refine Runs.mk' h.hP h.hf ⟨h.tick,by simp only;omega,fun _=>rfl,hm,rfl,rfl⟩ (fun hc=>absurd hc hno) fun K ro i l hr _=>?_;rw [step_calls (inst_getD h.hx ro i l) (by omega)]
 have hs2:(S.tick.on ((c.as ro i l).inc :: K)).mem.store (offS (S.tick.on ((c.as ro i l).inc :: K)).top.frame 0) (num (if x.op=28 then -2 else -1))=(M',0):=by
  show S.mem.store (offS c.frame 0) _=_;rw [off_zero h.hc.frame,← hs];rcases ho with ⟨e1,rfl,_⟩|⟨e1,rfl,_⟩
  · rw [if_neg (by omega)]
  · rw [if_pos e1]
 have hro:¬ (c.as ro i l).role=2∧¬ (c.as ro i l).role=3:=⟨fun e=>hno (hr (Or.inl e)),fun e=>hno (hr (Or.inr e))⟩;unfold callsS;rw [if_neg (show ¬ x.op=23 by omega),if_neg (show ¬ x.op=24 by omega),if_neg (show ¬ x.op=25 by omega),if_neg (show ¬ x.op=26 by omega),if_pos (by omega)];unfold endsS;simp only [hs2];rw [if_neg (by decide)];unfold retS;rcases ho with ⟨e1,_,rfl⟩|⟨e1,_,rfl⟩
 · rw [if_neg (show ¬ x.op=28 by omega),if_neg (by decide),if_pos rfl,if_neg hro.1,if_neg hro.2]
   rfl
 · rw [if_pos e1,if_neg (by decide),if_neg (by decide),if_pos rfl]
   rfl
theorem Runs.end_ (h:At P kinds c S x) (ho:x.op=29):Runs P kinds c S (2,0) S.tick:=by
 refine Runs.mk' h.hP h.hf ⟨h.tick,by decide,fun _=>rfl,h.hm,rfl,rfl⟩ (fun _=>by decide) fun K ro i l _ hg=>?_;rw [step_calls (inst_getD h.hx ro i l) (by omega)];obtain ⟨j,hj⟩:=Int.eq_ofNat_of_zero_le h.hc.a0;have hx:=h.hx;rw [show c.at_.toNat=j by omega] at hx;have hfe:=(fell h.hP.good hg.1 (i:=j) hj hx).2.2.1 ho;have hro:=hg.1.role;unfold callsS;rw [if_neg (show ¬ x.op=23 by omega),if_neg (show ¬ x.op=24 by omega),if_neg (show ¬ x.op=25 by omega),if_neg (show ¬ x.op=26 by omega),if_neg (by omega),retS_done];by_cases h2:(c.as ro i l).role=2
 · rw [if_pos h2,if_pos (show (c.as ro i l).inc.role=2 from h2)]
   rfl
 · rw [if_neg h2,if_neg (show ¬ (c.as ro i l).inc.role=2 from h2),if_pos (show (c.as ro i l).role=3 by omega)]
   rfl
end
end Go.Proofs.YtlbomnbpahmphaaGreat
