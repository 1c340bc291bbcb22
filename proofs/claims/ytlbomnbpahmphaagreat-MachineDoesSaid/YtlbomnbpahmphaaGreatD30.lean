/- The plain law: a frame gone on with, or cancelled; and what comes out of the machine. Condition: the program is checked. -/
import Derived.Test.YtlbomnbpahmphaaGreatD27
import Derived.Test.YtlbomnbpahmphaaGreatD14
namespace Go.Proofs.YtlbomnbpahmphaaGreat
section
variable {P:Pr} {kinds:List Int} {c:Cl} {S S1 S':St} {r r1:Int × Int} {p:Wd}
theorem GoesOn.bad (hm:S.mem.fits) {e:Int} (h:(stateS P S.mem p).2.2=e) (he:e≠0):GoesOn P kinds p S (outR e) S:=by
 have ho:=outR_out e;refine ⟨Leaves.out (Int.le_refl _) hm rfl rfl ⟨by omega,ho.2⟩,fun K d _ _ _ _ _ _=>?_⟩;have h':(stateS P (S.on K).mem p).2.2=e:=h;unfold goOnS;rw [h',if_pos he,errS_out he,retS_out (by omega),goS_some]
theorem GoesOn.done (hm:S.mem.fits) (h:(stateS P S.mem p).2.2=0) (hs:(stateS P S.mem p).1 = -1):GoesOn P kinds p S (2,0) S:=by
 refine ⟨⟨Int.le_refl _,by decide,fun _=>rfl,hm,rfl,rfl⟩,fun K d _ hd _ _ _ _=>?_⟩;have h':(stateS P (S.on K).mem p).2.2=0:=h;have hs':(stateS P (S.on K).mem p).1 = -1:=hs;unfold goOnS;rw [h',if_neg (by decide),if_pos hs',retS_done,if_neg (show ¬ d.role=2 by omega),if_neg (show ¬ d.role=3 by omega)]
theorem GoesOn.aborted (hm:S.mem.fits) (h:(stateS P S.mem p).2.2=0) (hs:(stateS P S.mem p).1 = -2):GoesOn P kinds p S (3,0) S:=by
 refine ⟨⟨Int.le_refl _,by decide,fun _=>rfl,hm,rfl,rfl⟩,fun K d _ hd _ _ _ _=>?_⟩;have h':(stateS P (S.on K).mem p).2.2=0:=h;have hs':(stateS P (S.on K).mem p).1 = -2:=hs;unfold goOnS;rw [h',if_neg (by decide),if_neg (show ¬ (stateS P (S.on K).mem p).1 = -1 by omega),if_pos hs']
 rfl
def Pr.call (P:Pr) (n:Int) (p:Wd):Cl:={ Cl.new p 0 0 0 with fn:=P.fn n }
theorem state_ptr (h:(stateS P S.mem p).2.2=0):p.p=true:=by
 cases hp:p.p with
 | true=>rfl
 | false =>
  exfalso;have ho:offS p 0=p:=by unfold offS;rw [if_neg (by simp [hp])]
  have hw:(S.mem.word p).2≠0:=by
   unfold Mem.word
   have hl:(S.mem.load p).2=11:=by
    unfold Mem.load
    have:S.mem.errp p 1=11:=by
     unfold Mem.errp Mem.errb;rw [if_pos hp]
     rfl
    rw [this,if_pos (by decide)]
   rw [if_pos (by rw [hl];decide)];rw [hl]
   decide
  unfold stateS at h;rw [ho,if_pos hw] at h;exact hw h
theorem call_ok (hP:PrDoes P kinds) (hp:p.ok) (h:(stateS P S.mem p).2.2=0) {n:Int} (h0:0≤n) (h1:n<P.funs.length):CallR P kinds (P.call n p):=by
 have hf:=fn_at hP.good h0 h1;refine ⟨⟨_,hf.1,fun _=>state_ptr h⟩,by simp [Pr.call,Cl.new],?_,fun y hy=>?_,hp,by simp [Pr.call,Cl.new]⟩
 · have:=hf.2;simp only [Pr.call,Cl.new];omega
 · rw [(List.mem_replicate.1 hy).2];exact zero_ok
theorem GoesOn.run (hP:PrDoes P kinds) (h:(stateS P S.mem p).2.2=0) (h1:(stateS P S.mem p).1≠-1) (h2:(stateS P S.mem p).1≠-2) (hr:Runs P kinds (P.call (stateS P S.mem p).2.1.resume p) S r S'):GoesOn P kinds p S r S':=by
 refine ⟨hr.lv,fun K d ha hro hi hrg hl hg=>?_⟩;have hok:=goOnS_ok (S:=S.on K) hP.good hg p d ha hro hi hl;have hco:=stateS_co h;have hcm:¬ (d.role=2∨d.role=3):=by omega
 have heq:goOnS P (S.on K) p d=(none,S.on ((P.call (stateS P S.mem p).2.1.resume p).as d.role d.into d.label :: K)):=by
  unfold goOnS;rw [if_neg (show ¬ (stateS P (S.on K).mem p).2.2≠0 from fun e=>e h),if_neg (show ¬ (stateS P (S.on K).mem p).1 = -1 from h1),if_neg (show ¬ (stateS P (S.on K).mem p).1 = -2 from h2)];obtain ⟨d1,d2,d3,d4,d5,d6,d7⟩:=d;simp only at ha hrg;subst ha hrg
  rfl
 have hgd:=(hok.2 (by rw [heq])).2;rw [heq] at hgd ⊢;refine (hr.go K d.role d.into d.label (fun e=>absurd e hcm) hgd).trans ?_;exact congrArg (goS P) (retS_cong (c1:=P.call (stateS P S.mem p).2.1.resume p) (c:={ d with frame:=p }) rfl r d.role d.into d.label (S'.on K))
theorem free_eq (_P:Pr) (S:St) (p:Wd) (K:List Cl):freedS (S.on K) p=(if (S.mem.free p).2≠0 then some (outR (S.mem.free p).2) else if K=[] then some (2,0) else none,{ S with mem:=(S.mem.free p).1 }.on K):=by
 unfold freedS;by_cases h:(S.mem.free p).2≠0
 · rw [if_pos h,if_pos (show ((S.on K).mem.free p).2≠0 from h)];rw [show ((S.on K).mem.free p).2=(S.mem.free p).2 from rfl,errS_out h]
   rfl
 · rw [if_neg h,if_neg (show ¬ ((S.on K).mem.free p).2≠0 from h)];by_cases hK:K=[]
   · rw [if_pos hK,if_pos (show (S.on K).stack=[] from hK)]
     rfl
   · rw [if_neg hK,if_neg (show ¬ (S.on K).stack=[] from hK)]
     rfl
theorem Stops.bad (hm:S.mem.fits) {e:Int} (h:(stateS P S.mem p).2.2=e) (he:e≠0):Stops P kinds p S (outR e) S:=by
 have ho:=outR_out e;refine ⟨Leaves.out (Int.le_refl _) hm rfl rfl ⟨by omega,ho.2⟩,by omega,fun K _=>?_⟩;have h':(stateS P (S.on K).mem p).2.2=e:=h;unfold stopS;rw [h',if_pos he,errS_out he,if_neg (by omega)]
theorem Stops.freeBad (hm:S.mem.fits) (h:(stateS P S.mem p).2.2=0) (hs:(stateS P S.mem p).1<0) {M':Mem} {e:Int} (hf:S.mem.free p=(M',e)) (he:e≠0):Stops P kinds p S (outR e) { S with mem:=M' }:=by
 have ho:=outR_out e;have hm':=free_fits hm p;rw [hf] at hm';refine ⟨Leaves.out (Int.le_refl _) hm' rfl rfl ⟨by omega,ho.2⟩,by omega,fun K _=>?_⟩;unfold stopS;rw [if_neg (show ¬ (stateS P (S.on K).mem p).2.2≠0 from fun e=>e h),if_pos (show (stateS P (S.on K).mem p).1<0 from hs),free_eq P,hf];simp only;rw [if_pos he,if_neg (by omega)]
theorem Stops.free (hm:S.mem.fits) (h:(stateS P S.mem p).2.2=0) (hs:(stateS P S.mem p).1<0) {M':Mem} (hf:S.mem.free p=(M',0)):Stops P kinds p S (2,0) { S with mem:=M' }:=by
 have hm':=free_fits hm p;rw [hf] at hm';refine ⟨⟨Int.le_refl _,by decide,fun _=>rfl,hm',rfl,rfl⟩,by decide,fun K _=>?_⟩;unfold stopS;rw [if_neg (show ¬ (stateS P (S.on K).mem p).2.2≠0 from fun e=>e h),if_pos (show (stateS P (S.on K).mem p).1<0 from hs),free_eq P,hf];simp only;rw [if_neg (by decide)];by_cases hK:K=[]
 · rw [if_pos hK,if_neg (fun e=>e.2 hK)]
 · rw [if_neg hK,if_pos ⟨trivial,hK⟩]
theorem stops_run (hP:PrDoes P kinds) (h:(stateS P S.mem p).2.2=0) (hs:¬ (stateS P S.mem p).1<0) (hr:Runs P kinds (P.call (stateS P S.mem p).2.1.cancel p) S r1 S1):(2≤r1.1∧r1.1≠3) ∧
 ∀ K:List Cl,GoodL P kinds K→goS P (stopS P (S.on K) p)=goS P (if r1.1=2 then freedS (S1.on K) p else (some r1,S1.on K)):=by
 have hco:=stateS_co h;have hx:=hP.good.pr.can _ hco;have hf:=fn_at hP.good hx.1 hx.2;have h2:=hP.can _ hco;have hcm:Calm P kinds (P.call (stateS P S.mem p).2.1.cancel p).fn:=⟨_,hf.1,by rw [h2];decide⟩;have hk:=hr.calm hcm;refine ⟨hk,fun K hg=>?_⟩;have hok:=stopS_ok (S:=S.on K) hP.good hg p
 have heq:stopS P (S.on K) p=(none,S.on ((P.call (stateS P S.mem p).2.1.cancel p).as 2 0 0 :: K)):=by
  unfold stopS;rw [if_neg (show ¬ (stateS P (S.on K).mem p).2.2≠0 from fun e=>e h),if_neg (show ¬ (stateS P (S.on K).mem p).1<0 from hs)]
  rfl
 have hgd:=(hok.2 (by rw [heq])).2;rw [heq] at hgd ⊢;refine (hr.go K 2 0 0 (fun _=>hcm) hgd).trans ?_;by_cases h3:r1.1=2
 · rw [if_pos h3];unfold retS;rw [if_neg (by omega),if_pos h3]
   rfl
 · rw [if_neg h3,retS_out (by omega)]
theorem Stops.runOut (hP:PrDoes P kinds) (h:(stateS P S.mem p).2.2=0) (hs:¬ (stateS P S.mem p).1<0) (hr:Runs P kinds (P.call (stateS P S.mem p).2.1.cancel p) S r1 S1) (h2:r1.1≠2):Stops P kinds p S r1 S1:=by
 obtain ⟨hk,hgo⟩:=stops_run hP h hs hr;exact ⟨hr.lv,hk,fun K hg=>by rw [hgo K hg,if_neg h2,if_neg (fun e=>h2 e.1)]⟩
theorem Stops.runBad (hP:PrDoes P kinds) (h:(stateS P S.mem p).2.2=0) (hs:¬ (stateS P S.mem p).1<0) (hr:Runs P kinds (P.call (stateS P S.mem p).2.1.cancel p) S r1 S1) (h2:r1.1=2) {M':Mem} {e:Int} (hf:S1.mem.free p=(M',e)) (he:e≠0):Stops P kinds p S (outR e) { S1 with mem:=M' }:=by
 obtain ⟨hk,hgo⟩:=stops_run hP h hs hr;have ho:=outR_out e;have hm':=free_fits hr.lv.mem p;rw [hf] at hm';refine ⟨Leaves.out hr.lv.fuel hm' hr.lv.ev hr.lv.task ⟨by omega,ho.2⟩,by omega,fun K hg=>?_⟩;rw [hgo K hg,if_pos h2,free_eq P,hf];simp only;rw [if_pos he,if_neg (by omega)]
theorem Stops.run (hP:PrDoes P kinds) (h:(stateS P S.mem p).2.2=0) (hs:¬ (stateS P S.mem p).1<0) (hr:Runs P kinds (P.call (stateS P S.mem p).2.1.cancel p) S r1 S1) (h2:r1.1=2) {M':Mem} (hf:S1.mem.free p=(M',0)):Stops P kinds p S (2,0) { S1 with mem:=M' }:=by
 obtain ⟨hk,hgo⟩:=stops_run hP h hs hr;have hm':=free_fits hr.lv.mem p;rw [hf] at hm';refine ⟨⟨hr.lv.fuel,by decide,fun _=>rfl,hm',hr.lv.ev,hr.lv.task⟩,by decide,fun K hg=>?_⟩;rw [hgo K hg,if_pos h2,free_eq P,hf];simp only;rw [if_neg (by decide)];by_cases hK:K=[]
 · rw [if_pos hK,if_neg (fun e=>e.2 hK)]
 · rw [if_neg hK,if_pos ⟨trivial,hK⟩]
theorem ret_empty (h:Leaves S r S') {d:Cl} (hd:d.role=0):goS P (retS r d (S'.on []))=(r,S'.on []):=by
 have hk:=h.kind;obtain ⟨k,n⟩:=r;simp only at hk;by_cases h1:k=0∨k=1
 · unfold retS;rw [if_pos h1];refine (congrArg (goS P) (susp_pop (show d.role≠1 by omega))).trans ?_;exact goS_some (k,n) _
 · by_cases h4:3<k
   · rw [retS_out (by exact h4),goS_some]
     rfl
   · have hz:=h.zero (by simp only;omega);simp only at hz;subst hz;have h23:k=2∨k=3:=by omega
     rcases h23 with rfl|rfl
     · rw [retS_done,if_neg (by omega),if_neg (by omega)];exact goS_some (2,0) _
     · exact goS_some (3,0) _
def pollR (S':St) (p:Wd) (r:Int × Int):Int × Int:=if r.1=2 then (if (S'.mem.word (offS p 1)).2≠0 then outR (S'.mem.word (offS p 1)).2 else (2,(S'.mem.word (offS p 1)).1)) else r
theorem poll_is (hP:PrDoes P kinds) {task fuel:Int} (h:GoesOn P kinds p (S.begin task fuel) r S'):(pollS P S p task fuel).1=pollR S' p r∧(pollS P S p task fuel).2.on []=S'.on []:=by
 have hg:=h.go [] (Cl.new Wd.zero 0 0 0) rfl (Or.inl rfl) (fun e=>by simp [Cl.new] at e) rfl (fun e l he=>by cases he) trivial;rw [ret_empty h.lv rfl,show (S.begin task fuel).on []=S.begin task fuel from rfl] at hg;have hf:=(goOnS_ok (S:=S.begin task fuel) hP.good (by exact trivial) p (Cl.new Wd.zero 0 0 0) rfl (Or.inl rfl) (fun e=>by simp [Cl.new] at e) (fun e l he=>by simp [St.begin] at he)).1.fuel;unfold goS at hg;rw [hf,show (S.begin task fuel).fuel=fuel from rfl] at hg;unfold pollS pollR;simp only;generalize runS P fuel.toNat (goOnS P (S.begin task fuel) p (Cl.new Wd.zero 0 0 0)).1 (goOnS P (S.begin task fuel) p (Cl.new Wd.zero 0 0 0)).2=rr at *;obtain ⟨r2,S2⟩:=rr;simp only [Prod.mk.injEq] at hg;obtain ⟨rfl,hS⟩:=hg;have hm:S2.mem=S'.mem:=show (S2.on []).mem=(S'.on []).mem by rw [hS]
 by_cases h2:r2.1=2
 · rw [if_pos h2,if_pos h2,hm];by_cases he:(S'.mem.word (offS p 1)).2≠0
   · rw [if_pos he,if_pos he,errS_out he];exact ⟨rfl,hS⟩
   · rw [if_neg he,if_neg he];exact ⟨rfl,hS⟩
 · rw [if_neg h2,if_neg h2];exact ⟨rfl,hS⟩
theorem cancel_is (hP:PrDoes P kinds) {task fuel:Int} (h:Stops P kinds p (S.begin task fuel) r S'):(cancelS P S p task fuel).1=r∧(cancelS P S p task fuel).2.on []=S'.on []:=by
 have hg:=h.go [] trivial;rw [if_neg (fun e=>e.2 rfl),goS_some,show (S.begin task fuel).on []=S.begin task fuel from rfl] at hg;have hf:=(stopS_ok (S:=S.begin task fuel) hP.good (by exact trivial) p).1.fuel;unfold goS at hg;rw [hf,show (S.begin task fuel).fuel=fuel from rfl] at hg;unfold cancelS;simp only [Prod.mk.injEq] at hg;exact hg
end
end Go.Proofs.YtlbomnbpahmphaaGreat
