/- What the checker of code computes, as plain Lean: no program in sight. No condition. -/
import Derived.Test.YtlbomnbpahmphaaGreatD11
namespace Go.Proofs.YtlbomnbpahmphaaGreat
structure Shp where
 a:Int
 b:Int
 c:Int
 l:Int
 ok:Bool
def shapeS (op:Int):Shp :=
 if op=0 then ⟨2,3,0,0,true⟩ else if op=1 then ⟨2,4,0,0,true⟩ else if op=2 then ⟨2,1,4,0,true⟩ else if op=3∨op=21 then ⟨2,1,0,0,true⟩
 else if op=24 then ⟨2,1,0,1,true⟩ else if op=4 then ⟨1,1,0,0,true⟩ else if op=5∨op=6 then ⟨1,1,4,0,true⟩ else if op=7 then ⟨1,0,4,0,true⟩
 else if op=16 then ⟨2,0,4,0,true⟩ else if op=8∨op=9∨op=10 then ⟨2,1,1,1,true⟩ else if op=11∨op=12 then ⟨2,1,1,0,true⟩ else if op=13 then ⟨0,0,0,1,true⟩
 else if op=14∨op=23 then ⟨1,0,0,1,true⟩ else if op=15 then ⟨1,0,0,-1,true⟩ else if op=17∨op=18∨op=20∨op=25 then ⟨1,0,0,0,true⟩ else if op=19 then ⟨1,5,0,0,true⟩
 else if op=22 then ⟨2,7,0,0,true⟩ else if op=26 then ⟨1,6,0,0,true⟩ else if op=27∨op=28∨op=29 then ⟨0,0,0,0,true⟩ else ⟨0,0,0,0,false⟩
def withinS (n most:Int):Bool:=decide (0≤n) && decide (n<most)
def readsS (x:In):List Int:=(if (shapeS x.op).a == 1 then [x.a] else []) ++ ((if (shapeS x.op).b == 1 then [x.b] else []) ++ (if (shapeS x.op).c == 1 then [x.c] else []))
def writesS (x:In):Int × Bool:=if (shapeS x.op).a == 2 then (x.a,true) else (0,false)
def fallsS (op:Int):Bool:=if op=13∨op=15∨op=27∨op=28∨op=29 then false else (shapeS op).ok
def markS (l:List Int) (at_ kind:Int):List Int:=if withinS at_ l.length then l.set at_.toNat kind else l
def kindsS (P:Pr):List Int:=P.cos.foldl (fun l c=>markS l c.resume 1) (P.cos.foldl (fun l c=>markS l c.cancel 2) (List.replicate P.funs.length 0))
def fieldS (kinds:List Int) (ncos:Nat) (f n:Int):Bool :=
 if f=1∨f=2 then withinS n 16 else if f=3 then true else if f=4 then withinS n 1048577 else if f=5 then decide (0≤n)
 else if f=6 then (withinS n kinds.length && kinds.getD n.toNat 0 == 0) else if f=7 then withinS n ncos else n == 0
def allowedS (kind op:Int):Bool :=
 if op=1 then kind != 0 else if op=20∨op=21∨op=23∨op=24∨op=27∨op=28 then kind == 1 else if op=29 then kind != 1 else true
def oneS (kinds:List Int) (ncos:Nat) (n:Nat) (kind:Int) (x:In):Bool :=
 if (!(shapeS x.op).ok || !fieldS kinds ncos (shapeS x.op).a x.a || !fieldS kinds ncos (shapeS x.op).b x.b || !fieldS kinds ncos (shapeS x.op).c x.c || !allowedS kind x.op) then false
 else if ((decide (0≤(shapeS x.op).l) && ((x.l.length:Int) != (shapeS x.op).l)) || (decide ((shapeS x.op).l<0) && ((x.l.length:Int) == 0))) then false
 else x.l.all fun j=>withinS j n
def andU (a b:Int):Int:=bits .and .u32 a b
def orU (a b:Int):Int:=bits .or .u32 a b
def shlU (r:Int):Int:=2 ^ r.toNat % 4294967296
def setS:List (Int × Int)→Int→Int→List (Int × Int)
 | [],k,v=>[(k,v)]
 | x :: l,k,v=>if x.1 == k then (k,v) :: l else x :: setS l k v
def meetS:List (Int × Int)→List Int→Int→List Int→List (Int × Int) × List Int
 | W,st,_,[]=>(W,st)
 | W,st,now,n :: l =>
  match evOf W n with
  | some was=>if andU was now == was then meetS W st now l else meetS (setS W n (andU was now)) (n :: st) now l
  | none=>meetS (setS W n now) (n :: st) now l
def nowS (x:In) (now:Int):Int:=if (writesS x).2 then orU now (shlU (writesS x).1) else now
def nextS (x:In) (at_:Int):List Int:=if fallsS x.op then x.l ++ [at_+1] else x.l
def waysF (f:List In):Nat→List (Int × Int)→List Int→Bool
 | _,_,[]=>true
 | 0,_,_ :: _=>true
 | k+1,W,at_ :: st =>
  if (readsS (f.getD at_.toNat In.zero)).any (fun r=>andU ((evOf W at_).getD 0) (shlU r) == 0) then false
  else waysF f k (meetS W st (nowS (f.getD at_.toNat In.zero) ((evOf W at_).getD 0)) (nextS (f.getD at_.toNat In.zero) at_)).1
   (meetS W st (nowS (f.getD at_.toNat In.zero) ((evOf W at_).getD 0)) (nextS (f.getD at_.toNat In.zero) at_)).2
def waysN (n:Nat):Nat:=2 * (n * 33)+1
def waysS (f:List In) (kind:Int):Bool:=waysF f (waysN f.length) [(0,if kind=0 then 1 else 0)] [0]
def rightS (kinds:List Int) (ncos:Nat) (kind:Int) (f:List In):Bool :=
 if f.length<1∨65536<f.length∨fallsS (f.getD (f.length - 1) In.zero).op then false else if f.all (oneS kinds ncos f.length kind) then waysS f kind else false
def coroutineS (kinds:List Int) (c:Cr):Bool :=
 if (!withinS c.resume kinds.length || !withinS c.cancel kinds.length || kinds.getD c.cancel.toNat 0 != 2) then false
 else decide (3≤c.words) && decide (c.words≤1048576) && withinS c.args (c.words - 3+1)
def rightsS (kinds:List Int) (ncos:Nat):Nat→List (List In)→Bool
 | _,[]=>true
 | i,f :: l=>rightS kinds ncos (kinds.getD i 0) f && rightsS kinds ncos (i+1) l
def validS (P:Pr):Bool :=
 if 65536<P.funs.length∨65536<P.cos.length then false else P.cos.all (coroutineS (kindsS P)) && rightsS (kindsS P) P.cos.length 0 P.funs
theorem wrap32_nat (n:Int):0≤IntKind.u32.wrap n∧IntKind.u32.wrap n<4294967296:=by
 have:=Int.emod_nonneg n (show (4294967296:Int)≠0 by decide);have:=Int.emod_lt_of_pos n (show (0:Int)<4294967296 by decide);simp [IntKind.wrap,IntKind.signed,IntKind.bits];omega
def In32 (a:Int):Prop:=0≤a∧a<4294967296
theorem andU_in (a b:Int):In32 (andU a b):=wrap32_nat _
theorem orU_in (a b:Int):In32 (orU a b):=wrap32_nat _
theorem shlU_in (r:Int):In32 (shlU r):=⟨Int.emod_nonneg _ (by decide),Int.emod_lt_of_pos _ (by decide)⟩
theorem wrap32_id {n:Int} (h0:0≤n) (h1:n<4294967296):IntKind.u32.wrap n=n:=by
 simp [IntKind.wrap,IntKind.signed,IntKind.bits];omega
def sumS (g:Nat→Nat):Nat→Nat
 | 0=>0
 | n+1=>sumS g n+g n
theorem sumS_le {g g':Nat→Nat} (h:∀ i,g' i≤g i) (n:Nat):sumS g' n≤sumS g n:=by
 induction n with
 | zero=>exact Nat.le_refl _
 | succ n ih=>have:=h n;simp only [sumS];omega
theorem sumS_lt {g g':Nat→Nat} (h:∀ i,g' i≤g i) {j n:Nat} (hj:j<n) (hlt:g' j<g j):sumS g' n<sumS g n:=by
 induction n with
 | zero=>omega
 | succ n ih =>
  simp only [sumS];by_cases e:j=n
  · subst e;have:=sumS_le h j;omega
  · have:=ih (by omega);have:=h n;omega
def bit1 (a i:Nat):Nat:=if a.testBit i then 1 else 0
def bitsOf (a:Nat):Nat:=sumS (bit1 a) 32
theorem bitsOf_le (a:Nat):bitsOf a≤32:=by
 have:∀ n,sumS (bit1 a) n≤n:=by
  intro n
  induction n with
  | zero=>exact Nat.le_refl _
  | succ n ih =>
   simp only [sumS];have:bit1 a n≤1:=by unfold bit1;split <;> omega
   omega
 exact this 32
theorem bits_lt {a:Int} (ha:In32 a) {b:Int} (hne:andU a b≠a):bitsOf (andU a b).toNat<bitsOf a.toNat:=by
 have h1:(BitVec.ofInt 32 a).toNat=a.toNat:=by
  rw [BitVec.toNat_ofInt];have:=ha.1;have:=ha.2;omega
 obtain ⟨m,hm⟩:∃ m:Nat,m=((BitVec.ofInt 32 a) &&& (BitVec.ofInt 32 b)).toNat:=⟨_,rfl⟩;have hm2:m=a.toNat &&& (BitVec.ofInt 32 b).toNat:=by rw [hm,BitVec.toNat_and,h1]
 have h2:m≤a.toNat:=by rw [hm2];exact Nat.and_le_left
 have h3:andU a b=(m:Int):=by
  have h4:andU a b=IntKind.u32.wrap (m:Int):=by rw [hm];rfl
  have:=ha.1;have:=ha.2;rw [h4,wrap32_id (by omega) (by omega)]
 rw [h3] at hne ⊢;rw [Int.toNat_natCast];have hne2:m≠a.toNat:=fun e=>hne (by have:=ha.1;omega)
 have hle:∀ i,bit1 m i≤bit1 a.toNat i:=by
  intro i;unfold bit1;rw [hm2,Nat.testBit_and];cases a.toNat.testBit i <;> simp
  split <;> omega
 by_cases hex:∃ i,i<32∧bit1 m i<bit1 a.toNat i
 · obtain ⟨i,hi,hlt⟩:=hex;exact sumS_lt hle hi hlt
 · exfalso;apply hne2;apply Nat.eq_of_testBit_eq;intro i;by_cases hi:i<32
   · have h5:¬ bit1 m i<bit1 a.toNat i:=fun h=>hex ⟨i,hi,h⟩;have h6:=hle i;unfold bit1 at h5 h6;cases hx:m.testBit i <;> cases hy:a.toNat.testBit i <;> simp [hx,hy] at h5 h6 ⊢
   · have hb:a.toNat<2 ^ i:=Nat.lt_of_lt_of_le (show a.toNat<2 ^ 32 by have:=ha.1;have:=ha.2;omega) (Nat.pow_le_pow_right (by omega) (by omega));rw [Nat.testBit_lt_two_pow hb,Nat.testBit_lt_two_pow (Nat.lt_of_le_of_lt h2 hb)]
def valS (W:List (Int × Int)) (n:Nat):Nat:=match evOf W (n:Int) with|some v=>bitsOf v.toNat|none=>33
theorem evOf_cons (x:Int × Int) (l:List (Int × Int)) (k:Int):evOf (x :: l) k=if x.1 == k then some x.2 else evOf l k:=by
 unfold evOf;rw [List.find?_cons];cases (x.1 == k) <;> rfl
theorem evOf_set (W:List (Int × Int)) (k v j:Int):evOf (setS W k v) j=if j=k then some v else evOf W j:=by
 induction W with
 | nil =>
  simp only [setS,evOf_cons];by_cases h:k=j
  · subst h;simp
  · simp [h,Ne.symm h]
 | cons x l ih =>
  simp only [setS];by_cases h:x.1=k
  · subst h;simp only [beq_self_eq_true,if_true,evOf_cons];by_cases h2:x.1=j
    · subst h2;simp
    · simp [h2,Ne.symm h2]
  · have h':(x.1 == k)=false:=beq_false_of_ne h;simp only [h',Bool.false_eq_true,if_false,evOf_cons];by_cases h2:x.1=j
    · subst h2;simp [h]
    · simp only [beq_false_of_ne h2,Bool.false_eq_true,if_false];exact ih
def potS (n:Nat) (W:List (Int × Int)) (st:List Int):Nat:=2 * sumS (valS W) n+st.length
structure MarksOk (n:Nat) (W:List (Int × Int)) (st:List Int):Prop where
 val:∀ k v,evOf W k=some v→In32 v
 st:∀ a∈st,0≤a∧a<(n:Int)
theorem set_pot {n:Nat} {W:List (Int × Int)} {st:List Int} {k v:Int} (h:MarksOk n W st) (hk:0≤k∧k<(n:Int)) (hv:In32 v) (hlt:bitsOf v.toNat<valS W k.toNat):potS n (setS W k v) (k :: st)+1≤potS n W st∧MarksOk n (setS W k v) (k :: st):=by
 obtain ⟨j,rfl⟩:=Int.eq_ofNat_of_zero_le hk.1;have hj:j<n:=by omega
 have hval:∀ i,valS (setS W (j:Int) v) i=if i=j then bitsOf v.toNat else valS W i:=by
  intro i;unfold valS;rw [evOf_set];by_cases e:i=j
  · subst e;simp
  · have:¬ ((i:Int)=(j:Int)):=by omega
    simp [e,this]
 rw [Int.toNat_natCast] at hlt
 have h1:sumS (valS (setS W (j:Int) v)) n<sumS (valS W) n:=by
  refine sumS_lt (fun i=>?_) hj ?_
  · rw [hval];split
    · rename_i e;subst e;omega
    · exact Nat.le_refl _
  · rw [hval,if_pos rfl];exact hlt
 refine ⟨by unfold potS;simp only [List.length_cons];omega,?_,?_⟩
 · intro k2 v2 e;rw [evOf_set] at e;split at e
   · cases e;exact hv
   · exact h.val k2 v2 e
 · intro a ha;rcases List.mem_cons.1 ha with rfl|ha
   · exact hk
   · exact h.st a ha
theorem meet_pot {n:Nat} {now:Int} (hnow:In32 now):∀ (l:List Int) (W:List (Int × Int)) (st:List Int),(∀ a∈l,0≤a∧a<(n:Int))→MarksOk n W st→potS n (meetS W st now l).1 (meetS W st now l).2≤potS n W st∧MarksOk n (meetS W st now l).1 (meetS W st now l).2
 | [],W,st,_,h=>⟨Nat.le_refl _,h⟩
 | a :: l,W,st,hl,h=>by
  have ha:=hl a List.mem_cons_self;have hl':∀ b∈l,0≤b∧b<(n:Int):=fun b hb=>hl b (List.mem_cons_of_mem _ hb);have hc:((a.toNat:Nat):Int)=a:=by omega
  unfold meetS;cases he:evOf W a with
  | some was =>
   simp only;by_cases hb:andU was now=was
   · rw [if_pos (by simp [hb])];exact meet_pot hnow l W st hl' h
   · rw [if_neg (by simp [hb])];have hw:=h.val a was he;have hin:=andU_in was now
     have hlt:bitsOf (andU was now).toNat<valS W a.toNat:=by
      unfold valS;rw [hc,he];exact bits_lt hw hb
     obtain ⟨p1,p2⟩:=set_pot h ha hin hlt;obtain ⟨q1,q2⟩:=meet_pot hnow l _ _ hl' p2;exact ⟨by omega,q2⟩
  | none =>
   simp only
   have hlt:bitsOf now.toNat<valS W a.toNat:=by
    unfold valS;rw [hc,he];have:=bitsOf_le now.toNat;simp only;omega
   obtain ⟨p1,p2⟩:=set_pot h ha hnow hlt;obtain ⟨q1,q2⟩:=meet_pot hnow l _ _ hl' p2;exact ⟨by omega,q2⟩
theorem sumS_bound (W:List (Int × Int)) (n:Nat):sumS (valS W) n≤n * 33:=by
 induction n with
 | zero=>simp [sumS]
 | succ n ih =>
  simp only [sumS]
  have:valS W n≤33:=by
   unfold valS;cases he:evOf W (n:Int) with
   | some v=>have:=bitsOf_le v.toNat;simp only;omega
   | none=>exact Nat.le_refl _
  omega
theorem waysF_cons (f:List In) (k:Nat) (W:List (Int × Int)) (at_:Int) (st:List Int):waysF f (k+1) W (at_ :: st) =
 if (readsS (f.getD at_.toNat In.zero)).any (fun r=>andU ((evOf W at_).getD 0) (shlU r) == 0) then false
 else waysF f k (meetS W st (nowS (f.getD at_.toNat In.zero) ((evOf W at_).getD 0)) (nextS (f.getD at_.toNat In.zero) at_)).1
  (meetS W st (nowS (f.getD at_.toNat In.zero) ((evOf W at_).getD 0)) (nextS (f.getD at_.toNat In.zero) at_)).2:=rfl
end Go.Proofs.YtlbomnbpahmphaaGreat
