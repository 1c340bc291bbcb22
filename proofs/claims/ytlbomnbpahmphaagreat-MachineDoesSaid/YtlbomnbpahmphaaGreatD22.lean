/- The plain law: what the checker's ways answer: is each register written on all ways ahead of where it is read. Condition: labels within the function. -/
import Derived.Test.YtlbomnbpahmphaaGreatD18
namespace Go.Proofs.YtlbomnbpahmphaaGreat
inductive Rch (f:List In) (kind:Int):Int→(Int→Prop)→Prop
 | zero:Rch f kind 0 (fun r=>r=0∧kind=0)
 | step {k:Int} {S:Int→Prop} {m:Int}:Rch f kind k S→m∈nextS (f.getD k.toNat In.zero) k→Rch f kind m (fun r=>S r∨((writesS (f.getD k.toNat In.zero)).2=true∧r=(writesS (f.getD k.toNat In.zero)).1))
def Safe (f:List In) (kind:Int):Prop:=∀ k S,Rch f kind k S→∀ r∈readsS (f.getD k.toNat In.zero),S r
def hasB (a:Int) (r:Int):Bool:=a.toNat.testBit r.toNat
theorem ofInt_nat {a:Int} (ha:In32 a):(BitVec.ofInt 32 a).toNat=a.toNat:=by
 rw [BitVec.toNat_ofInt];have:=ha.1;have:=ha.2;omega
theorem andU_nat {a b:Int} (ha:In32 a) (hb:In32 b):(andU a b).toNat=a.toNat &&& b.toNat:=by
 have h3:andU a b=IntKind.u32.wrap (((BitVec.ofInt 32 a) &&& (BitVec.ofInt 32 b)).toNat:Int):=rfl;have h4:((BitVec.ofInt 32 a) &&& (BitVec.ofInt 32 b)).toNat<4294967296:=((BitVec.ofInt 32 a) &&& (BitVec.ofInt 32 b)).isLt;rw [h3,wrap32_id (by omega) (by omega),Int.toNat_natCast,BitVec.toNat_and,ofInt_nat ha,ofInt_nat hb]
theorem orU_nat {a b:Int} (ha:In32 a) (hb:In32 b):(orU a b).toNat=a.toNat ||| b.toNat:=by
 have h3:orU a b=IntKind.u32.wrap (((BitVec.ofInt 32 a) ||| (BitVec.ofInt 32 b)).toNat:Int):=rfl;have h4:((BitVec.ofInt 32 a) ||| (BitVec.ofInt 32 b)).toNat<4294967296:=((BitVec.ofInt 32 a) ||| (BitVec.ofInt 32 b)).isLt;rw [h3,wrap32_id (by omega) (by omega),Int.toNat_natCast,BitVec.toNat_or,ofInt_nat ha,ofInt_nat hb]
theorem shlU_nat {r:Int} (h0:0≤r) (h1:r<16):(shlU r).toNat=2 ^ r.toNat:=by
 unfold shlU;have h2:(2:Nat) ^ r.toNat<2 ^ 32:=Nat.pow_lt_pow_right (by omega) (by omega);have h3:(2:Int) ^ r.toNat=((2 ^ r.toNat:Nat):Int):=by simp
 rw [h3];generalize 2 ^ r.toNat=m at *;rw [Int.emod_eq_of_lt (by omega) (by omega),Int.toNat_natCast]
theorem hasB_and {a b:Int} (ha:In32 a) (hb:In32 b) (r:Int):hasB (andU a b) r=(hasB a r && hasB b r):=by
 unfold hasB;rw [andU_nat ha hb,Nat.testBit_and]
theorem hasB_or {a b:Int} (ha:In32 a) (hb:In32 b) (r:Int):hasB (orU a b) r=(hasB a r || hasB b r):=by
 unfold hasB;rw [orU_nat ha hb,Nat.testBit_or]
theorem hasB_shl {r s:Int} (h0:0≤r) (h1:r<16) (hs:0≤s):hasB (shlU r) s=decide (s=r):=by
 unfold hasB;rw [shlU_nat h0 h1,Nat.testBit_two_pow,decide_eq_decide];omega
theorem and_shl {a r:Int} (ha:In32 a) (h0:0≤r) (h1:r<16):(andU a (shlU r) == 0)=!hasB a r:=by
 have h:(andU a (shlU r)).toNat=a.toNat &&& 2 ^ r.toNat:=by rw [andU_nat ha (shlU_in r),shlU_nat h0 h1]
 have hn:=(andU_in a (shlU r)).1;unfold hasB;cases hb:a.toNat.testBit r.toNat with
 | true =>
  have h2:(a.toNat &&& 2 ^ r.toNat).testBit r.toNat=true:=by rw [Nat.testBit_and,hb,Nat.testBit_two_pow_self];rfl
  have h3:andU a (shlU r)≠0:=fun e=>by
   rw [← h,e] at h2;simp at h2
  simpa using h3
 | false =>
  have h2:a.toNat &&& 2 ^ r.toNat=0:=by
   refine Nat.eq_of_testBit_eq fun i=>?_;rw [Nat.testBit_and,Nat.testBit_two_pow,Nat.zero_testBit];by_cases hi:r.toNat=i
   · subst hi;rw [hb];rfl
   · rw [decide_eq_false hi,Bool.and_false]
  have h3:andU a (shlU r)=0:=by rw [h2] at h;omega
  simp [h3]
def SubB (a b:Int):Prop:=∀ r,0≤r→hasB a r=true→hasB b r=true
theorem SubB.refl (a:Int):SubB a a:=fun _ _ h=>h
theorem SubB.trans {a b c:Int} (h:SubB a b) (k:SubB b c):SubB a c:=fun r h0 hr=>k r h0 (h r h0 hr)
section
variable {n:Nat} {now:Int}
theorem meet_all (hnow:In32 now):∀ (l:List Int) (W:List (Int × Int)) (st:List Int),(∀ a∈l,0≤a∧a<(n:Int))→MarksOk n W st →
 (∀ k v,evOf W k=some v→∃ v',evOf (meetS W st now l).1 k=some v'∧SubB v' v∧(v'=v∨k∈(meetS W st now l).2))∧(∀ a∈st,a∈(meetS W st now l).2) ∧
 (∀ m∈l,∃ v',evOf (meetS W st now l).1 m=some v'∧SubB v' now)∧(∀ k v',evOf (meetS W st now l).1 k=some v'→evOf W k=some v'∨k∈(meetS W st now l).2)
 | [],W,st,_,_=>⟨fun k v h=>⟨v,h,SubB.refl v,Or.inl rfl⟩,fun _ h=>h,(fun m hm=>by cases hm),fun k v h=>Or.inl h⟩
 | a :: l,W,st,hl,h=>by
  have ha:=hl a List.mem_cons_self;have hl':∀ b∈l,0≤b∧b<(n:Int):=fun b hb=>hl b (List.mem_cons_of_mem _ hb);have hc:((a.toNat:Nat):Int)=a:=by omega
  unfold meetS;cases he:evOf W a with
  | some was =>
   simp only;have hw:=h.val a was he;have hin:=andU_in was now;by_cases hb:andU was now=was
   · rw [if_pos (by simp [hb])];obtain ⟨p1,p2,p3,p4⟩:=meet_all hnow l W st hl' h;refine ⟨p1,p2,fun m hm=>?_,p4⟩;rcases List.mem_cons.1 hm with rfl|hm
     · obtain ⟨v',q1,q2,_⟩:=p1 m was he;refine ⟨v',q1,q2.trans fun r _ hr=>?_⟩;rw [← hb,hasB_and hw hnow,Bool.and_eq_true] at hr;exact hr.2
     · exact p3 m hm
   · rw [if_neg (by simp [hb])]
     have hlt:bitsOf (andU was now).toNat<valS W a.toNat:=by
      unfold valS;rw [hc,he];exact bits_lt hw hb
     obtain ⟨_,h2⟩:=set_pot h ha hin hlt;obtain ⟨p1,p2,p3,p4⟩:=meet_all hnow l (setS W a (andU was now)) (a :: st) hl' h2;have sub1:SubB (andU was now) was:=fun r _ hr=>by rw [hasB_and hw hnow,Bool.and_eq_true] at hr;exact hr.1
     have sub2:SubB (andU was now) now:=fun r _ hr=>by rw [hasB_and hw hnow,Bool.and_eq_true] at hr;exact hr.2
     have hin2:=p2 a List.mem_cons_self;refine ⟨fun k v hk=>?_,fun b hb=>p2 b (List.mem_cons_of_mem _ hb),fun m hm=>?_,fun k v' hk=>?_⟩
     · by_cases hka:k=a
       · subst hka;rw [he] at hk;cases hk
         obtain ⟨v',q1,q2,_⟩:=p1 k (andU was now) (by rw [evOf_set,if_pos rfl]);exact ⟨v',q1,q2.trans sub1,Or.inr hin2⟩
       · exact p1 k v (by rw [evOf_set,if_neg hka];exact hk)
     · rcases List.mem_cons.1 hm with rfl|hm
       · obtain ⟨v',q1,q2,_⟩:=p1 m (andU was now) (by rw [evOf_set,if_pos rfl]);exact ⟨v',q1,q2.trans sub2⟩
       · exact p3 m hm
     · rcases p4 k v' hk with e|e
       · rw [evOf_set] at e;split at e
         · rename_i hka;subst hka;exact Or.inr hin2
         · exact Or.inl e
       · exact Or.inr e
  | none =>
   simp only
   have hlt:bitsOf now.toNat<valS W a.toNat:=by
    unfold valS;rw [hc,he];have:=bitsOf_le now.toNat;simp only;omega
   obtain ⟨_,h2⟩:=set_pot h ha hnow hlt;obtain ⟨p1,p2,p3,p4⟩:=meet_all hnow l (setS W a now) (a :: st) hl' h2;have hin2:=p2 a List.mem_cons_self;refine ⟨fun k v hk=>?_,fun b hb=>p2 b (List.mem_cons_of_mem _ hb),fun m hm=>?_,fun k v' hk=>?_⟩
   · by_cases hka:k=a
     · subst hka;rw [he] at hk;cases hk
     · exact p1 k v (by rw [evOf_set,if_neg hka];exact hk)
   · rcases List.mem_cons.1 hm with rfl|hm
     · obtain ⟨v',q1,q2,_⟩:=p1 m now (by rw [evOf_set,if_pos rfl]);exact ⟨v',q1,q2⟩
     · exact p3 m hm
   · rcases p4 k v' hk with e|e
     · rw [evOf_set] at e;split at e
       · rename_i hka;subst hka;exact Or.inr hin2
       · exact Or.inl e
     · exact Or.inr e
def Pr1 (f:List In) (kind k v:Int):Prop:=(∃ S,Rch f kind k S)∧∀ r,0≤r→hasB v r=false→∃ S,Rch f kind k S∧¬ S r
theorem meet_one {f:List In} {kind:Int} (hnow:In32 now):∀ (l:List Int) (W:List (Int × Int)) (st:List Int),(∀ a∈l,0≤a∧a<(n:Int))→MarksOk n W st→(∀ m∈l,Pr1 f kind m now)→(∀ k v,evOf W k=some v→Pr1 f kind k v) →
 ∀ k v,evOf (meetS W st now l).1 k=some v→Pr1 f kind k v
 | [],W,st,_,_,_,h=>h
 | a :: l,W,st,hl,h,hp,hw1=>by
  have ha:=hl a List.mem_cons_self;have hl':∀ b∈l,0≤b∧b<(n:Int):=fun b hb=>hl b (List.mem_cons_of_mem _ hb);have hp':∀ m∈l,Pr1 f kind m now:=fun b hb=>hp b (List.mem_cons_of_mem _ hb);have hc:((a.toNat:Nat):Int)=a:=by omega
  unfold meetS;cases he:evOf W a with
  | some was =>
   simp only;have hw:=h.val a was he;have hin:=andU_in was now;by_cases hb:andU was now=was
   · rw [if_pos (by simp [hb])];exact meet_one hnow l W st hl' h hp' hw1
   · rw [if_neg (by simp [hb])]
     have hlt:bitsOf (andU was now).toNat<valS W a.toNat:=by
      unfold valS;rw [hc,he];exact bits_lt hw hb
     obtain ⟨_,h2⟩:=set_pot h ha hin hlt;refine meet_one hnow l _ _ hl' h2 hp' fun k v hk=>?_;rw [evOf_set] at hk;split at hk
     · rename_i hka;cases hk
       subst hka;refine ⟨(hw1 k was he).1,fun r h0 hr=>?_⟩;rw [hasB_and hw hnow,Bool.and_eq_false_iff] at hr;rcases hr with hr|hr
       · exact (hw1 k was he).2 r h0 hr
       · exact (hp k List.mem_cons_self).2 r h0 hr
     · exact hw1 k v hk
  | none =>
   simp only
   have hlt:bitsOf now.toNat<valS W a.toNat:=by
    unfold valS;rw [hc,he];have:=bitsOf_le now.toNat;simp only;omega
   obtain ⟨_,h2⟩:=set_pot h ha hnow hlt;refine meet_one hnow l _ _ hl' h2 hp' fun k v hk=>?_;rw [evOf_set] at hk;split at hk
   · rename_i hka;cases hk
     subst hka;exact hp k List.mem_cons_self
   · exact hw1 k v hk
theorem meet_st:∀ (l:List Int) (W:List (Int × Int)) (st:List Int),∀ b∈(meetS W st now l).2,b∈st∨b∈l
 | [],_,_,_,h=>Or.inl h
 | a :: l,W,st,b,h=>by
  unfold meetS at h;split at h
  · split at h
    · exact (meet_st l _ _ b h).imp id fun h=>List.mem_cons_of_mem _ h
    · rcases meet_st l _ _ b h with h|h
      · rcases List.mem_cons.1 h with rfl|h
        · exact Or.inr List.mem_cons_self
        · exact Or.inl h
      · exact Or.inr (List.mem_cons_of_mem _ h)
  · rcases meet_st l _ _ b h with h|h
    · rcases List.mem_cons.1 h with rfl|h
      · exact Or.inr List.mem_cons_self
      · exact Or.inl h
    · exact Or.inr (List.mem_cons_of_mem _ h)
theorem nowS_in {x:In} {v:Int} (hv:In32 v):In32 (nowS x v):=by
 unfold nowS;split
 · exact orU_in _ _
 · exact hv
theorem hasB_now {x:In} {v:Int} (hv:In32 v) (hw:(writesS x).2=true→0≤(writesS x).1∧(writesS x).1<16) {r:Int} (h0:0≤r):hasB (nowS x v) r=true ↔ hasB v r=true∨((writesS x).2=true∧r=(writesS x).1):=by
 unfold nowS;split
 · rename_i h;have:=hw h;rw [hasB_or hv (shlU_in _),hasB_shl this.1 this.2 h0,Bool.or_eq_true,decide_eq_true_eq];simp [h]
 · rename_i h;simp [h]
def Done (f:List In) (W:List (Int × Int)) (k v:Int):Prop:=(∀ r∈readsS (f.getD k.toNat In.zero),hasB v r=true)∧∀ m∈nextS (f.getD k.toNat In.zero) k,∃ v',evOf W m=some v'∧SubB v' (nowS (f.getD k.toNat In.zero) v)
theorem next_in {f:List In} (hf:FnOk f) {a:Int} (h0:0≤a) (h1:a<(f.length:Int)):∀ m∈nextS (f.getD a.toNat In.zero) a,0≤m∧m<(f.length:Int):=by
 intro m hm
 have hx:f[a.toNat]?=some (f.getD a.toNat In.zero):=by
  rw [List.getD_eq_getElem?_getD,List.getElem?_eq_getElem (by omega)]
  rfl
 obtain ⟨_,_,q3,q4,_⟩:=hf.ok _ _ hx;unfold nextS at hm;split at hm
 · rename_i h;rcases List.mem_append.1 hm with hm|hm
   · exact q3 m hm
   · rw [List.mem_singleton] at hm;have:=q4 h;omega
 · exact q3 m hm
theorem rch_in {f:List In} {kind:Int} (hf:FnOk f) {j:Int} {S:Int→Prop} (h:Rch f kind j S):0≤j∧j<(f.length:Int):=by
 induction h with
 | zero=>have:=hf.pos;omega
 | step hr hn ih=>exact next_in hf ih.1 ih.2 _ hn
theorem fnat_ok {f:List In} (hf:FnOk f) {a:Int} (h0:0≤a) (h1:a<(f.length:Int)):(∀ r∈readsS (f.getD a.toNat In.zero),0≤r∧r<16)∧((writesS (f.getD a.toNat In.zero)).2=true→0≤(writesS (f.getD a.toNat In.zero)).1∧(writesS (f.getD a.toNat In.zero)).1<16):=by
 have hx:f[a.toNat]?=some (f.getD a.toNat In.zero):=by
  rw [List.getD_eq_getElem?_getD,List.getElem?_eq_getElem (by omega)]
  rfl
 obtain ⟨q1,q2,_⟩:=hf.ok _ _ hx;exact ⟨q1,q2⟩
theorem ways_go {f:List In} {kind:Int} (hf:FnOk f):∀ (k:Nat) (W:List (Int × Int)) (st:List Int),potS f.length W st≤k→MarksOk f.length W st→(∀ j v,evOf W j=some v→Pr1 f kind j v)→(∀ j v,evOf W j=some v→j∈st∨Done f W j v) →
 (∀ a∈st,∃ v,evOf W a=some v)→(∃ v,evOf W 0=some v∧∀ r,0≤r→hasB v r=true→r=0∧kind=0)→(waysF f k W st=true ↔ Safe f kind)
 | k,W,[],_,hm,_,h2,_,⟨v0,e0,hv0⟩=>by
  have he:waysF f k W []=true:=by cases k <;> rfl
  rw [he];refine ⟨fun _=>?_,fun _=>rfl⟩
  have key:∀ j S,Rch f kind j S→∃ v,evOf W j=some v∧∀ r,0≤r→hasB v r=true→S r:=by
   intro j S hr
   induction hr with
   | zero=>exact ⟨v0,e0,hv0⟩
   | step hr hn ih =>
    obtain ⟨v,hv,hs⟩:=ih;have hin:=rch_in hf hr;rcases h2 _ v hv with h|h
    · cases h
    · obtain ⟨v',q1,q2⟩:=h.2 _ hn;refine ⟨v',q1,fun r h0 hb=>?_⟩;rcases (hasB_now (hm.val _ _ hv) (fnat_ok hf hin.1 hin.2).2 h0).1 (q2 r h0 hb) with h3|h3
      · exact Or.inl (hs r h0 h3)
      · exact Or.inr h3
  intro j S hr r hread;have hin:=rch_in hf hr;obtain ⟨v,hv,hs⟩:=key j S hr;rcases h2 j v hv with h|h
  · cases h
  · exact hs r ((fnat_ok hf hin.1 hin.2).1 r hread).1 (h.1 r hread)
 | 0,W,a :: st,hp,_,_,_,_,_=>by
  exfalso;unfold potS at hp;simp only [List.length_cons] at hp;omega
 | k+1,W,a :: st,hp,hm,h1,h2,h3,h0=>by
  obtain ⟨v,hv⟩:=h3 a List.mem_cons_self;have hin:=hm.st a List.mem_cons_self;have hfa:=fnat_ok hf hin.1 hin.2;have hv32:=hm.val a v hv;rw [waysF_cons,hv,Option.getD_some];split
  · rename_i hr;obtain ⟨r,hr1,hr2⟩:=List.any_eq_true.1 hr;have hrr:=hfa.1 r hr1;rw [and_shl hv32 hrr.1 hrr.2] at hr2;have hb:hasB v r=false:=by simpa using hr2
    obtain ⟨S,hS,hn⟩:=(h1 a v hv).2 r hrr.1 hb;exact ⟨fun h=>(by cases h),fun hs=>absurd (hs a S hS r hr1) hn⟩
  · rename_i hr
    have hread:∀ r∈readsS (f.getD a.toNat In.zero),hasB v r=true:=by
     intro r hr1;have hrr:=hfa.1 r hr1;cases hb:hasB v r with
     | true=>rfl
     | false =>
      exfalso;refine hr (List.any_eq_true.2 ⟨r,hr1,?_⟩);rw [and_shl hv32 hrr.1 hrr.2,hb]
      rfl
    have hm0:MarksOk f.length W st:=⟨hm.val,fun b hb=>hm.st b (List.mem_cons_of_mem _ hb)⟩;have hnow:=nowS_in (x:=f.getD a.toNat In.zero) hv32;have hnx:=next_in hf hin.1 hin.2;obtain ⟨m1,m2⟩:=meet_pot hnow _ W st hnx hm0;obtain ⟨p1,p2,p3,p4⟩:=meet_all hnow _ W st hnx hm0
    have hPr:∀ m∈nextS (f.getD a.toNat In.zero) a,Pr1 f kind m (nowS (f.getD a.toNat In.zero) v):=by
     intro m hmm;obtain ⟨⟨S,hS⟩,hs⟩:=h1 a v hv;refine ⟨⟨_,Rch.step hS hmm⟩,fun r h0 hb=>?_⟩
     have hnb:¬ (hasB v r=true∨((writesS (f.getD a.toNat In.zero)).2=true∧r=(writesS (f.getD a.toNat In.zero)).1)):=fun h=>by
      rw [(hasB_now hv32 hfa.2 h0).2 h] at hb;cases hb
     have hb2:hasB v r=false:=by
      cases h:hasB v r with
      | false=>rfl
      | true=>exact absurd (Or.inl h) hnb
     obtain ⟨S2,hS2,hn2⟩:=hs r h0 hb2;exact ⟨_,Rch.step hS2 hmm,fun h=>h.elim hn2 fun h=>hnb (Or.inr h)⟩
    have q1:=meet_one (f:=f) (kind:=kind) hnow _ W st hnx hm0 hPr h1;refine ways_go hf k _ _ (by unfold potS at hp m1 ⊢;simp only [List.length_cons] at hp;omega) m2 q1 (fun j u hu=>?_) (fun b hb=>?_) ?_
    · -- each place waits,or is done with
      rcases p4 j u hu with e|e
      · rcases h2 j u e with hj|hj
        · rcases List.mem_cons.1 hj with rfl|hj
          · right
            rw [hv] at e;cases e
            refine ⟨hread,fun m hmm=>?_⟩;obtain ⟨v',w1,w2⟩:=p3 m hmm;exact ⟨v',w1,w2⟩
          · exact Or.inl (p2 j hj)
        · right
          refine ⟨hj.1,fun m hmm=>?_⟩;obtain ⟨v',w1,w2⟩:=hj.2 m hmm;obtain ⟨v'',x1,x2,_⟩:=p1 m v' w1;exact ⟨v'',x1,x2.trans w2⟩
      · exact Or.inl e
    · rcases meet_st _ W st b hb with hb|hb
      · obtain ⟨u,hu⟩:=h3 b (List.mem_cons_of_mem _ hb);obtain ⟨u',x1,_⟩:=p1 b u hu;exact ⟨u',x1⟩
      · obtain ⟨u',x1,_⟩:=p3 b hb;exact ⟨u',x1⟩
    · obtain ⟨v0,e0,hv0⟩:=h0;obtain ⟨v',x1,x2,_⟩:=p1 0 v0 e0;exact ⟨v',x1,fun r hr0 hb=>hv0 r hr0 (x2 r hr0 hb)⟩
end
theorem ways_safe {f:List In} (hf:FnOk f) (kind:Int):waysS f kind=true ↔ Safe f kind:=by
 have hev:∀ j v,evOf [((0:Int),if kind=0 then (1:Int) else 0)] j=some v→j=0∧v=if kind=0 then 1 else 0:=fun j v h=>by
  rw [evOf_cons] at h;by_cases h2:(0:Int)=j
  · rw [if_pos (by simpa using h2)] at h;exact ⟨h2.symm,(Option.some.inj h).symm⟩
  · rw [if_neg (by simpa using h2)] at h;cases h
 have h32:In32 (if kind=0 then 1 else 0):=by split <;> exact ⟨by decide,by decide⟩
 have hbit:∀ r,0≤r→(hasB (if kind=0 then 1 else 0) r=true ↔ r=0∧kind=0):=fun r h0=>by
  unfold hasB;split
  · rename_i hk;have h1:(1:Int).toNat=2 ^ 0:=rfl;rw [h1,Nat.testBit_two_pow,decide_eq_true_eq];refine ⟨fun h=>⟨by omega,hk⟩,fun h=>by omega⟩
  · rename_i hk;simp [hk]
 refine ways_go hf _ _ _ ?_ ⟨fun j v h=>by rw [(hev j v h).2];exact h32,fun a ha=>?_⟩ (fun j v h=>?_) (fun j v h=>Or.inl ?_) (fun a ha=>?_) ⟨_,rfl,fun r h0 hb=>(hbit r h0).1 hb⟩
 · unfold potS waysN;have:=sumS_bound [((0:Int),if kind=0 then (1:Int) else 0)] f.length;simp only [List.length_cons,List.length_nil];omega
 · rw [List.mem_singleton] at ha;have:=hf.pos;omega
 · obtain ⟨rfl,rfl⟩:=hev j v h;refine ⟨⟨_,Rch.zero⟩,fun r h0 hb=>⟨_,Rch.zero,fun h=>?_⟩⟩;rw [(hbit r h0).2 h] at hb;cases hb
 · rw [(hev j v h).1];exact List.mem_singleton.2 rfl
 · rw [List.mem_singleton] at ha;subst ha;exact ⟨_,rfl⟩
abbrev Mk:=Option (List Bool)
def meetB (a b:List Bool):List Bool:=List.zipWith (fun x y=>x && y) a b
def labF (o:List Bool) (s:List Mk × Bool) (m:Int):List Mk × Bool :=
 match s.1.getD m.toNat none with
 | none=>(s.1.set m.toNat (some o),true)
 | some l=>(s.1.set m.toNat (some (meetB l o)),s.2 || decide (meetB l o≠l))
def outF (x:In) (l:List Bool):List Bool:=if (writesS x).2 then l.set (writesS x).1.toNat true else l
def rowF (f:List In) (s:List Mk × Bool) (k:Nat):List Mk × Bool :=
 match s.1.getD k none with
 | none=>s
 | some l=>(nextS (f.getD k In.zero) k).foldl (labF (outF (f.getD k In.zero) l)) s
def passF (f:List In) (S:List Mk):List Mk × Bool:=(List.range f.length).foldl (rowF f) (S,false)
def mkN:Mk→Nat
 | none=>17
 | some l=>l.count true
def potM (S:List Mk):Nat:=(S.map mkN).sum
theorem potM_set:∀ (S:List Mk) (k:Nat) (u v:Mk),S[k]?=some u→potM (S.set k v)+mkN u=potM S+mkN v
 | [],k,u,v,h=>by cases h
 | x :: S,0,u,v,h=>by
  cases h
  simp only [potM,List.set_cons_zero,List.map_cons,List.sum_cons];omega
 | x :: S,k+1,u,v,h=>by
  have:=potM_set S k u v h;simp only [potM,List.set_cons_succ,List.map_cons,List.sum_cons] at this ⊢;omega
theorem set_self {α:Type}:∀ {l:List α} {k:Nat} {a:α},l[k]?=some a→l.set k a=l
 | [],k,a,h=>by cases h
 | x :: l,0,a,h=>by cases h;rfl
 | x :: l,k+1,a,h=>by rw [List.set_cons_succ,set_self (by simpa using h)]
theorem meetB_len {a b:List Bool} (h:a.length=b.length):(meetB a b).length=a.length:=by
 unfold meetB;rw [List.length_zipWith,h,Nat.min_self]
theorem meetB_get {a b:List Bool} (h:a.length=b.length) (r:Nat):(meetB a b)[r]?=(a[r]?).map fun x=>x && b.getD r false:=by
 unfold meetB;rw [List.getElem?_zipWith,List.getD_eq_getElem?_getD];by_cases hr:r<a.length
 · rw [List.getElem?_eq_getElem hr,List.getElem?_eq_getElem (by omega)]
   rfl
 · rw [List.getElem?_eq_none (by omega)]
   rfl
theorem meetB_count:∀ (a b:List Bool),a.length=b.length→(meetB a b).count true≤a.count true∧(meetB a b≠a→(meetB a b).count true<a.count true)
 | [],b,_=>⟨by simp [meetB],fun h=>absurd (by simp [meetB]) h⟩
 | x :: a,[],h=>by cases h
 | x :: a,y :: b,h=>by
  obtain ⟨h1,h2⟩:=meetB_count a b (by simpa using h);have e:meetB (x :: a) (y :: b)=(x && y) :: meetB a b:=rfl;rw [e];simp only [List.count_cons];refine ⟨?_,fun hne=>?_⟩
  · cases x <;> cases y <;> simp <;> omega
  · by_cases hm:meetB a b=a
    · rw [hm] at hne ⊢;cases x <;> cases y <;> simp at hne ⊢
    · have:=h2 hm;cases x <;> cases y <;> simp <;> omega
def Pr2 (f:List In) (kind:Int) (k:Int) (l:List Bool):Prop:=(∃ X,Rch f kind k X)∧∀ r:Nat,r<16→l.getD r true=false→∃ X,Rch f kind k X∧¬ X (r:Int)
structure MarkM (f:List In) (kind:Int) (S:List Mk):Prop where
 len:S.length=f.length
 ok:∀ (k:Nat) (l:List Bool),S[k]?=some (some l)→l.length=16∧Pr2 f kind (k:Int) l
 zero:∃ l,S[0]?=some (some l)∧∀ r:Nat,l[r]?=some true→r=0∧kind=0
section
variable {f:List In} {kind:Int}
theorem lab_law {S:List Mk} {ch:Bool} {o:List Bool} {m:Int} (h:MarkM f kind S) (hm:0≤m∧m<(f.length:Int)) (ho:o.length=16) (hp:Pr2 f kind m o) :
 MarkM f kind (labF o (S,ch) m).1∧((labF o (S,ch) m=(S,ch)∧∃ l,S[m.toNat]?=some (some l)∧meetB l o=l)∨(potM (labF o (S,ch) m).1<potM S∧(labF o (S,ch) m).2=true)):=by
 obtain ⟨k,rfl⟩:=Int.eq_ofNat_of_zero_le hm.1;have hk:k<S.length:=by rw [h.len];omega
 unfold labF;simp only [Int.toNat_natCast];cases e:S.getD k none with
 | none =>
  have e1:S[k]?=some none:=by rw [List.getD_eq_getElem?_getD,List.getElem?_eq_getElem hk] at e;rw [List.getElem?_eq_getElem hk];exact congrArg some e
  have:=potM_set S k _ (some o) e1;have hc:(mkN (some o))≤16:=by rw [← ho];exact List.count_le_length
  refine ⟨⟨by rw [List.length_set];exact h.len,fun j l hj=>?_,?_⟩,Or.inr ⟨by simp only [mkN] at this hc ⊢;omega,rfl⟩⟩
  · rw [List.getElem?_set] at hj;split at hj
    · rename_i e2;subst e2;cases hj
      exact ⟨ho,hp⟩
    · exact h.ok j l hj
  · obtain ⟨l,q1,q2⟩:=h.zero;refine ⟨l,?_,q2⟩;rw [List.getElem?_set_ne]
    · exact q1
    · rintro rfl;rw [e1] at q1;cases q1
 | some l =>
  have e1:S[k]?=some (some l):=by rw [List.getD_eq_getElem?_getD,List.getElem?_eq_getElem hk] at e;rw [List.getElem?_eq_getElem hk];exact congrArg some e
  obtain ⟨hl,hpl⟩:=h.ok k l e1;have hlo:l.length=o.length:=by omega
  obtain ⟨c1,c2⟩:=meetB_count l o hlo;have:=potM_set S k _ (some (meetB l o)) e1;refine ⟨⟨by rw [List.length_set];exact h.len,fun j l2 hj=>?_,?_⟩,?_⟩
  · rw [List.getElem?_set] at hj;split at hj
    · rename_i e2;subst e2;cases hj
      refine ⟨by rw [meetB_len hlo];exact hl,hpl.1,fun r hr hf=>?_⟩;rw [List.getD_eq_getElem?_getD,meetB_get hlo,List.getElem?_eq_getElem (by omega)] at hf;simp only [Option.map_some,Option.getD_some,Bool.and_eq_false_iff] at hf;rcases hf with hf|hf
      · exact hpl.2 r hr (by rw [List.getD_eq_getElem?_getD,List.getElem?_eq_getElem (by omega)];exact hf)
      · refine hp.2 r hr ?_;rw [List.getD_eq_getElem?_getD,List.getElem?_eq_getElem (by omega)] at hf ⊢;exact hf
    · exact h.ok j l2 hj
  · obtain ⟨l0,q1,q2⟩:=h.zero;by_cases hk0:k=0
    · subst hk0;rw [e1] at q1;cases q1
      refine ⟨_,by rw [List.getElem?_set,if_pos rfl,if_pos hk],fun r hr=>q2 r ?_⟩;rw [meetB_get hlo] at hr;cases hx:l[r]? with
      | none=>rw [hx] at hr;cases hr
      | some x =>
       rw [hx] at hr;simp only [Option.map_some,Option.some.injEq,Bool.and_eq_true] at hr;rw [hr.1]
    · exact ⟨l0,by rw [List.getElem?_set_ne hk0];exact q1,q2⟩
  · by_cases hne:meetB l o=l
    · left
      refine ⟨?_,l,e1,hne⟩;simp only;rw [hne];simp only [ne_eq,not_true_eq_false,decide_false,Bool.or_false,Prod.mk.injEq,and_true];exact set_self e1
    · right
      have:=c2 hne;refine ⟨by simp only [mkN] at *;omega,by simp [hne]⟩
theorem labs_law {o:List Bool} (ho:o.length=16):∀ (ms:List Int) (S:List Mk) (ch:Bool),MarkM f kind S→(∀ m∈ms,0≤m∧m<(f.length:Int))→(∀ m∈ms,Pr2 f kind m o) →
 MarkM f kind (ms.foldl (labF o) (S,ch)).1∧((ms.foldl (labF o) (S,ch)=(S,ch)∧∀ m∈ms,∃ l,S[m.toNat]?=some (some l)∧meetB l o=l)∨(potM (ms.foldl (labF o) (S,ch)).1<potM S∧(ms.foldl (labF o) (S,ch)).2=true))
 | [],S,ch,h,_,_=>⟨h,Or.inl ⟨rfl,fun m hm=>by cases hm⟩⟩
 | m :: ms,S,ch,h,hr,hp=>by
  obtain ⟨a1,a2⟩:=lab_law (ch:=ch) h (hr m List.mem_cons_self) ho (hp m List.mem_cons_self);rw [List.foldl_cons];generalize labF o (S,ch) m=s1 at *;obtain ⟨S1,ch1⟩:=s1;obtain ⟨b1,b2⟩:=labs_law ho ms S1 ch1 a1 (fun x hx=>hr x (List.mem_cons_of_mem _ hx)) (fun x hx=>hp x (List.mem_cons_of_mem _ hx));refine ⟨b1,?_⟩;rcases a2 with ⟨e,hc⟩|⟨p1,p2⟩
  · cases e
    rcases b2 with ⟨e,hc2⟩|⟨q1,q2⟩
    · exact Or.inl ⟨e,fun x hx=>(List.mem_cons.1 hx).elim (fun e=>e ▸ hc) (hc2 x)⟩
    · exact Or.inr ⟨q1,q2⟩
  · simp only at p1 p2;subst p2;rcases b2 with ⟨e,_⟩|⟨q1,q2⟩
    · exact Or.inr ⟨by rw [e];exact p1,by rw [e]⟩
    · exact Or.inr ⟨by omega,q2⟩
theorem outF_len {x:In} {l:List Bool} (h:l.length=16):(outF x l).length=16:=by
 unfold outF;split <;> simp [h]
theorem outF_get {x:In} {l:List Bool} (h:l.length=16) (hw:(writesS x).2=true→0≤(writesS x).1∧(writesS x).1<16) {r:Nat} (hr:r<16) (d:Bool):(outF x l).getD r d=(l.getD r d || decide ((writesS x).2=true∧(r:Int)=(writesS x).1)):=by
 unfold outF;split
 · rename_i e;have:=hw e;rw [List.getD_eq_getElem?_getD,List.getElem?_set];split
   · rename_i e2;rw [if_pos (by omega)];have:(r:Int)=(writesS x).1:=by omega
     simp [e,this]
   · rename_i e2;have:¬ (r:Int)=(writesS x).1:=by omega
     simp [this,List.getD_eq_getElem?_getD]
 · rename_i e;simp [e]
def ClosedM (f:List In) (S:List Mk) (k:Nat):Prop:=∀ l,S[k]?=some (some l)→∀ m∈nextS (f.getD k In.zero) k,∃ l',S[m.toNat]?=some (some l')∧meetB l' (outF (f.getD k In.zero) l)=l'
theorem row_pr (hf:FnOk f) {k:Nat} (hk:k<f.length) {l:List Bool} (hl:l.length=16) (hpl:Pr2 f kind (k:Int) l):∀ m∈nextS (f.getD k In.zero) (k:Int),Pr2 f kind m (outF (f.getD k In.zero) l):=by
 have hfa:=fnat_ok hf (a:=(k:Int)) (by omega) (by omega);rw [Int.toNat_natCast] at hfa;intro m hm;obtain ⟨⟨X,hX⟩,hs⟩:=hpl;have hm':m∈nextS (f.getD ((k:Int)).toNat In.zero) (k:Int):=by rw [Int.toNat_natCast];exact hm
 refine ⟨⟨_,Rch.step hX hm'⟩,fun r hr hb=>?_⟩;rw [outF_get hl hfa.2 hr,Bool.or_eq_false_iff,decide_eq_false_iff_not] at hb;obtain ⟨X2,hX2,hn2⟩:=hs r hr hb.1;refine ⟨_,Rch.step hX2 hm',fun h=>?_⟩;rw [Int.toNat_natCast] at h;exact h.elim hn2 hb.2
theorem row_law (hf:FnOk f) {S:List Mk} {ch:Bool} (h:MarkM f kind S) {k:Nat} (hk:k<f.length) :
 MarkM f kind (rowF f (S,ch) k).1∧((rowF f (S,ch) k=(S,ch)∧ClosedM f S k)∨(potM (rowF f (S,ch) k).1<potM S∧(rowF f (S,ch) k).2=true)):=by
 have hkS:k<S.length:=by rw [h.len];exact hk
 unfold rowF;simp only;cases e:S.getD k none with
 | none =>
  have e1:S[k]?=some none:=by rw [List.getD_eq_getElem?_getD,List.getElem?_eq_getElem hkS] at e;rw [List.getElem?_eq_getElem hkS];exact congrArg some e
  exact ⟨h,Or.inl ⟨rfl,fun l hl=>by rw [e1] at hl;cases hl⟩⟩
 | some l =>
  have e1:S[k]?=some (some l):=by rw [List.getD_eq_getElem?_getD,List.getElem?_eq_getElem hkS] at e;rw [List.getElem?_eq_getElem hkS];exact congrArg some e
  obtain ⟨hl,hpl⟩:=h.ok k l e1;have hnx:=next_in hf (a:=(k:Int)) (by omega) (by omega);rw [Int.toNat_natCast] at hnx;obtain ⟨p1,p2⟩:=labs_law (outF_len hl) _ S ch h hnx (row_pr hf hk hl hpl);refine ⟨p1,?_⟩;rcases p2 with ⟨q1,q2⟩|q
  · refine Or.inl ⟨q1,fun l2 hl2=>?_⟩;rw [e1] at hl2;cases hl2
    exact q2
  · exact Or.inr q
theorem rows_law (hf:FnOk f):∀ (ks:List Nat) (S:List Mk) (ch:Bool),(∀ k∈ks,k<f.length)→MarkM f kind S →
 MarkM f kind (ks.foldl (rowF f) (S,ch)).1∧((ks.foldl (rowF f) (S,ch)=(S,ch)∧∀ k∈ks,ClosedM f S k)∨(potM (ks.foldl (rowF f) (S,ch)).1<potM S∧(ks.foldl (rowF f) (S,ch)).2=true))
 | [],S,ch,_,h=>⟨h,Or.inl ⟨rfl,fun m hm=>by cases hm⟩⟩
 | k :: ks,S,ch,hr,h=>by
  obtain ⟨a1,a2⟩:=row_law (ch:=ch) hf h (hr k List.mem_cons_self);rw [List.foldl_cons];generalize rowF f (S,ch) k=s1 at *;obtain ⟨S1,ch1⟩:=s1;obtain ⟨b1,b2⟩:=rows_law hf ks S1 ch1 (fun x hx=>hr x (List.mem_cons_of_mem _ hx)) a1;refine ⟨b1,?_⟩;rcases a2 with ⟨e,hc⟩|⟨p1,p2⟩
  · cases e
    rcases b2 with ⟨e,hc2⟩|⟨q1,q2⟩
    · exact Or.inl ⟨e,fun x hx=>(List.mem_cons.1 hx).elim (fun e=>e ▸ hc) (hc2 x)⟩
    · exact Or.inr ⟨q1,q2⟩
  · simp only at p1 p2;subst p2;rcases b2 with ⟨e,_⟩|⟨q1,q2⟩
    · exact Or.inr ⟨by rw [e];exact p1,by rw [e]⟩
    · exact Or.inr ⟨by omega,q2⟩
theorem pass_law (hf:FnOk f) {S:List Mk} (h:MarkM f kind S) :
 MarkM f kind (passF f S).1∧((passF f S=(S,false)∧∀ k,k<f.length→ClosedM f S k)∨(potM (passF f S).1<potM S∧(passF f S).2=true)):=by
 obtain ⟨a,b⟩:=rows_law hf (List.range f.length) S false (fun k hk=>List.mem_range.1 hk) h;refine ⟨a,b.imp (fun h=>⟨h.1,fun k hk=>h.2 k (List.mem_range.2 hk)⟩) id⟩
def GoodM (f:List In) (S:List Mk) (k:Nat):Prop:=∀ l,S[k]?=some (some l)→∀ r∈readsS (f.getD k In.zero),l.getD r.toNat false=true
theorem good_law (hf:FnOk f) {S:List Mk} (h:MarkM f kind S) (hc:∀ k,k<f.length→ClosedM f S k):(∀ k,k<f.length→GoodM f S k) ↔ Safe f kind:=by
 constructor
 · intro hg
   have key:∀ j X,Rch f kind j X→∃ l,S[j.toNat]?=some (some l)∧∀ r:Nat,r<16→l.getD r false=true→X (r:Int):=by
    intro j X hr
    induction hr with
    | zero =>
     obtain ⟨l,q1,q2⟩:=h.zero;refine ⟨l,q1,fun r hr hb=>?_⟩;have hl:=(h.ok 0 l q1).1;rw [List.getD_eq_getElem?_getD,List.getElem?_eq_getElem (by omega)] at hb;have:=q2 r (by rw [List.getElem?_eq_getElem (by omega)];exact congrArg some hb);exact ⟨by omega,this.2⟩
    | @step k X m hr hn ih =>
     obtain ⟨l,q1,q2⟩:=ih;have hin:=rch_in hf hr;have hl:=(h.ok _ l q1).1;have hkc:((k.toNat:Nat):Int)=k:=by omega
     obtain ⟨l',q3,q4⟩:=hc k.toNat (by omega) l q1 m (by rw [hkc];exact hn);have hl':=(h.ok _ l' q3).1;refine ⟨l',q3,fun r hr2 hb=>?_⟩
     have hb2:(outF (f.getD k.toNat In.zero) l).getD r false=true:=by
      rw [← q4,List.getD_eq_getElem?_getD,meetB_get (by rw [hl',outF_len hl]),List.getElem?_eq_getElem (by omega)] at hb;simp only [Option.map_some,Option.getD_some,Bool.and_eq_true] at hb;exact hb.2
     rw [outF_get hl (fnat_ok hf hin.1 hin.2).2 hr2,Bool.or_eq_true,decide_eq_true_eq] at hb2;exact hb2.imp (q2 r hr2) id
   intro j X hr r hread;have hin:=rch_in hf hr;obtain ⟨l,q1,q2⟩:=key j X hr;have hrr:=(fnat_ok hf hin.1 hin.2).1 r hread;have:=q2 r.toNat (by omega) (hg j.toNat (by omega) l q1 r hread)
   rwa [show ((r.toNat:Nat):Int)=r by omega] at this
 · intro hs k hk l hl r hr;have hfa:=(fnat_ok hf (a:=(k:Int)) (by omega) (by omega)).1;rw [Int.toNat_natCast] at hfa;have hrr:=hfa r hr;cases hb:l.getD r.toNat false with
   | true=>rfl
   | false =>
    exfalso;obtain ⟨hl16,_,hp⟩:=h.ok k l hl;obtain ⟨X,hX,hn⟩:=hp r.toNat (by omega) (by rw [List.getD_eq_getElem?_getD,List.getElem?_eq_getElem (by omega)] at hb ⊢;exact hb);rw [show ((r.toNat:Nat):Int)=r by omega] at hn;exact hn (hs (k:Int) X hX r (by rw [Int.toNat_natCast];exact hr))
end
def markB (n:Nat) (kind:Int):List Mk:=some (decide (kind=0) :: List.replicate 15 false) :: List.replicate (n - 1) none
theorem markB_ok {f:List In} {kind:Int} (hf:FnOk f):MarkM f kind (markB f.length kind):=by
 have hp:=hf.pos;refine ⟨by simp [markB];omega,fun k l h=>?_,⟨_,rfl,fun r hr=>?_⟩⟩
 · unfold markB at h;cases k with
   | succ k =>
    rw [List.getElem?_cons_succ,List.getElem?_replicate] at h;split at h <;> cases h
   | zero =>
    cases h
    refine ⟨by simp,⟨_,Rch.zero⟩,fun r hr hb=>⟨_,Rch.zero,fun hx=>?_⟩⟩;have:r=0:=by omega
    subst this;simp [hx.2] at hb
 · cases r with
   | zero=>simpa using hr
   | succ r =>
    rw [List.getElem?_cons_succ,List.getElem?_replicate] at hr;split at hr <;> cases hr
def Mid (l2 o l3:List Bool) (r:Nat):Prop:=l3.length=16∧∀ t,t<16→l3.getD t false=(l2.getD t false && (decide (r≤t) || o.getD t false))
theorem mid_zero {l2 o:List Bool} (h:l2.length=16):Mid l2 o l2 0:=⟨h,fun t _=>by simp⟩
theorem mid_keep {l2 o l3:List Bool} {r:Nat} (h:Mid l2 o l3 r) (hr:r<16) (hk:l3.getD r false=false∨o.getD r false=true):Mid l2 o l3 (r+1):=by
 refine ⟨h.1,fun t ht=>?_⟩;have:=h.2 t ht;by_cases e:t=r
 · subst e;rw [decide_eq_true (Nat.le_refl t),Bool.true_or,Bool.and_true] at this;rw [decide_eq_false (show ¬ t+1≤t by omega),Bool.false_or];rcases hk with hk|hk
   · rw [hk] at this;rw [hk,← this]
     rfl
   · rw [hk,Bool.and_true];exact this
 · rw [this]
   congr 2
   rw [decide_eq_decide];omega
theorem mid_strike {l2 o l3:List Bool} {r:Nat} (h:Mid l2 o l3 r) (hr:r<16) (h3:l3.getD r false=true) (ho:o.getD r false=false):Mid l2 o (l3.set r false) (r+1)∧l3.set r false≠l2:=by
 have hl:=h.1
 have get:∀ t,(l3.set r false).getD t false=if t=r then false else l3.getD t false:=fun t=>by
  rw [List.getD_eq_getElem?_getD,List.getElem?_set];by_cases e:r=t
  · subst e;rw [if_pos rfl,if_pos (by omega),if_pos rfl]
    rfl
  · rw [if_neg e,if_neg (Ne.symm e),List.getD_eq_getElem?_getD]
 refine ⟨⟨by rw [List.length_set];exact h.1,fun t ht=>?_⟩,fun e=>?_⟩
 · rw [get];by_cases e:t=r
   · subst e;rw [if_pos rfl,ho,decide_eq_false (show ¬ t+1≤t by omega)];simp
   · rw [if_neg e,h.2 t ht]
     congr 2
     rw [decide_eq_decide];omega
 · have h1:=get r;rw [if_pos rfl,e] at h1;have h2:=h.2 r hr;rw [h1,h3] at h2;simp at h2
theorem mid_end {l2 o l3:List Bool} (h:Mid l2 o l3 16) (h2:l2.length=16) (ho:o.length=16):l3=meetB l2 o:=by
 refine List.ext_getElem? fun t=>?_;have h16:l3.length=16:=h.1;rw [meetB_get (by omega)];by_cases ht:t<16
 · have:=h.2 t ht;rw [decide_eq_false (show ¬ 16≤t by omega),Bool.false_or] at this;have q1:l3[t]?=some (l3[t]'(by omega)):=List.getElem?_eq_getElem _;have q2:l2[t]?=some (l2[t]'(by omega)):=List.getElem?_eq_getElem _;rw [List.getD_eq_getElem?_getD,q1,List.getD_eq_getElem?_getD,q2] at this;rw [q1,q2,Option.map_some];exact congrArg some this
 · rw [List.getElem?_eq_none (by omega),List.getElem?_eq_none (by omega)]
   rfl
end Go.Proofs.YtlbomnbpahmphaaGreat
