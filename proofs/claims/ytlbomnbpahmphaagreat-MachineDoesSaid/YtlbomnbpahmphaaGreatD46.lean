/- Walk: the document's 'Kinds'. Conditions: the coroutines lie at their slice; they are not too many. -/
import Derived.Deep.LoopGhost
import Derived.Test.YtlbomnbpahmphaaGreatD18
set_option maxRecDepth 100000
set_option maxHeartbeats 4000000
namespace Go.Proofs.YtlbomnbpahmphaaGreat
open Go.RowKit
theorem marks_get (g:Cr→Int) (k:Int) (i:Nat):∀ (cs:List Cr) (l:List Int),i<l.length→(cs.foldl (fun l c=>markS l (g c) k) l).getD i 0=if cs.any (fun c=>g c == (i:Int)) then k else l.getD i 0
 | [],l,_=>by simp
 | c :: cs,l,hi=>by
  rw [List.foldl_cons,marks_get g k i cs _ (by rw [mark_len];exact hi),List.any_cons];cases ha:cs.any (fun c=>g c == (i:Int)) with
  | true=>simp
  | false =>
   rw [Bool.or_false];by_cases e:g c=(i:Int)
   · rw [if_neg (by simp),if_pos (by simp [e])];unfold markS;rw [e,if_pos (withinS_iff.2 ⟨by omega,by omega⟩),Int.toNat_natCast,List.getD_eq_getElem?_getD,List.getElem?_set_self hi]
     rfl
   · rw [if_neg (by simp),if_neg (by simp [e])];unfold markS;split
     · rename_i hw;have:=withinS_iff.1 hw;rw [List.getD_eq_getElem?_getD,List.getElem?_set_ne (by omega),List.getD_eq_getElem?_getD]
     · rfl
def kindStep (i:Int) (v:Int) (c:Cr):Int:=if c.resume == i then 1 else if (c.cancel == i) && (v == 0) then 2 else v
theorem kindStep_fold (i:Int):∀ (cs:List Cr) (v:Int),cs.foldl (kindStep i) v=if cs.any (fun c=>c.resume == i) then 1 else if v=0 then (if cs.any (fun c=>c.cancel == i) then 2 else 0) else v
 | [],v=>by by_cases h:v=0 <;> simp [h]
 | c :: cs,v=>by
  rw [List.foldl_cons,kindStep_fold i cs,List.any_cons,List.any_cons];unfold kindStep;cases h1:(c.resume == i) <;> cases h2:cs.any (fun c=>c.resume == i) <;> cases h3:(c.cancel == i) <;> by_cases h4:v=0 <;> simp [h4]
theorem kinds_get (P:Pr) {i:Nat} (hi:i<P.funs.length):(kindsS P).getD i 0=P.cos.foldl (kindStep i) 0:=by
 unfold kindsS;rw [marks_get _ _ _ _ _ (by rw [marks_len,List.length_replicate];exact hi),marks_get _ _ _ _ _ (by rw [List.length_replicate];exact hi),kindStep_fold];have:(List.replicate P.funs.length (0:Int)).getD i 0=0:=by rw [List.getD_eq_getElem?_getD,List.getElem?_replicate];split <;> rfl
 rw [this];simp
section
variable {base:Nat} {P:Pr} {w:World}
theorem rkinds_c (fo:Option Addr) (fc:Nat) (co:Option Addr) (cc:Nat) (hco:CosB base w co P.cos) (hn:P.funs.length≤65536) (hnc:P.cos.length≤65536) :
 Calls Tryz.prog 33 #[.agg #[.slice fo P.funs.length fc,.slice co P.cos.length cc]] w fun e w'=>∃ g,e=.returned (.slice (some ⟨g,0,none⟩) P.funs.length P.funs.length)∧Row w' g 3 (ints (kindsS P))∧w.heap.size≤g∧Fr Non w w':=by
 obtain ⟨j0,hj,hj0,hj1,hj2⟩:=info_parts Tryz.infoInt;obtain ⟨n,hnn⟩:∃ n,n=P.funs.length:=⟨_,rfl⟩;obtain ⟨K,hK⟩:∃ K,K=kindsS P:=⟨_,rfl⟩;have hKl:K.length=n:=by rw [hK,kinds_len,hnn]
 have hKg:∀ t,t<n→K.getD t 0=P.cos.foldl (kindStep t) 0:=fun t ht=>by rw [hK];exact kinds_get P (by omega)
 rw [← hK];rw [← hnn] at hn ⊢
 have hm2:∀ W:World,(Instr.makeSlice 36 (.int .i64 n) (.int .i64 n)).run Tryz.prog W=.ok (.slice (Option.some ⟨W.heap.size,0,none⟩) n n) (W.alloc (.cells (madeCells #[.int .i64 0] (n * 1)) 3)):=by
  intro W;have:=run_make (P:=Tryz.prog) W 36 3 j0 _ Tryz.underlying36 hj hj0 .i64 .i64 (n:Int) (n:Int) (by omega) (by omega) (by rw [hj2];omega) (by omega);rw [hj1] at this
  simpa [Value.cells] using this
 have hZ:=madeCells_int n;generalize madeCells #[.int .i64 0] (n * 1)=zZ at *;have HZ:=Lib.hid (And.intro hZ (And.intro hco (And.intro hnc (And.intro hKl (And.intro hKg hn)))));clear hZ hco hnn hnc hK hKl hKg;go_enter Tryz.func33,Tryz.ntmps33
 go_wp2_with fail
 have b0:((w.alloc (.cells #[.slice fo n fc,.slice co P.cos.length cc] 25)).alloc (.cells zZ 3)).cell? ⟨w.heap.size,0,none⟩=some (.slice fo n fc):=(Row.alloc (Row.new' rfl) _).cell (o:=0) rfl;have b1:((w.alloc (.cells #[.slice fo n fc,.slice co P.cos.length cc] 25)).alloc (.cells zZ 3)).cell? ⟨w.heap.size,1,none⟩=some (.slice co P.cos.length cc):=(Row.alloc (Row.new' rfl) _).cell (o:=1) rfl
 have hr:Row ((w.alloc (.cells #[.slice fo n fc,.slice co P.cos.length cc] 25)).alloc (.cells zZ 3)) (w.heap.size+1) 3 (ints (List.replicate n 0)):=by
  have:ints (List.replicate n 0)=zZ.toList:=by rw [HZ.out.1];simp [ints]
  rw [this];exact Row.new' (by simp)
 have hf:Fr Non w ((w.alloc (.cells #[.slice fo n fc,.slice co P.cos.length cc] 25)).alloc (.cells zZ 3)):=by exact fx
 generalize (w.alloc (.cells #[.slice fo n fc,.slice co P.cos.length cc] 25)).alloc (.cells zZ 3)=W at *;have HR:=Lib.hid (And.intro hr hf);clear hr hf hm2;obtain ⟨kb,hkb⟩:∃ kb,kb=w.heap.size+1:=⟨_,rfl⟩;rw [← hkb] at HR ⊢;have HKB:=Lib.hid hkb;clear hkb
 go_loopg [4] n (fun q v4 wq=>∃ (i:Nat) (L:List Int),i≤n∧q=n - i∧v4=.int .i64 i∧L.length=n∧(∀ t,t<n→L.getD t 0=if t<i then K.getD t 0 else 0)∧Row wq kb 3 (ints L)∧Fr (fun x=>x=kb) W wq)
 case atStart=>exact ⟨0,_,Nat.zero_le _,rfl,rfl,by simp,fun t ht=>(by simp [ht]),HR.out.1,Fr.refl _ _⟩
 case round =>
  obtain ⟨i,L,hi,rfl,rfl,hLl,hLg,hrow,hfr⟩:=hrel;have hi0:(0:Int)≤(i:Int):=by omega
  have hne:¬ w.heap.size=kb:=by have:=HKB.out;omega
  have d0:=hfr.cell b0 hne;have d1:=hfr.cell b1 hne;have hwl:=World.block_lt_of_cell? wr _ d0;by_cases hil:i<n
  · have hi1:(i:Int)<(n:Int):=by omega
    have hwi:IntKind.i64.wrap ((i:Int)+1)=(i:Int)+1:=IntWalk.i64_in _ (by omega);have HX:=Lib.hid (And.intro hLl (And.intro hLg (And.intro hrow hfr)));clear hLl hLg hrow hfr;go_wp2_with fail
    go_loopg [5] P.cos.length (fun q v5 wq=>∃ (k:Nat) (v:Int),k≤P.cos.length∧q=P.cos.length - k∧v5=.int .i64 k∧v=(P.cos.take k).foldl (kindStep i) 0∧Row wq kb 3 (ints (L.set i v))∧Fr (fun x=>x=kb) W wq)
    case atStart =>
     refine ⟨0,0,Nat.zero_le _,rfl,rfl,rfl,?_,HX.out.2.2.2⟩
     have:L.set i 0=L:=by
      refine List.ext_getElem? fun t=>?_;rw [List.getElem?_set];split
      · rename_i e;subst e;rw [if_pos (by rw [HX.out.1];exact hil)];have:=HX.out.2.1 i hil;rw [if_neg (by omega),List.getD_eq_getElem?_getD,List.getElem?_eq_getElem (by rw [HX.out.1];exact hil)] at this;rw [List.getElem?_eq_getElem (by rw [HX.out.1];exact hil)];exact congrArg some this.symm
      · rfl
     rw [this];exact HX.out.2.2.1
    case round =>
     obtain ⟨k,v,hk,rfl,rfl,hv,hrow,hfr⟩:=hrel;have hk0:(0:Int)≤(k:Int):=by omega
     have e0:=hfr.cell b0 hne;have e1:=hfr.cell b1 hne;have hwl2:=World.block_lt_of_cell? wr _ e0;clear d0 d1 hwl;by_cases hkl:k<P.cos.length
     · have hk1:(k:Int)<(P.cos.length:Int):=by omega
       have hwk:IntKind.i64.wrap ((k:Int)+1)=(k:Int)+1:=IntWalk.i64_in _ (by have:=HZ.out.2.2.1;omega);obtain ⟨cb,oo,eco,hcs⟩:=HZ.out.2.1 (by omega);subst eco;obtain ⟨x,hx⟩:∃ x,P.cos[k]?=some x:=⟨P.cos[k],List.getElem?_eq_getElem hkl⟩;obtain ⟨g0,g1,g2,g3,g4⟩:=crs_get hx;have hcbw:cb<w.heap.size:=World.block_lt_of_cell? w _ (hcs _ _ g0).2;have hcn:¬ cb=kb:=by have:=HKB.out;omega
       have c1:=hfr.cell (HR.out.2.cell (hcs _ _ g1).2 id) hcn;have c2:=hfr.cell (HR.out.2.cell (hcs _ _ g2).2 id) hcn;rw [← Nat.add_assoc] at c1 c2
       have hst:(P.cos.take (k+1)).foldl (kindStep i) 0=kindStep i v x:=by
        have hx2:P.cos[k]=x:=by have:=List.getElem?_eq_getElem hkl;rw [this] at hx;exact Option.some.inj hx
        rw [List.take_succ_eq_append_getElem hkl,List.foldl_append,← hv,hx2]
        rfl
       have hiL:i<L.length:=by rw [HX.out.1];exact hil
       have ck:=hrow.cell (o:=i) (v:=.int .i64 v) (by unfold ints;rw [List.getElem?_map,List.getElem?_set,if_pos rfl,if_pos hiL];rfl);have ckz:=hrow.frozen;have ckl:=hrow.lt;have HY:=Lib.hid (And.intro hrow (And.intro hfr hst));clear hrow hfr hcs g0 g1 g2 g3 g4 hx hst hv;obtain ⟨xn,xr,xc,xw,xa⟩:=x;simp only at c1 c2;have hset:∀ u,(ints (L.set i v)).set i (.int .i64 u)=ints (L.set i u):=fun u=>by simp [ints,List.map_set,List.set_set]
       have HS:=Lib.hid hset;clear hset;have hks:kindStep i v ⟨xn,xr,xc,xw,xa⟩=if xr == (i:Int) then 1 else if (xc == (i:Int)) && (v == 0) then 2 else v:=rfl
       have HKS:=Lib.hid hks;clear hks;cases hq1:(xc == (i:Int)) with
       | true =>
        cases hq2:(v == 0) with
        | true =>
         cases hq3:(xr == (i:Int)) with
         | true =>
          go_wp2_with fail
          go_roundg (P.cos.length - (k+1))
          case measure=>omega
          case rel =>
           refine ⟨k+1,1,by omega,rfl,by simp,by rw [HY.out.2.2,HKS.out,hq3];rfl,?_,?_⟩
           · have:=(HY.out.1.set_same i (.int .i64 2)).set_same i (.int .i64 1);rw [List.set_set,HS.out] at this
             first|exact this|(simpa using this)
           · exact ((HY.out.2.1.trans (Fr.set1 _ _ _ _)).trans (Fr.set1 _ _ _ _))
         | false =>
          go_wp2_with fail
          go_roundg (P.cos.length - (k+1))
          case measure=>omega
          case rel =>
           refine ⟨k+1,2,by omega,rfl,by simp,by rw [HY.out.2.2,HKS.out,hq3,hq1,hq2];rfl,?_,?_⟩
           · have:=HY.out.1.set_same i (.int .i64 2);rw [HS.out] at this;exact this
           · exact HY.out.2.1.trans (Fr.set1 _ _ _ _)
        | false =>
         cases hq3:(xr == (i:Int)) with
         | true =>
          go_wp2_with fail
          go_roundg (P.cos.length - (k+1))
          case measure=>omega
          case rel =>
           refine ⟨k+1,1,by omega,rfl,by simp,by rw [HY.out.2.2,HKS.out,hq3];rfl,?_,?_⟩
           · have:=HY.out.1.set_same i (.int .i64 1);rw [HS.out] at this;exact this
           · exact HY.out.2.1.trans (Fr.set1 _ _ _ _)
         | false =>
          go_wp2_with fail
          go_roundg (P.cos.length - (k+1))
          case measure=>omega
          case rel=>exact ⟨k+1,v,by omega,rfl,by simp,by rw [HY.out.2.2,HKS.out,hq3,hq1,hq2];rfl,HY.out.1,HY.out.2.1⟩
       | false =>
        cases hq3:(xr == (i:Int)) with
        | true =>
         go_wp2_with fail
         go_roundg (P.cos.length - (k+1))
         case measure=>omega
         case rel =>
          refine ⟨k+1,1,by omega,rfl,by simp,by rw [HY.out.2.2,HKS.out,hq3];rfl,?_,?_⟩
          · have:=HY.out.1.set_same i (.int .i64 1);rw [HS.out] at this;exact this
          · exact HY.out.2.1.trans (Fr.set1 _ _ _ _)
        | false =>
         go_wp2_with fail
         go_roundg (P.cos.length - (k+1))
         case measure=>omega
         case rel=>exact ⟨k+1,v,by omega,rfl,by simp,by rw [HY.out.2.2,HKS.out,hq3,hq1];rfl,HY.out.1,HY.out.2.1⟩
     · have hkk:k=P.cos.length:=by omega
       subst hkk;have hnlt:¬ ((P.cos.length:Int)<(P.cos.length:Int)):=by omega
       rw [List.take_length] at hv;have hvK:v=K.getD i 0:=by rw [HZ.out.2.2.2.2.1 i hil];exact hv
       have HE:=Lib.hid (And.intro hvK (And.intro hrow hfr));clear hv hvK hrow hfr;go_wp2_with fail
       go_roundg (n - (i+1))
       case measure=>omega
       case rel =>
        refine ⟨i+1,L.set i v,by omega,rfl,by simp,by rw [List.length_set];exact HX.out.1,fun t ht=>?_,HE.out.2.1,HE.out.2.2⟩;rw [List.getD_eq_getElem?_getD,List.getElem?_set];by_cases e:i=t
        · subst e;rw [if_pos rfl,if_pos (by rw [HX.out.1];exact hil),if_pos (by omega)];exact HE.out.1
        · rw [if_neg e,← List.getD_eq_getElem?_getD,HX.out.2.1 t ht];by_cases h:t<i
          · rw [if_pos h,if_pos (by omega)]
          · rw [if_neg h,if_neg (by omega)]
  · have hii:i=n:=by omega
    subst hii;have hnlt:¬ ((i:Int)<(i:Int)):=by omega
    have hLK:L=K:=by
     refine List.ext_getElem? fun t=>?_;by_cases ht:t<i
     · have:=hLg t ht;rw [if_pos ht,List.getD_eq_getElem?_getD,List.getElem?_eq_getElem (by omega),List.getD_eq_getElem?_getD,List.getElem?_eq_getElem (by rw [HZ.out.2.2.2.1];exact ht)] at this;rw [List.getElem?_eq_getElem (by omega),List.getElem?_eq_getElem (by rw [HZ.out.2.2.2.1];exact ht)];exact congrArg some this
     · rw [List.getElem?_eq_none (by omega),List.getElem?_eq_none (by rw [HZ.out.2.2.2.1];omega)]
    rw [hLK] at hrow;have HE:=Lib.hid (And.intro hrow (HR.out.2.then hfr fun x h e=>by have:=HKB.out;omega));clear hrow hfr hLg hLK;go_wp2_with fail
    go_ret
    exact ⟨kb,rfl,HE.out.1,by have:=HKB.out;omega,HE.out.2⟩
end
end Go.Proofs.YtlbomnbpahmphaaGreat
