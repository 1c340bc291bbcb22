/- Walk: the document's check of code, whole: 'Valid' answers as the program's. Conditions: the program lies at its slices; a list of labels is not too long. -/
import Derived.Test.YtlbomnbpahmphaaGreatD46
import Derived.Test.YtlbomnbpahmphaaGreatD37
import Derived.Test.YtlbomnbpahmphaaGreatD23
set_option maxRecDepth 100000
set_option maxHeartbeats 4000000
namespace Go.Proofs.YtlbomnbpahmphaaGreat
open Go.RowKit
theorem right_eq (kinds:List Int) (nc:Nat) (kind:Int) (f:List In):rightS kinds nc kind f=(shapeOkS kinds nc kind f && waysS f kind):=by
 unfold rightS shapeOkS;split
 · rfl
 · split
   · rename_i h;rw [h,Bool.true_and]
   · rename_i h;rw [show f.all (oneS kinds nc f.length kind)=false by simpa using h]
     rfl
section
variable {base:Nat} {P:Pr} {w:World}
theorem rvalid_c (fo:Option Addr) (fc:Nat) (co:Option Addr) (cc:Nat) (hf:FunsAt base w fo P.funs) (hco:CosB base w co P.cos) (hb:base≤w.heap.size) (hL:∀ f∈P.funs,∀ x∈f,x.l.length≤17592186043904) :
 Calls Tryz.prog 9 #[.agg #[.slice fo P.funs.length fc,.slice co P.cos.length cc]] w fun e w'=>e=.returned (.bool (validS P))∧Fr Non w w':=by
 obtain ⟨R,hR⟩:∃ R,R=validS P:=⟨_,rfl⟩;rw [← hR];unfold validS at hR;have HH:=Lib.hid (And.intro hf (And.intro hco (And.intro hL (And.intro hb hR))));clear hf hco hL hR hb;by_cases hn:65536<P.funs.length
 · have hn1:(65536:Int)<(P.funs.length:Int):=by omega
   go_enter Tryz.func9,Tryz.ntmps9
   go_wp2_with fail
   go_ret
   exact ⟨by rw [HH.out.2.2.2.2,if_pos (Or.inl hn)];rfl,by exact fx⟩
 have hn1:¬ (65536:Int)<(P.funs.length:Int):=by omega
 by_cases hc:65536<P.cos.length
 · have hc1:(65536:Int)<(P.cos.length:Int):=by omega
   go_enter Tryz.func9,Tryz.ntmps9
   go_wp2_with fail
   go_ret
   exact ⟨by rw [HH.out.2.2.2.2,if_pos (Or.inr hc)];rfl,by exact fx⟩
 have hc1:¬ (65536:Int)<(P.cos.length:Int):=by omega
 have hR1:=HH.out.2.2.2.2;rw [if_neg (by omega)] at hR1;have HK:=Lib.hid fun w1 (g:Fr Non w w1)=>rkinds_c fo fc co cc (HH.out.2.1.fr g (fun _ h=>h.elim)) (P:=P) (by omega) (by omega);have HR:=Lib.hid hR1;clear hR1;go_enter Tryz.func9,Tryz.ntmps9
 go_wp2_with fail
 refine (HK.out _ (by exact fx)).mono ?_;rintro e1 w1 ⟨g,rfl,hr,hg,hf⟩;have hgl:=hr.lt;have hs1:=hf.size;have b0:=hf.new_cell (by simp [Non]) (o:=0) rfl;have b1:=hf.new_cell (by simp [Non]) (o:=1) rfl;have HF:Hid (Fr Non w w1):=Lib.hid (Fr.trans (by exact fx) hf);have hkl:=kinds_len P;have HG:=Lib.hid (And.intro hr hkl);generalize kindsS P=kinds at *;simp only [World.size_alloc] at hs1 hg;clear hr hf HK;clear hkl;go_wp2_with fail
 go_loopg [4] P.cos.length (fun q v wq=>∃ i:Nat,i≤P.cos.length∧q=P.cos.length - i∧v=.int .i64 i∧(∀ t,t<i→∀ x,P.cos[t]?=some x→coroutineS kinds x=true)∧Fr Non w1 wq)
 case atStart=>exact ⟨0,Nat.zero_le _,rfl,rfl,fun t ht=>(by omega),Fr.refl _ _⟩
 case round =>
  obtain ⟨i,hi,rfl,rfl,hall,hfr⟩:=hrel;have hi0:(0:Int)≤(i:Int):=by omega
  have hwr:=hfr.size;have d0:=hfr.cell b0 id;have d1':=hfr.cell b1 id;have hwlt:w.heap.size<wr.heap.size:=by omega
  have hglt:g<wr.heap.size:=by omega
  by_cases hil:i<P.cos.length
  · have hil':(i:Int)<(P.cos.length:Int):=by omega
    obtain ⟨cb,oo,eco,hcs⟩:=HH.out.2.1 (by omega);subst eco;obtain ⟨x,hx⟩:∃ x,P.cos[i]?=some x:=⟨P.cos[i],List.getElem?_eq_getElem hil⟩;obtain ⟨g0,g1,g2,g3,g4⟩:=crs_get hx;have hfw:=HF.out.trans hfr;have c0:=hfw.cell (hcs _ _ g0).2 id;have c1:=hfw.cell (hcs _ _ g1).2 id;have c2:=hfw.cell (hcs _ _ g2).2 id;have c3:=hfw.cell (hcs _ _ g3).2 id;have c4:=hfw.cell (hcs _ _ g4).2 id;rw [← Nat.add_assoc] at c1 c2 c3 c4;have hwi:IntKind.i64.wrap ((i:Int)+1)=(i:Int)+1:=IntWalk.i64_in _ (by omega);have HX:=Lib.hid (And.intro hall (And.intro hfr hx));clear hall hfr hcs g0 g1 g2 g3 g4 hx hfw;obtain ⟨xn,xr,xc,xw,xa⟩:=x;simp only at c0 c1 c2 c3 c4;by_cases hd1:xr<0
    · have d1:decide (xr<0)=true:=decide_eq_true hd1
      have hno:coroutineS kinds ⟨xn,xr,xc,xw,xa⟩=false:=by
       unfold coroutineS;rw [HG.out.2];split
       · rfl
       · rename_i hq;simp only [Bool.or_eq_true,Bool.not_eq_true',not_or,Bool.not_eq_false] at hq;obtain ⟨⟨q1,q2⟩,q3⟩:=hq;have q1:=withinS_iff.1 q1;have q2:=withinS_iff.1 q2
         first
          | (exfalso;omega)
          | (exfalso;apply q3;simp only [Int.toNat_natCast];rw [← HKQ.out];exact d5)
          | (rw [Bool.eq_false_iff];intro hz;simp only [Bool.and_eq_true,decide_eq_true_eq] at hz;have:=withinS_iff.1 hz.2;omega)
      have hRf:R=false:=by rw [HR.out,show P.cos.all (coroutineS kinds)=false from List.all_eq_false.2 ⟨_,List.mem_of_getElem? HX.out.2.2,by rw [hno];simp⟩];rfl
      have HRF:=Lib.hid hRf;clear hno hRf;go_wp2_with fail
      go_ret
      exact ⟨by rw [HRF.out];rfl,by exact (HF.out.trans HX.out.2.1).alloc _⟩
    have d1:decide (xr<0)=false:=decide_eq_false hd1;by_cases hd2:(P.funs.length:Int)≤xr
    · have d2:decide ((P.funs.length:Int)≤xr)=true:=decide_eq_true hd2
      have hno:coroutineS kinds ⟨xn,xr,xc,xw,xa⟩=false:=by
       unfold coroutineS;rw [HG.out.2];split
       · rfl
       · rename_i hq;simp only [Bool.or_eq_true,Bool.not_eq_true',not_or,Bool.not_eq_false] at hq;obtain ⟨⟨q1,q2⟩,q3⟩:=hq;have q1:=withinS_iff.1 q1;have q2:=withinS_iff.1 q2
         first
          | (exfalso;omega)
          | (exfalso;apply q3;simp only [Int.toNat_natCast];rw [← HKQ.out];exact d5)
          | (rw [Bool.eq_false_iff];intro hz;simp only [Bool.and_eq_true,decide_eq_true_eq] at hz;have:=withinS_iff.1 hz.2;omega)
      have hRf:R=false:=by rw [HR.out,show P.cos.all (coroutineS kinds)=false from List.all_eq_false.2 ⟨_,List.mem_of_getElem? HX.out.2.2,by rw [hno];simp⟩];rfl
      have HRF:=Lib.hid hRf;clear hno hRf;go_wp2_with fail
      go_ret
      exact ⟨by rw [HRF.out];rfl,by exact (HF.out.trans HX.out.2.1).alloc _⟩
    have d2:decide ((P.funs.length:Int)≤xr)=false:=decide_eq_false hd2;by_cases hd3:xc<0
    · have d3:decide (xc<0)=true:=decide_eq_true hd3
      have hno:coroutineS kinds ⟨xn,xr,xc,xw,xa⟩=false:=by
       unfold coroutineS;rw [HG.out.2];split
       · rfl
       · rename_i hq;simp only [Bool.or_eq_true,Bool.not_eq_true',not_or,Bool.not_eq_false] at hq;obtain ⟨⟨q1,q2⟩,q3⟩:=hq;have q1:=withinS_iff.1 q1;have q2:=withinS_iff.1 q2
         first
          | (exfalso;omega)
          | (exfalso;apply q3;simp only [Int.toNat_natCast];rw [← HKQ.out];exact d5)
          | (rw [Bool.eq_false_iff];intro hz;simp only [Bool.and_eq_true,decide_eq_true_eq] at hz;have:=withinS_iff.1 hz.2;omega)
      have hRf:R=false:=by rw [HR.out,show P.cos.all (coroutineS kinds)=false from List.all_eq_false.2 ⟨_,List.mem_of_getElem? HX.out.2.2,by rw [hno];simp⟩];rfl
      have HRF:=Lib.hid hRf;clear hno hRf;go_wp2_with fail
      go_ret
      exact ⟨by rw [HRF.out];rfl,by exact (HF.out.trans HX.out.2.1).alloc _⟩
    have d3:decide (xc<0)=false:=decide_eq_false hd3;by_cases hd4:(P.funs.length:Int)≤xc
    · have d4:decide ((P.funs.length:Int)≤xc)=true:=decide_eq_true hd4
      have hno:coroutineS kinds ⟨xn,xr,xc,xw,xa⟩=false:=by
       unfold coroutineS;rw [HG.out.2];split
       · rfl
       · rename_i hq;simp only [Bool.or_eq_true,Bool.not_eq_true',not_or,Bool.not_eq_false] at hq;obtain ⟨⟨q1,q2⟩,q3⟩:=hq;have q1:=withinS_iff.1 q1;have q2:=withinS_iff.1 q2
         first
          | (exfalso;omega)
          | (exfalso;apply q3;simp only [Int.toNat_natCast];rw [← HKQ.out];exact d5)
          | (rw [Bool.eq_false_iff];intro hz;simp only [Bool.and_eq_true,decide_eq_true_eq] at hz;have:=withinS_iff.1 hz.2;omega)
      have hRf:R=false:=by rw [HR.out,show P.cos.all (coroutineS kinds)=false from List.all_eq_false.2 ⟨_,List.mem_of_getElem? HX.out.2.2,by rw [hno];simp⟩];rfl
      have HRF:=Lib.hid hRf;clear hno hRf;go_wp2_with fail
      go_ret
      exact ⟨by rw [HRF.out];rfl,by exact (HF.out.trans HX.out.2.1).alloc _⟩
    have d4:decide ((P.funs.length:Int)≤xc)=false:=decide_eq_false hd4;obtain ⟨ck,rfl⟩:=Int.eq_ofNat_of_zero_le (show 0≤xc by omega);have hck0:(0:Int)≤(ck:Int):=by omega
    have hck1:(ck:Int)<(P.funs.length:Int):=by omega
    have hck2:ck<P.funs.length:=by omega
    have hkk:=(HX.out.2.1.row HG.out.1 id).cell (o:=ck) (v:=.int .i64 (kinds.getD ck 0)) (by simp [ints,HG.out.2,hck2]);obtain ⟨kk,hkq⟩:∃ kk,kk=kinds.getD ck 0:=⟨_,rfl⟩;rw [← hkq] at hkk;have HKQ:=Lib.hid hkq;clear hkq;cases d5:(kk != 2) with
    | true =>
     have hno:coroutineS kinds ⟨xn,xr,(ck:Int),xw,xa⟩=false:=by
      unfold coroutineS;rw [HG.out.2];split
      · rfl
      · rename_i hq;simp only [Bool.or_eq_true,Bool.not_eq_true',not_or,Bool.not_eq_false] at hq;obtain ⟨⟨q1,q2⟩,q3⟩:=hq;have q1:=withinS_iff.1 q1;have q2:=withinS_iff.1 q2
        first
         | (exfalso;omega)
         | (exfalso;apply q3;simp only [Int.toNat_natCast];rw [← HKQ.out];exact d5)
         | (rw [Bool.eq_false_iff];intro hz;simp only [Bool.and_eq_true,decide_eq_true_eq] at hz;have:=withinS_iff.1 hz.2;omega)
     have hRf:R=false:=by rw [HR.out,show P.cos.all (coroutineS kinds)=false from List.all_eq_false.2 ⟨_,List.mem_of_getElem? HX.out.2.2,by rw [hno];simp⟩];rfl
     have HRF:=Lib.hid hRf;clear hno hRf;go_wp2_with fail
     go_ret
     exact ⟨by rw [HRF.out];rfl,by exact (HF.out.trans HX.out.2.1).alloc _⟩
    | false =>
     by_cases hd6:xw<3
     · have d6:decide (xw<3)=true:=decide_eq_true hd6
       have hno:coroutineS kinds ⟨xn,xr,(ck:Int),xw,xa⟩=false:=by
        unfold coroutineS;rw [HG.out.2];split
        · rfl
        · rename_i hq;simp only [Bool.or_eq_true,Bool.not_eq_true',not_or,Bool.not_eq_false] at hq;obtain ⟨⟨q1,q2⟩,q3⟩:=hq;have q1:=withinS_iff.1 q1;have q2:=withinS_iff.1 q2
          first
           | (exfalso;omega)
           | (exfalso;apply q3;simp only [Int.toNat_natCast];rw [← HKQ.out];exact d5)
           | (rw [Bool.eq_false_iff];intro hz;simp only [Bool.and_eq_true,decide_eq_true_eq] at hz;have:=withinS_iff.1 hz.2;omega)
       have hRf:R=false:=by rw [HR.out,show P.cos.all (coroutineS kinds)=false from List.all_eq_false.2 ⟨_,List.mem_of_getElem? HX.out.2.2,by rw [hno];simp⟩];rfl
       have HRF:=Lib.hid hRf;clear hno hRf;go_wp2_with fail
       go_ret
       exact ⟨by rw [HRF.out];rfl,by exact (HF.out.trans HX.out.2.1).alloc _⟩
     have d6:decide (xw<3)=false:=decide_eq_false hd6;by_cases hd7:(1048576:Int)<xw
     · have d7:decide ((1048576:Int)<xw)=true:=decide_eq_true hd7
       have hno:coroutineS kinds ⟨xn,xr,(ck:Int),xw,xa⟩=false:=by
        unfold coroutineS;rw [HG.out.2];split
        · rfl
        · rename_i hq;simp only [Bool.or_eq_true,Bool.not_eq_true',not_or,Bool.not_eq_false] at hq;obtain ⟨⟨q1,q2⟩,q3⟩:=hq;have q1:=withinS_iff.1 q1;have q2:=withinS_iff.1 q2
          first
           | (exfalso;omega)
           | (exfalso;apply q3;simp only [Int.toNat_natCast];rw [← HKQ.out];exact d5)
           | (rw [Bool.eq_false_iff];intro hz;simp only [Bool.and_eq_true,decide_eq_true_eq] at hz;have:=withinS_iff.1 hz.2;omega)
       have hRf:R=false:=by rw [HR.out,show P.cos.all (coroutineS kinds)=false from List.all_eq_false.2 ⟨_,List.mem_of_getElem? HX.out.2.2,by rw [hno];simp⟩];rfl
       have HRF:=Lib.hid hRf;clear hno hRf;go_wp2_with fail
       go_ret
       exact ⟨by rw [HRF.out];rfl,by exact (HF.out.trans HX.out.2.1).alloc _⟩
     have d7:decide ((1048576:Int)<xw)=false:=decide_eq_false hd7;by_cases hd8:xa<0
     · have d8:decide (xa<0)=true:=decide_eq_true hd8
       have hno:coroutineS kinds ⟨xn,xr,(ck:Int),xw,xa⟩=false:=by
        unfold coroutineS;rw [HG.out.2];split
        · rfl
        · rename_i hq;simp only [Bool.or_eq_true,Bool.not_eq_true',not_or,Bool.not_eq_false] at hq;obtain ⟨⟨q1,q2⟩,q3⟩:=hq;have q1:=withinS_iff.1 q1;have q2:=withinS_iff.1 q2
          first
           | (exfalso;omega)
           | (exfalso;apply q3;simp only [Int.toNat_natCast];rw [← HKQ.out];exact d5)
           | (rw [Bool.eq_false_iff];intro hz;simp only [Bool.and_eq_true,decide_eq_true_eq] at hz;have:=withinS_iff.1 hz.2;omega)
       have hRf:R=false:=by rw [HR.out,show P.cos.all (coroutineS kinds)=false from List.all_eq_false.2 ⟨_,List.mem_of_getElem? HX.out.2.2,by rw [hno];simp⟩];rfl
       have HRF:=Lib.hid hRf;clear hno hRf;go_wp2_with fail
       go_ret
       exact ⟨by rw [HRF.out];rfl,by exact (HF.out.trans HX.out.2.1).alloc _⟩
     have d8:decide (xa<0)=false:=decide_eq_false hd8;have hws:IntKind.i64.wrap (xw - 3)=xw - 3:=IntWalk.i64_in _ (by omega);by_cases hd9:xw - 3<xa
     · have d9:decide (xw - 3<xa)=true:=decide_eq_true hd9
       have hno:coroutineS kinds ⟨xn,xr,(ck:Int),xw,xa⟩=false:=by
        unfold coroutineS;rw [HG.out.2];split
        · rfl
        · rename_i hq;simp only [Bool.or_eq_true,Bool.not_eq_true',not_or,Bool.not_eq_false] at hq;obtain ⟨⟨q1,q2⟩,q3⟩:=hq;have q1:=withinS_iff.1 q1;have q2:=withinS_iff.1 q2
          first
           | (exfalso;omega)
           | (exfalso;apply q3;simp only [Int.toNat_natCast];rw [← HKQ.out];exact d5)
           | (rw [Bool.eq_false_iff];intro hz;simp only [Bool.and_eq_true,decide_eq_true_eq] at hz;have:=withinS_iff.1 hz.2;omega)
       have hRf:R=false:=by rw [HR.out,show P.cos.all (coroutineS kinds)=false from List.all_eq_false.2 ⟨_,List.mem_of_getElem? HX.out.2.2,by rw [hno];simp⟩];rfl
       have HRF:=Lib.hid hRf;clear hno hRf;go_wp2_with fail
       go_ret
       exact ⟨by rw [HRF.out];rfl,by exact (HF.out.trans HX.out.2.1).alloc _⟩
     have d9:decide (xw - 3<xa)=false:=decide_eq_false hd9
     have hyes:coroutineS kinds ⟨xn,xr,ck,xw,xa⟩=true:=by
      unfold coroutineS
      rw [HG.out.2,if_neg (by
       simp only [Bool.or_eq_true,Bool.not_eq_true',not_or,Bool.not_eq_false];refine ⟨⟨withinS_iff.2 ⟨by omega,by omega⟩,withinS_iff.2 ⟨by omega,by omega⟩⟩,?_⟩;simp only [Int.toNat_natCast];rw [← HKQ.out,d5]
       simp)]
      simp only [Bool.and_eq_true,decide_eq_true_eq];exact ⟨⟨by omega,by omega⟩,withinS_iff.2 ⟨by omega,by omega⟩⟩
     have HYES:=Lib.hid hyes;clear hyes;go_wp2_with fail
     go_roundg (P.cos.length - (i+1))
     case measure=>omega
     case rel =>
      refine ⟨i+1,by omega,by simp,by simp,fun t ht z hz=>?_,by exact HX.out.2.1.alloc _⟩;rcases Nat.lt_succ_iff_lt_or_eq.1 ht with h|rfl
      · exact HX.out.1 t h z hz
      · rw [HX.out.2.2] at hz;cases hz
        exact HYES.out
  · have hii:i=P.cos.length:=by omega
    subst hii
    have hall2:P.cos.all (coroutineS kinds)=true:=by
     rw [List.all_eq_true];intro y hy;obtain ⟨t,ht,rfl⟩:=List.getElem_of_mem hy;exact hall t (by omega) _ (List.getElem?_eq_getElem ht)
    have HR2:Hid (R=rightsS kinds P.cos.length 0 P.funs):=Lib.hid (by rw [HR.out,hall2];rfl);have hnlt:¬ ((P.cos.length:Int)<(P.cos.length:Int)):=by omega
    have HF2:=Lib.hid hfr;clear hall hall2 hfr hil hi hi0 HR;go_wp2_with fail
    go_loopg [6] P.funs.length (fun q v wq=>∃ i:Nat,i≤P.funs.length∧q=P.funs.length - i∧v=.int .i64 i∧(∀ t,t<i→∀ f,P.funs[t]?=some f→rightS kinds P.cos.length (kinds.getD t 0) f=true)∧Fr Non w1 wq)
    case atStart=>exact ⟨0,Nat.zero_le _,rfl,rfl,fun t ht=>(by omega),HF2.out⟩
    case round =>
     obtain ⟨i,hi,rfl,rfl,hall,hfr⟩:=hrel;have hi0:(0:Int)≤(i:Int):=by omega
     have e0:=hfr.cell b0 id;have e1:=hfr.cell b1 id;clear d0 d1';by_cases hil:i<P.funs.length
     · have hil':(i:Int)<(P.funs.length:Int):=by omega
       obtain ⟨f,hfi⟩:∃ f,P.funs[i]?=some f:=⟨P.funs[i],List.getElem?_eq_getElem hil⟩;obtain ⟨fb,off,io,ic,eco,c0',hin⟩:=HH.out.1 i f hfi;subst eco;have hfw:=HF.out.trans hfr;have hwi:IntKind.i64.wrap ((i:Int)+1)=(i:Int)+1:=IntWalk.i64_in _ (by omega);have hLf:=HH.out.2.2.1 f (List.mem_of_getElem? hfi);have hsh:=Lib.hid (rshape_c (some ⟨fb,off,none⟩) fc co cc (HH.out.1.fr hfw (high_non _)) g P.funs.length (hfr.row HG.out.1 id) HG.out.2 i f hfi hLf);have HC0:=Lib.hid (And.intro c0'.2 hin);have HX:=Lib.hid (And.intro hall (And.intro hfr hfi));clear hall hfr hin hfi hfw c0';obtain ⟨kd,hkd⟩:∃ kd,kd=kinds.getD i 0:=⟨_,rfl⟩;rw [← hkd] at hsh;rw [HG.out.2] at hsh;have HKD:=Lib.hid hkd;clear hkd;go_wp2_with fail
       refine hsh.out.mono ?_;rintro e2 w2 ⟨rfl,hf2⟩;have hf12:=HX.out.2.1.trans hf2;have HF3:=Lib.hid hf12;have k0:=hf12.cell b0 id;have k1:=hf12.cell b1 id;have c0:=(HF.out.trans hf12).cell HC0.out.1 id;have r0:=(hf12.row HG.out.1 id).cell (o:=i) (v:=.int .i64 kd) (by simp [ints,HKD.out,HG.out.2,hil]);have l1:=World.block_lt_of_cell? _ _ k0;have l2:=World.block_lt_of_cell? _ _ c0;have l3:=World.block_lt_of_cell? _ _ r0;simp only at l1 l2 l3;clear hf2 hf12 e0 e1 hsh;have hre:=right_eq kinds P.cos.length kd f;have HRE:=Lib.hid hre;clear hre
       have hbadR:Hid (rightS kinds P.cos.length kd f=false→R=false):=Lib.hid fun h=>by
        rw [HR2.out,Bool.eq_false_iff];intro hz;have:=(rights_all kinds P.cos.length P.funs 0).1 hz i f HX.out.2.2;rw [Nat.zero_add,← HKD.out,h] at this;cases this
       cases hso:shapeOkS kinds P.cos.length kd f with
       | false =>
        have hRf:R=false:=hbadR.out (by rw [HRE.out,hso];rfl);have HRF:=Lib.hid hRf;clear hRf;go_wp2_with fail
        have cW:=@Mix.cls_drew w2 [w.heap.size,fb,g];refine Mix.wp_region_mix [4,7,11] ((0,0) :: (0,1) :: (0,2) :: (0,3) :: (1,4) :: (0,5) :: (0,6) :: (1,7) :: (0,8) :: (0,9) :: (0,10) :: (1,11) :: (2,12) :: (0,13) :: (0,14) :: []) (fun U=>∃ g0,U=Mix.upon w2 [w.heap.size,fb,g] g0) (by kernel_rfl) (by kernel_rfl) cW ?_;clear cW;refine Mix.Wq.out ?_;refine Mix.q_pure rfl rfl ?_;intro K hK;simp only [nA,nB]
        go_big_quiet_op
        go_big_quiet_on
        refine Mix.q_pure rfl rfl ?_;intro K hK;simp only [nA,nB,nC]
        go_big_quiet_op
        go_big_quiet_on
        refine Mix.q_pure rfl rfl ?_;intro K hK;simp only [nA,nB,nC]
        go_big_quiet_op
        go_big_quiet_on
        refine Mix.q_skip0 rfl rfl ?_;simp only [nA,nB,nC];simp only [Act.put,List.setIfInBounds_toArray,List.set_cons_succ,List.set_cons_zero];refine Mix.q_skip1 rfl rfl ?_;simp only [nA,nB,nC];simp only [Act.put,List.setIfInBounds_toArray,List.set_cons_succ,List.set_cons_zero];refine Mix.q_skip0 rfl rfl ?_;simp only [nA,nB,nC];simp only [Act.put,List.setIfInBounds_toArray,List.set_cons_succ,List.set_cons_zero];refine Mix.q_skip0 rfl rfl ?_;simp only [nA,nB,nC];simp only [Act.put,List.setIfInBounds_toArray,List.set_cons_succ,List.set_cons_zero];refine Mix.q_skip1 rfl rfl ?_;simp only [nA,nB,nC];simp only [Act.put,List.setIfInBounds_toArray,List.set_cons_succ,List.set_cons_zero];refine Mix.q_skip0 rfl rfl ?_;simp only [nA,nB,nC];simp only [Act.put,List.setIfInBounds_toArray,List.set_cons_succ,List.set_cons_zero];refine Mix.q_skip0 rfl rfl ?_;simp only [nA,nB,nC];simp only [Act.put,List.setIfInBounds_toArray,List.set_cons_succ,List.set_cons_zero];refine Mix.q_skip0 rfl rfl ?_;simp only [nA,nB,nC];simp only [Act.put,List.setIfInBounds_toArray,List.set_cons_succ,List.set_cons_zero];refine Mix.q_skip1 rfl rfl ?_;simp only [nA,nB,nC];simp only [Act.put,List.setIfInBounds_toArray,List.set_cons_succ,List.set_cons_zero];refine Mix.q_skip2 rfl rfl ?_;simp only [nA,nB,nC];simp only [Act.put,List.setIfInBounds_toArray,List.set_cons_succ,List.set_cons_zero];refine Mix.q_skip0 rfl rfl ?_;simp only [nA,nB,nC];simp only [Act.put,List.setIfInBounds_toArray,List.set_cons_succ,List.set_cons_zero];refine Mix.q_pure rfl rfl ?_;intro K hK;simp only [nA,nB,nC]
        go_big_quiet_op
        go_big_quiet_on
        refine ⟨Mix.S_done ?_⟩;go_wp2_with fail
        go_ret
        exact ⟨by rw [HRF.out];rfl,(HF.out.trans HF3.out).trans (by exact fx)⟩
       | true =>
        have hfo:FnOk f:=by
         have h:=hso;unfold shapeOkS at h;split at h
         · cases h
         · rename_i hq;simp only [not_or,Nat.not_lt,Bool.not_eq_true] at hq;exact fn_ok (by omega) hq.2.1 hq.2.2 h (HH.out.2.2.1 f (List.mem_of_getElem? HX.out.2.2))
        have hWr:=Lib.hid fun w3 (q:Fr Non w w3)=>written_c (kind:=kd) io ic (HC0.out.2.fr q (high_non _)) (by have:=q.size;have:=HH.out.2.2.2.1;omega) hfo;clear hfo;go_wp2_with fail
        have cW:=@Mix.cls_drew w2 [w.heap.size,fb,g];refine Mix.wp_region_mix [4,7,11] ((0,0) :: (0,1) :: (0,2) :: (0,3) :: (1,4) :: (0,5) :: (0,6) :: (1,7) :: (0,8) :: (0,9) :: (0,10) :: (1,11) :: (2,12) :: (0,13) :: (0,14) :: []) (fun U=>∃ g0,U=Mix.upon w2 [w.heap.size,fb,g] g0) (by kernel_rfl) (by kernel_rfl) cW ?_;clear cW;refine Mix.Wq.out ?_;refine Mix.q_pure rfl rfl ?_;intro K hK;simp only [nA,nB]
        go_big_quiet_op
        go_big_quiet_on
        refine Mix.q_pure rfl rfl ?_;intro K hK;simp only [nA,nB,nC]
        go_big_quiet_op
        go_big_quiet_on
        refine Mix.q_pure rfl rfl ?_;intro K hK;simp only [nA,nB,nC]
        go_big_quiet_op
        go_big_quiet_on
        refine Mix.q_pure rfl rfl ?_;intro K hK;simp only [nA,nB,nC]
        go_big_quiet_op
        go_big_quiet_on
        refine Mix.q_load rfl rfl ?_;intro K hK;simp only [nA,nB,nC]
        go_big_quiet_op
        go_big_quiet_on
        refine Mix.q_pure rfl rfl ?_;intro K hK;simp only [nA,nB,nC]
        go_big_quiet_op
        go_big_quiet_on
        refine Mix.q_pure rfl rfl ?_;intro K hK;simp only [nA,nB,nC]
        go_big_quiet_op
        go_big_quiet_on
        refine Mix.q_load rfl rfl ?_;intro K hK;simp only [nA,nB,nC]
        go_big_quiet_op
        go_big_quiet_on
        refine Mix.q_pure rfl rfl ?_;intro K hK;simp only [nA,nB,nC]
        go_big_quiet_op
        go_big_quiet_on
        refine Mix.q_pure rfl rfl ?_;intro K hK;simp only [nA,nB,nC]
        go_big_quiet_op
        go_big_quiet_on
        refine Mix.q_pure rfl rfl ?_;intro K hK;simp only [nA,nB,nC]
        go_big_quiet_op
        go_big_quiet_on
        refine Mix.q_load rfl rfl ?_;intro K hK;simp only [nA,nB,nC]
        go_big_quiet_op
        go_big_quiet_on
        refine Mix.q_eff rfl rfl ?_;intro K hK;simp only [nA,nB,nC];go_simp;refine (hWr.out _ ((HF.out.trans HF3.out).trans (by exact (Fr.refl _ _).drew))).mono ?_;rintro e9 w3 ⟨rfl,hf3⟩;refine hK _ _ ⟨Mix.cls_fr (D:=Non) hf3 (by simp [Non];omega),?_⟩;clear hK K;have hf3':Fr Non w2 w3:=Fr.trans (by exact (Fr.refl _ _).drew) hf3;have HF4:=Lib.hid (HF3.out.trans hf3');clear hf3 hf3' hWr;cases hwy:waysS f kd with
        | false =>
         have hRf:R=false:=hbadR.out (by rw [HRE.out,hso,hwy];rfl);have HRF:=Lib.hid hRf;clear hRf;refine Mix.q_pure rfl rfl ?_;intro K hK;simp only [nA,nB,nC]
         go_big_quiet_op
         go_big_quiet_on
         refine Mix.q_pure rfl rfl ?_;intro K hK;simp only [nA,nB,nC]
         go_big_quiet_op
         go_big_quiet_on
         refine ⟨Mix.S_done ?_⟩;go_wp2_with fail
         go_ret
         exact ⟨by rw [HRF.out];rfl,HF.out.trans HF4.out⟩
        | true =>
         have HOK:=Lib.hid (HRE.out.trans (by rw [hso,hwy];rfl):rightS kinds P.cos.length kd f=true);refine Mix.q_pure rfl rfl ?_;intro K hK;simp only [nA,nB,nC]
         go_big_quiet_op
         go_big_quiet_on
         refine Mix.q_pure rfl rfl ?_;intro K hK;simp only [nA,nB,nC]
         go_big_quiet_op
         go_big_quiet_on
         refine ⟨Mix.S_done ?_⟩;go_wp2_with fail
         go_roundg (P.funs.length - (i+1))
         case measure=>omega
         case rel =>
          refine ⟨i+1,by omega,by simp,by simp,fun t ht z hz=>?_,HF4.out⟩;rcases Nat.lt_succ_iff_lt_or_eq.1 ht with h|rfl
          · exact HX.out.1 t h z hz
          · rw [HX.out.2.2] at hz;cases hz
            rw [← HKD.out];exact HOK.out
     · have hii:i=P.funs.length:=by omega
       subst hii
       have hall2:rightsS kinds P.cos.length 0 P.funs=true:=by
        rw [rights_all];intro t f hf;rw [Nat.zero_add];exact hall t (List.getElem?_eq_some_iff.1 hf).1 f hf
       have hnlt2:¬ ((P.funs.length:Int)<(P.funs.length:Int)):=by omega
       have HF3:=Lib.hid (HF.out.trans hfr);clear hall hfr hi hi0;go_wp2_with fail
       go_ret
       exact ⟨by rw [HR2.out,hall2];rfl,HF3.out⟩
end
end Go.Proofs.YtlbomnbpahmphaaGreat
