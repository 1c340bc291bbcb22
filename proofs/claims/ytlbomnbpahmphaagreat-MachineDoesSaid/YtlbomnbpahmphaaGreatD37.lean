/- Walk: the document's 'shape': may a function's instructions be, one by one. Conditions: the program lies at its slices; as many kinds as functions. -/
import Derived.Deep.LoopGhost
import Derived.Deep.CutRange
import Derived.Test.YtlbomnbpahmphaaGreatD23
import Derived.Test.YtlbomnbpahmphaaGreatD18
import Derived.Test.YtlbomnbpahmphaaGreatD03
set_option maxRecDepth 100000
set_option maxHeartbeats 4000000
namespace Go.Proofs.YtlbomnbpahmphaaGreat
open Go.RowKit
namespace Mix
section
open Go
variable {P:Program} {ops:Array Oper} {C:World→Prop} {Q:Act→World→Prop} {a:Act} {w:World} {o:Oper} {i:Nat} {s:List (Nat × Nat)}
structure Wq (P:Program) (ops:Array Oper) (C:World→Prop) (Q:Act→World→Prop) (s:List (Nat × Nat)) (a:Act) (w:World):Prop where
 out:wpS P ops C Q s a w
theorem q_pure (ho:ops[i]?=some o) (hw:Region.wanted o (yielded ops a.tmps)=true) (h:∀ K:Act→Prop,(∀ a,Wq P ops C Q s a w→K a)→o.quiet P a (fun _=>True) K):Wq P ops C Q ((0,i) :: s) a w:=⟨S_pure ho hw fun K hK=>h K fun a ha=>hK a ha.out⟩
theorem q_load (ho:ops[i]?=some o) (hw:Region.wanted o (yielded ops a.tmps)=true) (h:∀ K:Act→Prop,(∀ a,Wq P ops C Q s a w→K a)→o.quiet P a C K):Wq P ops C Q ((1,i) :: s) a w:=⟨S_load ho hw fun K hK=>h K fun a ha=>hK a ha.out⟩
theorem q_skip0 (ho:ops[i]?=some o) (hw:Region.wanted o (yielded ops a.tmps)=false) (h:Wq P ops C Q s (a.put o.dst undef) w):Wq P ops C Q ((0,i) :: s) a w:=⟨S_skip0 ho hw h.out⟩
theorem q_skip1 (ho:ops[i]?=some o) (hw:Region.wanted o (yielded ops a.tmps)=false) (h:Wq P ops C Q s (a.put o.dst undef) w):Wq P ops C Q ((1,i) :: s) a w:=⟨S_skip1 ho hw h.out⟩
theorem q_skip2 (ho:ops[i]?=some o) (hw:Region.wanted o (yielded ops a.tmps)=false) (h:Wq P ops C Q s (a.put o.dst undef) w):Wq P ops C Q ((2,i) :: s) a w:=by
 refine ⟨?_⟩;simp only [wpS,stepN,ho,hw,Bool.false_eq_true,if_false];exact ⟨id,h.out⟩
theorem q_eff (ho:ops[i]?=some o) (hw:Region.wanted o (yielded ops a.tmps)=true) (h:∀ K:Act→World→Prop,(∀ a' w',(C w→C w')∧Wq P ops C Q s a' w'→K a' w')→o.wp P a w K NoQ):Wq P ops C Q ((2,i) :: s) a w:=⟨S_eff ho hw fun K hK=>h K fun a' w' ⟨h1,h2⟩=>hK a' w' ⟨h1,h2.out⟩⟩
end
end Mix
def shapeOkS (kinds:List Int) (nc:Nat) (kind:Int) (f:List In):Bool:=if f.length<1∨65536<f.length∨fallsS (f.getD (f.length - 1) In.zero).op then false else f.all (oneS kinds nc f.length kind)
theorem all_no {kinds:List Int} {nc nf:Nat} {kind:Int} {f:List In} {k:Nat} {x:In} (hk:kinds.length=nf) (hx:f[k]?=some x) (h:rOne kinds nf nc f.length kind x=false):f.all (oneS kinds nc f.length kind)=false:=by
 rw [one_eq hk] at h;rw [List.all_eq_false];exact ⟨x,List.mem_of_getElem? hx,by rw [h];simp⟩
section
variable {base:Nat} {P:Pr} {kinds:List Int} {w:World}
theorem rshape_c (fo:Option Addr) (fc:Nat) (co:Option Addr) (cc:Nat) (hfu:FunsAt base w fo P.funs) (kb kc:Nat) (hk:Row w kb 3 (ints kinds)) (hkl:kinds.length=P.funs.length) (i:Nat) (f:List In) (hfi:P.funs[i]?=some f) (hL:∀ x∈f,x.l.length≤17592186043904) :
 Calls Tryz.prog 34 #[.agg #[.slice fo P.funs.length fc,.slice co P.cos.length cc],.slice (some ⟨kb,0,none⟩) kinds.length kc,.int .i64 i] w fun e w'=>e=.returned (.bool (shapeOkS kinds P.cos.length (kinds.getD i 0) f))∧Fr Non w w':=by
 obtain ⟨kind,hkind⟩:∃ kind,kind=kinds.getD i 0:=⟨_,rfl⟩;rw [← hkind];obtain ⟨R,hR⟩:∃ R,R=shapeOkS kinds P.cos.length kind f:=⟨_,rfl⟩;rw [← hR];unfold shapeOkS at hR;have hil:=(List.getElem?_eq_some_iff.1 hfi).1;have hi0:(0:Int)≤(i:Int):=by omega
 have hi1:(i:Int)<(P.funs.length:Int):=by omega
 have hi2:(i:Int)<(kinds.length:Int):=by omega
 have hi3:i<kinds.length:=by omega
 obtain ⟨fb,off,io,ic,eco,c0',hin⟩:=hfu i f hfi;subst eco;have c0:=c0'.2;clear c0';have hfbl:=World.block_lt_of_cell? w _ c0;have hkc:=hk.cell (o:=i) (v:=.int .i64 kind) (by simp [ints,hkind,hi3]);have hkbl:=hk.lt;have HH:=Lib.hid (And.intro hk (And.intro hkl (And.intro hin (And.intro hL (And.intro hR hkind)))));clear hfu hk hkl hin hL hR hkind hfi;by_cases hn:f.length<1
 · have hz:f.length=0:=by omega
   have hz1:(f.length:Int)<1:=by omega
   go_enter Tryz.func34,Tryz.ntmps34
   go_wp2_with fail
   go_ret
   exact ⟨by rw [HH.out.2.2.2.2.1,if_pos (Or.inl hn)];rfl,by exact fx⟩
 have hn1:¬ (f.length:Int)<1:=by omega
 by_cases hb:65536<f.length
 · have hb1:(65536:Int)<(f.length:Int):=by omega
   go_enter Tryz.func34,Tryz.ntmps34
   go_wp2_with fail
   go_ret
   exact ⟨by rw [HH.out.2.2.2.2.1,if_pos (Or.inr (Or.inl hb))];rfl,by exact fx⟩
 have hb1:¬ (65536:Int)<(f.length:Int):=by omega
 obtain ⟨m,hm⟩:∃ m,f.length=m+1:=⟨f.length - 1,by omega⟩;obtain ⟨z,hz⟩:∃ z,f[m]?=some z:=⟨f[m],List.getElem?_eq_getElem (by omega)⟩;have hfz:f.getD (f.length - 1) In.zero=z:=by rw [hm,Nat.add_sub_cancel,List.getD_eq_getElem?_getD,hz];rfl
 obtain ⟨ib,iof,la,lc,e0,i0',i1',i2',i3',i4',i5'⟩:=HH.out.2.2.1 m z hz;subst e0;have y0:=i0'.2;have y1:=i1'.2;have y2:=i2'.2;have y3:=i3'.2;have y4:=i4'.2;have hibl:=World.block_lt_of_cell? w _ y0;have hR2:=HH.out.2.2.2.2.1;rw [hfz] at hR2;have HR:=Lib.hid hR2;have hfl:=Lib.hid fun w1=>rfalls_c w1 z la lc;clear i0' i1' i2' i3' i4' i5' hR2 hfz hz;have hw1:IntKind.i64.wrap (m:Int)=(m:Int):=IntWalk.i64_in _ (by omega);have hm0:(0:Int)≤(m:Int):=by omega
 have hm1:(m:Int)<(m:Int)+1:=by omega
 have hm2:¬ (m:Int)+1<1:=by omega
 have hm3:¬ (65536:Int)<(m:Int)+1:=by omega
 have HM:=Lib.hid (And.intro hm (And.intro hn hb));rw [hm] at c0;obtain ⟨zop,za,zb,zc,zl⟩:=z;simp only at y0 y1 y2 y3 y4 hfl HR;clear hn hb hn1 hb1 hm;go_enter Tryz.func34,Tryz.ntmps34
 go_wp2_with fail
 refine (hfl.out _).mono ?_;rintro e1 w1 ⟨rfl,hf1⟩;have rp:Row w1 w.heap.size 25 [.slice (some ⟨fb,off,none⟩) P.funs.length fc,.slice co P.cos.length cc]:=hf1.new_row id;have hf1':Fr Non w w1:=Fr.trans (by exact fx) hf1;have HF1:=Lib.hid (And.intro hf1' rp);clear hf1 hf1' rp y0 y1 y2 y3 y4 c0 hkc hfl;cases hfx:fallsS zop with
 | true =>
  go_wp2_with fail
  go_ret
  exact ⟨by rw [HR.out,if_pos (Or.inr (Or.inr hfx))];rfl,HF1.out.1⟩
 | false =>
  have HR2:=Lib.hid (show R=f.all (oneS kinds P.cos.length f.length kind) by
   rw [HR.out,if_neg (fun e=>by
    rcases e with e|e|e
    · exact HM.out.2.1 e
    · exact HM.out.2.2 e
    · rw [hfx] at e;cases e)])
  clear HR hfx;go_wp2_with fail
  go_loopg [8] (m+1) (fun q v8 wq=>∃ k:Nat,k≤m+1∧q=m+1 - k∧v8=.int .i64 k∧(∀ t,t<k→∀ x,f[t]?=some x→oneS kinds P.cos.length f.length kind x=true)∧Fr Non w1 wq)
  case atStart=>exact ⟨0,Nat.zero_le _,rfl,rfl,fun t ht=>(by omega),by exact fx⟩
  case round =>
   obtain ⟨k,hk,rfl,rfl,hall,hfr⟩:=hrel;have hk0:(0:Int)≤(k:Int):=by omega
   by_cases hkl:k<m+1
   · have hk1:(k:Int)<(m:Int)+1:=by omega
     have hwk:IntKind.i64.wrap ((k:Int)+1)=(k:Int)+1:=IntWalk.i64_in _ (by have:=HM.out.2.2;have:=HM.out.1;omega);obtain ⟨x,hx⟩:∃ x,f[k]?=some x:=⟨f[k]'(by have:=HM.out.1;omega),List.getElem?_eq_getElem _⟩;obtain ⟨ib2,iof2,la,lc,e0,i0',i1',i2',i3',i4',i5'⟩:=HH.out.2.2.1 k x hx;cases e0
     have hfw:=HF1.out.1.trans hfr;have y0:=hfw.cell i0'.2 id;have y1:=hfw.cell i1'.2 id;have y2:=hfw.cell i2'.2 id;have y3:=hfw.cell i3'.2 id;have y4:=hfw.cell i4'.2 id;have hib2:=World.block_lt_of_cell? wr _ y0;have hlb:=Lib.hid fun w2=>rlabels_c w2 x la lc;have hKN:=Lib.hid fun w2=>rknown_c w2 x la lc;have hFL:=Lib.hid fun w2 h=>rfields_c w2 (some ⟨fb,off,none⟩) co P.funs.length fc P.cos.length cc x h la lc;have hAL:=Lib.hid fun w2=>rallowed_c w2 kind x la lc;have HX:=Lib.hid (And.intro hall (And.intro hfr (And.intro hx (And.intro i5' (HH.out.2.2.2.1 x (List.mem_of_getElem? hx))))));have hno:=Lib.hid fun h=>all_no (kinds:=kinds) (nc:=P.cos.length) (kind:=kind) HH.out.2.1 hx h;have hyes:=Lib.hid (one_eq (nc:=P.cos.length) (n:=f.length) (kind:=kind) HH.out.2.1 x);clear hall hfr hx i0' i1' i2' i3' i4' i5' hfw;obtain ⟨op,xa,xb,xc,xl⟩:=x;simp only at y0 y1 y2 y3 y4 hlb hKN hFL hAL;go_wp2_with fail
     refine (hlb.out _).mono ?_;rintro e2 w2 ⟨rfl,hf2⟩;have hrx:Row w2 wr.heap.size 128 [.int .i64 op,.int .i64 xa,.int .i64 xb,.int .i64 xc,.slice la xl.length lc]:=hf2.row (by exact Row.new' rfl) id;have hf2':Fr Non wr w2:=Fr.trans (by exact fx) hf2;have hrp:=(HX.out.2.1.trans hf2').row HF1.out.2 id;have hrk:=((HF1.out.1.trans HX.out.2.1).trans hf2').row HH.out.1 id;have HF2:=Lib.hid (And.intro hf2' (And.intro hrx (And.intro hrp hrk)));obtain ⟨x0,x1,x2,x3,x4,xz⟩:=row5 hrx;obtain ⟨p0,p1,pz⟩:=row2 hrp;have k0:=hrk.cell (o:=i) (v:=.int .i64 kind) (by simp [ints,HH.out.2.2.2.2.2,hi3]);have l1:=hrx.lt;have l2:=hrp.lt;have l3:=hrk.lt;obtain ⟨xB,hxB⟩:∃ xB,xB=wr.heap.size:=⟨_,rfl⟩;obtain ⟨pB,hpB⟩:∃ pB,pB=w.heap.size:=⟨_,rfl⟩;have HB:=Lib.hid (And.intro hxB hpB);rw [← hxB] at x0 x1 x2 x3 x4 xz l1 HF2;rw [← hpB] at p0 p1 pz l2 HF2;rw [← hxB,← hpB];clear hf2 hf2' hrx hrp hrk y0 y1 y2 y3 y4 hib2 hlb hxB hpB
     have hlab:rLabels op=1∨rLabels op = -1∨rLabels op=0:=by
      unfold rLabels;split
      · exact Or.inl rfl
      · split
        · exact Or.inr (Or.inl rfl)
        · exact Or.inr (Or.inr rfl)
     have hone:rOne kinds P.funs.length P.cos.length f.length kind ⟨op,xa,xb,xc,xl⟩=(if !knownS op || !rFields P.funs.length P.cos.length ⟨op,xa,xb,xc,xl⟩ || !allowedS kind op || (decide (0≤rLabels op) && ((xl.length:Int) != rLabels op)) || (decide (rLabels op<0) && decide ((xl.length:Int)<1)) then false
      else if !(xl.all fun j=>withinS j f.length) then false else !((op == 26) && (kinds.getD xb.toNat 0 != 0))):=rfl
     generalize hnl:rLabels op=nl at *;have HO:=Lib.hid hone;clear hone hnl;obtain ⟨B,hB⟩:∃ B,B=(!knownS op || !rFields P.funs.length P.cos.length ⟨op,xa,xb,xc,xl⟩ || !allowedS kind op || (decide (0≤nl) && ((xl.length:Int) != nl)) || (decide (nl<0) && decide ((xl.length:Int)<1))):=⟨_,rfl⟩;have HBB:=Lib.hid hB;clear hB
     go_upto_region 9 with fail
     go_cut [84] from 34 to 118 (fun s84 wx=>s84=.bool B∧Fr Non w2 wx)
     case first =>
      have cW:=@Mix.cls_drew w2 [xB,pB,kb];refine Mix.wp_region_mix [0,4,5,13,14,23,34] ((1,0) :: (2,1) :: (0,2) :: (0,3) :: (1,4) :: (1,5) :: (2,6) :: (0,7) :: (0,8) :: (0,9) :: (0,10) :: (0,11) :: (0,12) :: (1,13) :: (1,14) :: (2,15) :: (0,16) :: (0,17) :: (0,18) :: (0,19) :: (0,20) :: (0,21) :: (0,22) :: (1,23) :: (0,24) :: (0,25) :: (0,26) :: (0,27) :: (0,28) :: (0,29) :: (0,30) :: (0,31) :: (0,32) :: (0,33) :: (1,34) :: (0,35) :: (0,36) :: (0,37) :: (0,38) :: []) (fun U=>∃ g,U=Mix.upon w2 [xB,pB,kb] g) (by kernel_rfl) (by kernel_rfl) cW ?_;clear cW;refine Mix.Wq.out ?_;repeat (first|((first|refine Mix.q_pure rfl rfl ?_|refine Mix.q_load rfl rfl ?_);intro K hK;simp only [nA,nB];go_big_quiet_op;go_big_quiet_on)|((first|refine Mix.q_skip0 rfl rfl ?_|refine Mix.q_skip1 rfl rfl ?_|refine Mix.q_skip2 rfl rfl ?_);simp only [nA,nB,nC];simp only [Act.put,List.setIfInBounds_toArray,List.set_cons_succ,List.set_cons_zero]))
      refine Mix.q_eff rfl rfl ?_;intro K hK;simp only [nA,nB,nC];go_simp;refine (hKN.out _).mono ?_;rintro e9 w9 ⟨rfl,hz1⟩;have hs9:=(hz1).size
      try simp only [World.size_drew] at hs9
      refine hK _ _ ⟨Mix.cls_fr (D:=Non) hz1 (by simp [Non];omega),?_⟩;clear hK K;cases hkn:knownS op with
      | false =>
       repeat (first|((first|refine Mix.q_pure rfl rfl ?_|refine Mix.q_load rfl rfl ?_);intro K hK;simp only [nA,nB,nC];go_big_quiet_op;go_big_quiet_on)|((first|refine Mix.q_skip0 rfl rfl ?_|refine Mix.q_skip1 rfl rfl ?_|refine Mix.q_skip2 rfl rfl ?_);simp only [nA,nB,nC];simp only [Act.put,List.setIfInBounds_toArray,List.set_cons_succ,List.set_cons_zero]))
       refine ⟨Mix.S_done ?_⟩;go_wp2_with fail
       go_meet
       exact ⟨by rw [HBB.out,hkn];rfl,Fr.trans (by exact fx) hz1⟩
      | true =>
       have hop:=Lib.hid (show 0≤op∧op≤29 by
        unfold knownS at hkn
        simpa using hkn)
       repeat (first|((first|refine Mix.q_pure rfl rfl ?_|refine Mix.q_load rfl rfl ?_);intro K hK;simp only [nA,nB,nC];go_big_quiet_op;go_big_quiet_on)|((first|refine Mix.q_skip0 rfl rfl ?_|refine Mix.q_skip1 rfl rfl ?_|refine Mix.q_skip2 rfl rfl ?_);simp only [nA,nB,nC];simp only [Act.put,List.setIfInBounds_toArray,List.set_cons_succ,List.set_cons_zero]))
       refine Mix.q_eff rfl rfl ?_;intro K hK;simp only [nA,nB,nC];go_simp;refine (hFL.out _ hop.out).mono ?_;rintro e9 w9 ⟨rfl,hz2⟩;have hs9:=(hz2).size
       try simp only [World.size_drew] at hs9
       refine hK _ _ ⟨Mix.cls_fr (D:=Non) hz2 (by simp [Non];omega),?_⟩;clear hK K;cases hfi:rFields P.funs.length P.cos.length ⟨op,xa,xb,xc,xl⟩ with
       | false =>
        repeat (first|((first|refine Mix.q_pure rfl rfl ?_|refine Mix.q_load rfl rfl ?_);intro K hK;simp only [nA,nB,nC];go_big_quiet_op;go_big_quiet_on)|((first|refine Mix.q_skip0 rfl rfl ?_|refine Mix.q_skip1 rfl rfl ?_|refine Mix.q_skip2 rfl rfl ?_);simp only [nA,nB,nC];simp only [Act.put,List.setIfInBounds_toArray,List.set_cons_succ,List.set_cons_zero]))
        refine ⟨Mix.S_done ?_⟩;go_wp2_with fail
        go_meet
        exact ⟨by rw [HBB.out,hkn,hfi];rfl,Fr.trans (by exact fx) (hz1.trans hz2)⟩
       | true =>
        repeat (first|((first|refine Mix.q_pure rfl rfl ?_|refine Mix.q_load rfl rfl ?_);intro K hK;simp only [nA,nB,nC];go_big_quiet_op;go_big_quiet_on)|((first|refine Mix.q_skip0 rfl rfl ?_|refine Mix.q_skip1 rfl rfl ?_|refine Mix.q_skip2 rfl rfl ?_);simp only [nA,nB,nC];simp only [Act.put,List.setIfInBounds_toArray,List.set_cons_succ,List.set_cons_zero]))
        refine Mix.q_eff rfl rfl ?_;intro K hK;simp only [nA,nB,nC];go_simp;refine (hAL.out _).mono ?_;rintro e9 w9 ⟨rfl,hz3⟩;have hs9:=(hz3).size
        try simp only [World.size_drew] at hs9
        refine hK _ _ ⟨Mix.cls_fr (D:=Non) hz3 (by simp [Non];omega),?_⟩;clear hK K;have hz13:=(hz1.trans hz2).trans hz3;cases hal:allowedS kind op with
        | false =>
         repeat (first|((first|refine Mix.q_pure rfl rfl ?_|refine Mix.q_load rfl rfl ?_);intro K hK;simp only [nA,nB,nC];go_big_quiet_op;go_big_quiet_on)|((first|refine Mix.q_skip0 rfl rfl ?_|refine Mix.q_skip1 rfl rfl ?_|refine Mix.q_skip2 rfl rfl ?_);simp only [nA,nB,nC];simp only [Act.put,List.setIfInBounds_toArray,List.set_cons_succ,List.set_cons_zero]))
         refine ⟨Mix.S_done ?_⟩;go_wp2_with fail
         go_meet
         exact ⟨by rw [HBB.out,hkn,hfi,hal];rfl,Fr.trans (by exact fx) hz13⟩
        | true =>
         have HBC:=Lib.hid (HBB.out.trans (by rw [hkn,hfi,hal];rfl):B=((decide (0≤nl) && ((xl.length:Int) != nl)) || (decide (nl<0) && decide ((xl.length:Int)<1))));by_cases hn0:0≤nl
         · have d0:decide (0≤nl)=true:=decide_eq_true hn0;have d1:decide (nl<0)=false:=decide_eq_false (by omega);cases hnq:((xl.length:Int) != nl)
           all_goals repeat (first|((first|refine Mix.q_pure rfl rfl ?_|refine Mix.q_load rfl rfl ?_);intro K hK;simp only [nA,nB,nC];go_big_quiet_op;go_big_quiet_on)|((first|refine Mix.q_skip0 rfl rfl ?_|refine Mix.q_skip1 rfl rfl ?_|refine Mix.q_skip2 rfl rfl ?_);simp only [nA,nB,nC];simp only [Act.put,List.setIfInBounds_toArray,List.set_cons_succ,List.set_cons_zero]))
           all_goals refine ⟨Mix.S_done ?_⟩
           all_goals go_wp2_with fail
           all_goals go_meet
           all_goals exact ⟨by rw [HBC.out,d0,d1,hnq];rfl,Fr.trans (by exact fx) hz13⟩
         · have d0:decide (0≤nl)=false:=decide_eq_false hn0;have d1:decide (nl<0)=true:=decide_eq_true (by omega);repeat (first|((first|refine Mix.q_pure rfl rfl ?_|refine Mix.q_load rfl rfl ?_);intro K hK;simp only [nA,nB,nC];go_big_quiet_op;go_big_quiet_on)|((first|refine Mix.q_skip0 rfl rfl ?_|refine Mix.q_skip1 rfl rfl ?_|refine Mix.q_skip2 rfl rfl ?_);simp only [nA,nB,nC];simp only [Act.put,List.setIfInBounds_toArray,List.set_cons_succ,List.set_cons_zero]))
           refine ⟨Mix.S_done ?_⟩;go_wp2_with fail
           go_meet
           exact ⟨by rw [HBC.out,d0,d1];simp,Fr.trans (by exact fx) hz13⟩
     case rest =>
      obtain ⟨rfl,hfz⟩:=hcut;have hrx:=hfz.row HF2.out.2.1 id;have hrk:=hfz.row HF2.out.2.2.2 id;have HZ:=Lib.hid (And.intro hfz (And.intro hrx hrk));clear x0 x1 x2 x3 x4 xz p0 p1 pz k0 hfz hrx hrk;obtain ⟨x0,x1,x2,x3,x4,xz⟩:=row5 HZ.out.2.1;have l4:=HZ.out.2.1.lt;have l5:=HZ.out.2.2.lt;have hfw:Hid (Fr Non w wc):=Lib.hid ((HF1.out.1.trans HX.out.2.1).trans (HF2.out.1.trans HZ.out.1));have hone:=HO.out;rw [← HBB.out] at hone;cases hBv:B with
      | true =>
       rw [hBv,if_pos rfl] at hone;have hRf:R=false:=by rw [HR2.out];exact hno.out hone
       have HRF:=Lib.hid hRf;clear hRf hone;go_wp2_with fail
       go_ret
       exact ⟨by rw [HRF.out];rfl,hfw.out⟩
      | false =>
       rw [hBv,if_neg (by simp)] at hone;have HRO:=Lib.hid hone;clear hone
       have HFI:=Lib.hid (show op=26→rFields P.funs.length P.cos.length ⟨op,xa,xb,xc,xl⟩=true by
        intro _;have:=HBB.out;rw [hBv] at this;cases hfi:rFields P.funs.length P.cos.length ⟨op,xa,xb,xc,xl⟩ with
        | true=>rfl
        | false=>rw [hfi] at this;simp at this)
       go_wp2_with fail
       go_loopg [11] xl.length (fun q v11 wq=>wq=wc∧∃ j:Nat,j≤xl.length∧q=xl.length - j∧v11=.int .i64 j∧∀ t,t<j→∀ n,xl[t]?=some n→withinS n f.length=true)
       case atStart=>exact ⟨rfl,0,Nat.zero_le _,rfl,rfl,fun t ht=>(by omega)⟩
       case round =>
        obtain ⟨rfl,j,hj,rfl,rfl,hall2⟩:=hrel;have hj0:(0:Int)≤(j:Int):=by omega
        by_cases hjl:j<xl.length
        · have hj1:(j:Int)<(xl.length:Int):=by omega
          have hget:=List.getElem?_eq_getElem hjl;have hwj:IntKind.i64.wrap ((j:Int)+1)=(j:Int)+1:=IntWalk.i64_in _ (by have:=HX.out.2.2.2.2;omega);obtain ⟨lb,lo,ela,hlc⟩:=HX.out.2.2.2.1 j _ hget;subst ela;have hlc2:=hfw.out.cell hlc.2 id;have hlb:=World.block_lt_of_cell? _ _ hlc2;clear hlc;generalize xl[j]=nj at *;have hmf:=HM.out.1;have HJ:=Lib.hid (And.intro hall2 hget);clear hall2 hget;by_cases hb1:nj<0
          · have e1:decide (nj<0)=true:=decide_eq_true hb1
            have hno2:rOne kinds P.funs.length P.cos.length f.length kind ⟨op,xa,xb,xc,xl⟩=false:=by
             rw [HRO.out,show (xl.all fun j=>withinS j f.length)=false from List.all_eq_false.2 ⟨nj,List.mem_of_getElem? HJ.out.2,by unfold withinS;simp;omega⟩]
             rfl
            have hRf:R=false:=by rw [HR2.out];exact hno.out hno2
            have HRF:=Lib.hid hRf;clear hRf hno2 hmf;go_wp2_with fail
            go_ret
            exact ⟨by rw [HRF.out];rfl,hfw.out⟩
          have e1:decide (nj<0)=false:=decide_eq_false hb1;by_cases hb2:(m:Int)+1≤nj
          · have e2:decide ((m:Int)+1≤nj)=true:=decide_eq_true hb2
            have hno2:rOne kinds P.funs.length P.cos.length f.length kind ⟨op,xa,xb,xc,xl⟩=false:=by
             rw [HRO.out,show (xl.all fun j=>withinS j f.length)=false from List.all_eq_false.2 ⟨nj,List.mem_of_getElem? HJ.out.2,by unfold withinS;simp;omega⟩]
             rfl
            have hRf:R=false:=by rw [HR2.out];exact hno.out hno2
            have HRF:=Lib.hid hRf;clear hRf hno2 hmf;go_wp2_with fail
            go_ret
            exact ⟨by rw [HRF.out];rfl,hfw.out⟩
          · have e2:decide ((m:Int)+1≤nj)=false:=decide_eq_false hb2;have hwn:withinS nj f.length=true:=withinS_iff.2 ⟨by omega,by omega⟩;have HWN:=Lib.hid hwn;clear hwn hmf;go_wp2_with fail
            go_roundg (xl.length - (j+1))
            case measure=>omega
            case rel =>
             refine ⟨rfl,j+1,by omega,by simp,by simp,fun t ht n hn=>?_⟩;rcases Nat.lt_succ_iff_lt_or_eq.1 ht with h|rfl
             · exact HJ.out.1 t h n hn
             · rw [HJ.out.2] at hn;cases hn
               exact HWN.out
        · have hjj:j=xl.length:=by omega
          subst hjj;have hnlt:¬ ((xl.length:Int)<(xl.length:Int)):=by omega
          have hal2:(xl.all fun j=>withinS j f.length)=true:=by
           rw [List.all_eq_true];intro y hy;obtain ⟨t,ht,rfl⟩:=List.getElem_of_mem hy;exact hall2 t ht _ (List.getElem?_eq_getElem ht)
          have hro2:=HRO.out;rw [hal2] at hro2;have HR3:=Lib.hid hro2;clear hal2 hro2 hall2;by_cases h26:op=26
          · subst h26
            have hwb:withinS xb P.funs.length=true:=by
             have:=HFI.out rfl;simp [rFields] at this;exact this.2.1
            have hxb:=withinS_iff.1 hwb;obtain ⟨bb,rfl⟩:=Int.eq_ofNat_of_zero_le hxb.1;have hkl2:=HH.out.2.1;have hb1:(bb:Int)<(kinds.length:Int):=by omega
            have hb0:(0:Int)≤(bb:Int):=by omega
            have hb2:bb<kinds.length:=by omega
            have hkc2:=HZ.out.2.2.cell (o:=bb) (v:=.int .i64 (kinds.getD bb 0)) (by simp [ints,hb2]);have hr3:=HR3.out;rw [Int.toNat_natCast] at hr3;generalize kinds.getD bb 0=kk at *;clear hwb hxb hkl2 HR3;cases hkk:(kk != 0) with
            | true =>
             have hRf:R=false:=by rw [HR2.out];exact hno.out (by rw [hr3,hkk];rfl)
             have HRF:=Lib.hid hRf;clear hRf hr3;go_wp2_with fail
             go_ret
             exact ⟨by rw [HRF.out];rfl,hfw.out⟩
            | false =>
             have hOK:=Lib.hid (hyes.out.symm.trans (by rw [hr3,hkk];rfl):oneS kinds P.cos.length f.length kind ⟨26,xa,bb,xc,xl⟩=true);clear hr3;go_wp2_with fail
             obtain ⟨hxe,hpe⟩:=HB.out;subst hpe
             go_roundg (m+1 - (k+1))
             case measure=>omega
             case rel =>
              refine ⟨k+1,by omega,by simp,by simp,fun t ht y hy=>?_,HX.out.2.1.trans (HF2.out.1.trans HZ.out.1)⟩;rcases Nat.lt_succ_iff_lt_or_eq.1 ht with h|rfl
              · exact HX.out.1 t h y hy
              · rw [HX.out.2.2.1] at hy;cases hy
                exact hOK.out
          · have h26b:(op == 26)=false:=beq_false_of_ne h26;have hr3:=HR3.out;rw [h26b] at hr3;have hOK:=Lib.hid (hyes.out.symm.trans hr3:oneS kinds P.cos.length f.length kind ⟨op,xa,xb,xc,xl⟩=true);clear hr3 h26;go_wp2_with fail
            obtain ⟨hxe,hpe⟩:=HB.out;subst hpe
            go_roundg (m+1 - (k+1))
            case measure=>omega
            case rel =>
             refine ⟨k+1,by omega,by simp,by simp,fun t ht y hy=>?_,HX.out.2.1.trans (HF2.out.1.trans HZ.out.1)⟩;rcases Nat.lt_succ_iff_lt_or_eq.1 ht with h|rfl
             · exact HX.out.1 t h y hy
             · rw [HX.out.2.2.1] at hy;cases hy
               exact hOK.out
   · have hkm:k=m+1:=by omega
     subst hkm
     have hall2:f.all (oneS kinds P.cos.length f.length kind)=true:=by
      rw [List.all_eq_true];intro y hy;obtain ⟨t,ht,rfl⟩:=List.getElem_of_mem hy;exact hall t (by have:=HM.out.1;omega) _ (List.getElem?_eq_getElem ht)
     have hnlt:¬ ((m:Int)+1<(m:Int)+1):=by omega
     have HE:=Lib.hid (And.intro hall2 hfr);clear hall hall2 hfr;go_wp2_with fail
     go_ret
     exact ⟨by rw [HR2.out,HE.out.1];rfl,HF1.out.1.trans HE.out.2⟩
end
end Go.Proofs.YtlbomnbpahmphaaGreat
