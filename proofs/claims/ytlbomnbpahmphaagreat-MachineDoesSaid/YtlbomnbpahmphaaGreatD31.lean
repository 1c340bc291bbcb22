/- Walks: the document's machine: a frame is gone on with, or cancelled; given what a function's run does. Condition: the machine lies there; the program is checked. -/
import Derived.Test.YtlbomnbpahmphaaGreatD29
import Derived.Test.YtlbomnbpahmphaaGreatD28
import Derived.Test.YtlbomnbpahmphaaGreatD30
set_option maxRecDepth 100000
set_option maxHeartbeats 1000000
namespace Go.Proofs.YtlbomnbpahmphaaGreat
open Go.RowKit
def AgreeD (B:List (Nat × Nat)) (w W:World):Prop:=∀ b∈B,W.cell? ⟨b.1,b.2,none⟩=w.cell? ⟨b.1,b.2,none⟩
open Classical in
noncomputable def uponD (w:World) (B:List (Nat × Nat)) (g:World):World:=if AgreeD B w g then g else w
theorem uponD_agree (w:World) (B:List (Nat × Nat)) (g:World):AgreeD B w (uponD w B g):=by
 unfold uponD;split
 · assumption
 · exact fun _ _=>rfl
theorem uponD_of {w W:World} {B:List (Nat × Nat)} (h:AgreeD B w W):∃ g,W=uponD w B g:=⟨W,(if_pos h).symm⟩
theorem agreeD_of {w W:World} {B:List (Nat × Nat)} (h:∃ g,W=uponD w B g):AgreeD B w W:=by
 obtain ⟨g,rfl⟩:=h;exact uponD_agree w B g
@[go_sem] theorem cell?_uponD {w:World} {B:List (Nat × Nat)} {g:World} {b o:Nat} (h:(b,o)∈B):(uponD w B g).cell? ⟨b,o,none⟩=w.cell? ⟨b,o,none⟩:=uponD_agree w B g (b,o) h
theorem agreeD_fr {w W W':World} {B:List (Nat × Nat)} (h:AgreeD B w W) (hB:∀ b∈B,∃ v,w.cell? ⟨b.1,b.2,none⟩=some v) (f:Fr Non W W'):AgreeD B w W':=fun b hb=>by
 obtain ⟨v,hv⟩:=hB b hb;rw [hv];exact f.cell ((h b hb).trans hv) id
theorem all_five {B:Nat × Nat→Prop} {a b c d e:Nat × Nat} (h1:B a) (h2:B b) (h3:B c) (h4:B d) (h5:B e):∀ x∈[a,b,c,d,e],B x:=by
 intro x hx;simp only [List.mem_cons,List.not_mem_nil,or_false] at hx;rcases hx with rfl|rfl|rfl|rfl|rfl <;> assumption
def Pr.cal (P:Pr) (k:Int) (p z:Wd):Cl:={ (Cl.new p 0 0 0).put 0 z with fn:=P.fn k }
theorem cal_glue (P:Pr) (c:Cl) (x:In):P.cal x.b Wd.zero (c.reg x.a)=P.glue c x:=rfl
def RunO (base:Nat) (P:Pr) (kinds:List Int) (A:Nat→Prop) (T:Nat) (w:World) (m:Nat) (S:St) (c:Cl) (e:Ending) (w':World):Prop:=∃ r S',e=.returned (.tuple #[.int .i64 r.1,.int .i64 r.2])∧Runs P kinds c S r S'∧NAft base P A T w w' m S'
def GoO (base:Nat) (P:Pr) (kinds:List Int) (A:Nat→Prop) (T:Nat) (w:World) (m:Nat) (S:St) (p:Wd) (e:Ending) (w':World):Prop:=∃ r S',e=.returned (.tuple #[.int .i64 r.1,.int .i64 r.2])∧GoesOn P kinds p S r S'∧NAft base P A T w w' m S'
def StopO (base:Nat) (P:Pr) (kinds:List Int) (A:Nat→Prop) (T:Nat) (w:World) (m:Nat) (S:St) (p:Wd) (e:Ending) (w':World):Prop:=∃ r S',e=.returned (.tuple #[.int .i64 r.1,.int .i64 r.2])∧Stops P kinds p S r S'∧NAft base P A T w w' m S'
def RunC (base:Nat) (P:Pr) (kinds:List Int) (N:Nat):Prop:=∀ (A:Nat→Prop) (T:Nat) (w:World) (m:Nat) (S:St) (k:Int) (p z:Wd),S.fuel.toNat≤N→NInv base P A T w m S→S.mem.fits→(∀ y∈S.ev,I64 y.2)→0≤k→k<P.funs.length→CallR P kinds (P.cal k p z) →
 Calls Tryz.prog 86 #[.pointer (some ⟨m,0,none⟩),.int .i64 k,.agg #[.bool p.p,.int .i64 p.a,.int .i64 p.n],.agg #[.bool z.p,.int .i64 z.a,.int .i64 z.n]] w fun e w'=>RunO base P kinds A T w m S (P.cal k p z) e w'
section
variable {base:Nat} {P:Pr} {kinds:List Int} {A:Nat→Prop} {T N:Nat} {w w':World} {m:Nat} {S S':St} {Y:NY}
theorem ngoOn_c (hP:PrDoes P kinds) (hR:RunC base P kinds N) (h:NL base P A T w m S Y) (hN:S.fuel.toNat≤N) (hm:S.mem.fits) (he:∀ y∈S.ev,I64 y.2) (p:Wd) (hp:p.ok) :
 Calls Tryz.prog 50 #[.pointer (some ⟨m,0,none⟩),.agg #[.bool p.p,.int .i64 p.a,.int .i64 p.n]] w fun e w'=>GoO base P kinds A T w m S p e w':=by
 obtain ⟨hs1,hs2,hs3⟩:=stateN_is (P:=P) (M:=S.mem) hp;have hS:=Lib.hid fun w1 (f:Fr Non w w1)=>nstate_c (h.frN f) p.p p.a p.n;have hp0:(⟨p.p,p.a,p.n⟩:Wd)=p:=rfl;rw [hp0] at hS;generalize stateN P S.mem p=X at *;obtain ⟨s,co,er⟩:=X;simp only at hS hs1 hs2 hs3;have hml:=h.mlt;have c1:w.cell? ⟨m,1,none⟩=some (.slice Y.co P.cos.length Y.cc):=h.row.cell rfl;have HH:=Lib.hid (And.intro hP (And.intro hR (And.intro h (And.intro hN (And.intro hm (And.intro he (And.intro hp (And.intro hs1 (And.intro hs2 hs3)))))))));clear hP hR h hN hm he hp hs1 hs2 hs3 hp0;by_cases he0:er=0
 · subst he0;by_cases hs1:s = -1
   · subst hs1;have b1:((-1:Int) == -1)=true:=rfl;go_enter Tryz.func50,Tryz.ntmps50
     go_wp2_with fail
     refine (hS.out _ (by exact fx)).mono ?_;rintro e1 w1 ⟨rfl,hf1⟩;have HF:=Lib.hid (Fr.trans (by exact fx) hf1:Fr Non w w1);clear hf1;go_wp2_with fail
     go_ret2
     exact ⟨(2,0),S,rfl,GoesOn.done HH.out.2.2.2.2.1 HH.out.2.2.2.2.2.2.2.2.1 HH.out.2.2.2.2.2.2.2.1,by exact HH.out.2.2.1.aftN HF.out⟩
   have b1:(s == -1)=false:=beq_false_of_ne hs1;by_cases hs2:s = -2
   · subst hs2;go_enter Tryz.func50,Tryz.ntmps50
     go_wp2_with fail
     refine (hS.out _ (by exact fx)).mono ?_;rintro e1 w1 ⟨rfl,hf1⟩;have HF:=Lib.hid (Fr.trans (by exact fx) hf1:Fr Non w w1);clear hf1;go_wp2_with fail
     go_ret2
     exact ⟨(3,0),S,rfl,GoesOn.aborted HH.out.2.2.2.2.1 HH.out.2.2.2.2.2.2.2.2.1 HH.out.2.2.2.2.2.2.2.1,by exact HH.out.2.2.1.aftN HF.out⟩
   have b2:(s == -2)=false:=beq_false_of_ne hs2;obtain ⟨⟨hc0,hc1⟩,hcS⟩:=HH.out.2.2.2.2.2.2.2.2.2 rfl;obtain ⟨i,rfl⟩:=Int.eq_ofNat_of_zero_le hc0;have hil:i<P.cos.length:=by omega
   have hx:P.cos[i]?=some (P.co i):=by
    unfold Pr.co;rw [Int.toNat_natCast,List.getD_eq_getElem?_getD,List.getElem?_eq_getElem hil]
    rfl
   obtain ⟨cb,o,hco,hcc⟩:=HH.out.2.2.1.cos (by omega);have hcx:=hcc _ _ (crs_get hx).2.1;rw [← Nat.add_assoc] at hcx;have hxm:=List.mem_of_getElem? hx;have hres:=HH.out.1.good.pr.res _ hxm;have hcal:=call_ok (S:=S) HH.out.1 HH.out.2.2.2.2.2.2.1 HH.out.2.2.2.2.2.2.2.2.1 hres.1 hres.2;have hgo:=fun r S'=>GoesOn.run (S:=S) (r:=r) (S':=S') HH.out.1 HH.out.2.2.2.2.2.2.2.2.1 (by rw [HH.out.2.2.2.2.2.2.2.1];exact hs1) (by rw [HH.out.2.2.2.2.2.2.2.1];exact hs2);rw [hcS] at hgo;rw [hco] at c1;generalize hrs:(P.co i).resume=rs at *;have HC:=Lib.hid (And.intro hcx (And.intro hres (And.intro hcal hgo)));have cx:=hcx.2;have hcb:=World.block_lt_of_cell? w _ cx;have h0i:(0:Int)≤(i:Int):=by omega
   have hil':(i:Int)<(P.cos.length:Int):=by omega
   clear hcx hres hcal hgo hcS hx hxm hco hcc hrs hc0 hc1 hs1 hs2;go_enter Tryz.func50,Tryz.ntmps50
   go_wp2_with fail
   refine (hS.out _ (by exact fx)).mono ?_;rintro e1 W ⟨rfl,hf1⟩;have hpb:Row W w.heap.size 40 [.bool p.p,.int .i64 p.a,.int .i64 p.n]:=hf1.row (by exact Row.new' rfl) id;have HF:=Lib.hid (And.intro (Fr.trans (by exact fx) hf1:Fr Non w W) hpb);obtain ⟨x0,x1,x2,xz⟩:=row3 hpb;have k1:=HF.out.1.cell c1 id;have kx:=HF.out.1.cell cx id;have hWs:=HF.out.1.size;have hmW:m<W.heap.size:=by omega
   have hcW:cb<W.heap.size:=by omega
   have hpW:=hpb.lt;clear hf1 hpb c1 cx;go_wp2_with fail
   have cW:∃ g,W.drew=uponD W [(m,1),(cb,o+i * 5+1),(w.heap.size,0),(w.heap.size,1),(w.heap.size,2)] g:=uponD_of fun _ _=>rfl;refine Mix.wp_region_mix [5,9,10] [(0,0),(0,1),(0,2),(0,3),(0,4),(1,5),(0,6),(0,7),(0,8),(1,9),(1,10),(2,11),(2,12),(0,13),(0,14),(0,15),(0,16)] (fun V=>∃ g,V=uponD W [(m,1),(cb,o+i * 5+1),(w.heap.size,0),(w.heap.size,1),(w.heap.size,2)] g) (by kernel_rfl) (by kernel_rfl) cW ?_;clear cW;repeat (first|((first|refine Mix.qa ?_|refine Mix.qb ?_);intro K hK;simp only [nA,nB,nC];go_big_quiet_op;go_big_quiet_on)|refine Mix.qc ?_|refine Mix.qd ?_)
   refine Mix.S_eff rfl rfl ?_;intro K hK;simp only [nA,nB,nC];go_simp;refine (nnum_c _ 0).mono ?_;rintro e2 w2 ⟨rfl,hf2⟩;refine hK _ _ ⟨fun hc=>uponD_of (agreeD_fr (agreeD_of hc) (all_five ⟨_,k1⟩ ⟨_,kx⟩ ⟨_,x0⟩ ⟨_,x1⟩ ⟨_,x2⟩) hf2),?_⟩;clear hK K;have hf2':Fr Non W w2:=Fr.trans (by exact (Fr.refl _ _).drew) hf2;refine Mix.S_eff rfl rfl ?_;intro K hK;simp only [nA,nB,nC];go_simp;refine (HH.out.2.1 A T w2 m S rs p Wd.zero HH.out.2.2.2.1 ⟨Y,HH.out.2.2.1.frN (HF.out.1.trans hf2')⟩ HH.out.2.2.2.2.1 HH.out.2.2.2.2.2.1 HC.out.2.1.1 HC.out.2.1.2 HC.out.2.2.1).mono ?_;rintro e3 w3 ⟨⟨rk,rn⟩,S3,rfl,hruns,hA3⟩
   have hall:AgreeD [(m,1),(cb,o+i * 5+1),(w.heap.size,0),(w.heap.size,1),(w.heap.size,2)] W w3:=by
    obtain ⟨A',hI,hsub,hfr,hkp⟩:=hA3;have hnp:¬ A w.heap.size:=fun e=>by have:=HH.out.2.2.1.lt _ e;omega
    have hnc:¬ A cb:=fun e=>by have:=HH.out.2.2.1.high _ e;have:=HC.out.1.1;omega
    exact all_five ((hkp 1 (by omega)).trans ((hf2'.cell k1 id).trans k1.symm)) ((hfr.cell (hf2'.cell kx id) hnc).trans kx.symm) ((hfr.cell (hf2'.cell x0 id) hnp).trans x0.symm) ((hfr.cell (hf2'.cell x1 id) hnp).trans x1.symm) ((hfr.cell (hf2'.cell x2 id) hnp).trans x2.symm)
   refine hK _ _ ⟨fun _=>uponD_of hall,?_⟩;clear hK K hall;have HA:=Lib.hid (And.intro hruns (NAft.ahead (HF.out.1.trans hf2') hml hA3));clear hruns hA3 k1 kx x0 x1 x2 xz hf2 hf2';repeat (first|((first|refine Mix.qa ?_|refine Mix.qb ?_);intro K hK;simp only [nA,nB,nC];go_big_quiet_op;go_big_quiet_on)|refine Mix.qc ?_|refine Mix.qd ?_)
   refine Mix.S_done ?_;go_wp2_with fail
   go_ret2
   exact ⟨(rk,rn),S3,rfl,HC.out.2.2.2 _ _ HA.out.1,HA.out.2⟩
 · have hb:(er != 0)=true:=by simpa using he0
   go_enter Tryz.func50,Tryz.ntmps50
   go_wp2_with fail
   refine (hS.out _ (by exact fx)).mono ?_;rintro e1 w1 ⟨rfl,hf1⟩;have HF:=Lib.hid (Fr.trans (by exact fx) hf1:Fr Non w w1);clear hf1;go_wp2_with fail
   refine (nout_c _ er).mono ?_;rintro e2 w2 ⟨rfl,hf2⟩;have HF2:=Lib.hid (HF.out.trans hf2);clear hf2;go_wp2_with fail
   go_ret2
   exact ⟨outR er,S,rfl,GoesOn.bad HH.out.2.2.2.2.1 HH.out.2.2.2.2.2.2.2.2.1 he0,by exact HH.out.2.2.1.aftN HF2.out⟩
end
section
variable {base:Nat} {P:Pr} {kinds:List Int} {A:Nat→Prop} {T N:Nat} {w w' w1:World} {m:Nat} {S S':St} {Y:NY}
theorem NAft.non (h:NAft base P A T w w1 m S) (f:Fr Non w1 w'):NAft base P A T w w' m S:=h.trans fun A1 hI _=>by
 obtain ⟨Y,hI⟩:=hI;exact hI.aftN f
theorem nstop_c (hP:PrDoes P kinds) (hR:RunC base P kinds N) (h:NL base P A T w m S Y) (hN:S.fuel.toNat≤N) (hm:S.mem.fits) (he:∀ y∈S.ev,I64 y.2) (p:Wd) (hp:p.ok) :
 Calls Tryz.prog 54 #[.pointer (some ⟨m,0,none⟩),.agg #[.bool p.p,.int .i64 p.a,.int .i64 p.n]] w fun e w'=>StopO base P kinds A T w m S p e w':=by
 obtain ⟨hs1,hs2,hs3⟩:=stateN_is (P:=P) (M:=S.mem) hp;have hS:=Lib.hid fun w1 (f:Fr Non w w1)=>nstate_c (h.frN f) p.p p.a p.n;have hp0:(⟨p.p,p.a,p.n⟩:Wd)=p:=rfl;rw [hp0] at hS;generalize stateN P S.mem p=X at *;obtain ⟨s,co,er⟩:=X;simp only at hS hs1 hs2 hs3;have hml:=h.mlt;have c1:w.cell? ⟨m,1,none⟩=some (.slice Y.co P.cos.length Y.cc):=h.row.cell rfl;have c2:=h.c2;have HH:=Lib.hid (And.intro hP (And.intro hR (And.intro h (And.intro hN (And.intro hm (And.intro he (And.intro hp (And.intro hs1 (And.intro hs2 hs3)))))))));clear hP hR h hN hm he hp hs1 hs2 hs3 hp0;by_cases he0:er=0
 · subst he0;by_cases hs0:s<0
   · have b0:decide (0≤s)=false:=decide_eq_false (by omega);have b1:¬ 0≤s:=by omega
     go_enter Tryz.func54,Tryz.ntmps54
     go_wp2_with fail
     refine (hS.out _ (by exact fx)).mono ?_;rintro e1 W ⟨rfl,hf1⟩;have hpb:Row W w.heap.size 40 [.bool p.p,.int .i64 p.a,.int .i64 p.n]:=hf1.row (by exact Row.new' rfl) id;have HF:=Lib.hid (Fr.trans (by exact fx) hf1:Fr Non w W);have HN:=Lib.hid (HH.out.2.2.1.frN HF.out);obtain ⟨x0,x1,x2,xz⟩:=row3 hpb;have k2:=HF.out.cell c2 id;have hWs:=HF.out.size;have hmW:m<W.heap.size:=by omega
     have hpW:=hpb.lt;have hnqp:¬ Y.Aq w.heap.size:=fun e=>by have:=HH.out.2.2.1.mem.1 _ e;omega
     clear hf1 hpb c1 c2;go_wp2_with fail
     have hFr:=Lib.hid fun w4 (f:Fr Non W w4)=>qfree_j (HN.out.mem.non f) p;have hnqm:¬ Y.Aq m:=fun e=>(HN.out.sep m e).1 rfl;have hfl:=free_len S.mem p;generalize hMf:S.mem.free p=Mf at *;obtain ⟨M',ef⟩:=Mf;have HMf:=Lib.hid (And.intro hMf hfl);clear hMf hfl;simp only at hFr;have cW:=@Mix.cls_drew W [m,w.heap.size];refine Mix.wp_region_mix [3,4] [(0,0),(0,1),(0,2),(1,3),(1,4),(2,5),(0,6)] (fun V=>∃ g,V=Mix.upon W [m,w.heap.size] g) (by kernel_rfl) (by kernel_rfl) cW ?_;clear cW;repeat (first|((first|refine Mix.qa ?_|refine Mix.qb ?_);intro K hK;simp only [nA,nB,nC];go_big_quiet_op;go_big_quiet_on)|refine Mix.qc ?_|refine Mix.qd ?_)
     refine Mix.S_eff rfl rfl ?_;intro K hK;simp only [nA,nB,nC];go_simp;refine (hFr.out _ (by exact (Fr.refl _ _).drew)).mono ?_;rintro e5 w5 ⟨rfl,D5,hJ5,hQ5⟩;refine hK _ _ ⟨Mix.cls_fr (D:=Y.Aq) hQ5.fr (by simp;exact ⟨⟨by omega,hnqm⟩,⟨by omega,hnqp⟩⟩),?_⟩;clear hK K;have HA5:=Lib.hid (HN.out.aftMem hJ5 ((QF.non (Fr.refl _ W).drew).trans hQ5) HN.out.cells (by have:=HN.out.few;have:=HMf.out.2;simp only at this;omega));clear hJ5 hQ5 hFr;repeat (first|((first|refine Mix.qa ?_|refine Mix.qb ?_);intro K hK;simp only [nA,nB,nC];go_big_quiet_op;go_big_quiet_on)|refine Mix.qc ?_|refine Mix.qd ?_)
     refine Mix.S_done ?_;by_cases hef:ef=0
     · subst hef;go_wp2_with fail
       go_ret2
       exact ⟨(2,0),_,rfl,Stops.free HH.out.2.2.2.2.1 HH.out.2.2.2.2.2.2.2.2.1 (by rw [HH.out.2.2.2.2.2.2.2.1];exact hs0) HMf.out.1,NAft.ahead HF.out hml HA5.out⟩
     · have hefb:(ef != 0)=true:=by simpa using hef
       go_wp2_with fail
       refine (nout_c _ ef).mono ?_;rintro e6 w6 ⟨rfl,hf6⟩;have HF6:=Lib.hid hf6;clear hf6;go_wp2_with fail
       go_ret2
       exact ⟨outR ef,_,rfl,Stops.freeBad HH.out.2.2.2.2.1 HH.out.2.2.2.2.2.2.2.2.1 (by rw [HH.out.2.2.2.2.2.2.2.1];exact hs0) HMf.out.1 hef,(NAft.ahead HF.out hml HA5.out).non HF6.out⟩
   · have b0:decide (0≤s)=true:=decide_eq_true (by omega);have b1:0≤s:=by omega
     obtain ⟨⟨hc0,hc1⟩,hcS⟩:=HH.out.2.2.2.2.2.2.2.2.2 rfl;obtain ⟨i,rfl⟩:=Int.eq_ofNat_of_zero_le hc0;have hil:i<P.cos.length:=by omega
     have hx:P.cos[i]?=some (P.co i):=by
      unfold Pr.co;rw [Int.toNat_natCast,List.getD_eq_getElem?_getD,List.getElem?_eq_getElem hil]
      rfl
     obtain ⟨cb,o,hco,hcc⟩:=HH.out.2.2.1.cos (by omega);have hcx:=hcc _ _ (crs_get hx).2.2.1;rw [← Nat.add_assoc] at hcx;have hxm:=List.mem_of_getElem? hx;have hres:=HH.out.1.good.pr.can _ hxm;have hcal:=call_ok (S:=S) HH.out.1 HH.out.2.2.2.2.2.2.1 HH.out.2.2.2.2.2.2.2.2.1 hres.1 hres.2;have hng:¬ (stateS P S.mem p).1<0:=by rw [HH.out.2.2.2.2.2.2.2.1];exact hs0
     have hgo1:=fun r1 S1=>Stops.runOut (S:=S) (r1:=r1) (S1:=S1) HH.out.1 HH.out.2.2.2.2.2.2.2.2.1 hng;have hgo2:=fun r1 S1=>Stops.runBad (S:=S) (r1:=r1) (S1:=S1) HH.out.1 HH.out.2.2.2.2.2.2.2.2.1 hng;have hgo3:=fun r1 S1=>Stops.run (S:=S) (r1:=r1) (S1:=S1) HH.out.1 HH.out.2.2.2.2.2.2.2.2.1 hng;rw [hcS] at hgo1 hgo2 hgo3;rw [hco] at c1;generalize hrs:(P.co i).cancel=rs at *;have HC:=Lib.hid (And.intro hcx (And.intro hres (And.intro hcal (And.intro hgo1 (And.intro hgo2 hgo3)))));have cx:=hcx.2;have hcb:=World.block_lt_of_cell? w _ cx;have h0i:(0:Int)≤(i:Int):=by omega
     have hil':(i:Int)<(P.cos.length:Int):=by omega
     clear hcx hres hcal hgo1 hgo2 hgo3 hng hcS hx hxm hco hcc hrs hc0 hc1 hs0;go_enter Tryz.func54,Tryz.ntmps54
     go_wp2_with fail
     refine (hS.out _ (by exact fx)).mono ?_;rintro e1 W ⟨rfl,hf1⟩;have hpb:Row W w.heap.size 40 [.bool p.p,.int .i64 p.a,.int .i64 p.n]:=hf1.row (by exact Row.new' rfl) id;have HF:=Lib.hid (And.intro (Fr.trans (by exact fx) hf1:Fr Non w W) hpb);obtain ⟨x0,x1,x2,xz⟩:=row3 hpb;have k1:=HF.out.1.cell c1 id;have kx:=HF.out.1.cell cx id;have hWs:=HF.out.1.size;have hmW:m<W.heap.size:=by omega
     have hcW:cb<W.heap.size:=by omega
     have hpW:=hpb.lt;clear hf1 hpb c1 cx c2;go_wp2_with fail
     have cW:∃ g,W.drew=uponD W [(m,1),(cb,o+i * 5+2),(w.heap.size,0),(w.heap.size,1),(w.heap.size,2)] g:=uponD_of fun _ _=>rfl;refine Mix.wp_region_mix [5,9,10] [(0,0),(0,1),(0,2),(0,3),(0,4),(1,5),(0,6),(0,7),(0,8),(1,9),(1,10),(2,11),(2,12),(0,13),(0,14),(0,15),(0,16),(0,17)] (fun V=>∃ g,V=uponD W [(m,1),(cb,o+i * 5+2),(w.heap.size,0),(w.heap.size,1),(w.heap.size,2)] g) (by kernel_rfl) (by kernel_rfl) cW ?_;clear cW;repeat (first|((first|refine Mix.qa ?_|refine Mix.qb ?_);intro K hK;simp only [nA,nB,nC];go_big_quiet_op;go_big_quiet_on)|refine Mix.qc ?_|refine Mix.qd ?_)
     refine Mix.S_eff rfl rfl ?_;intro K hK;simp only [nA,nB,nC];go_simp;refine (nnum_c _ 0).mono ?_;rintro e2 w2 ⟨rfl,hf2⟩;refine hK _ _ ⟨fun hc=>uponD_of (agreeD_fr (agreeD_of hc) (all_five ⟨_,k1⟩ ⟨_,kx⟩ ⟨_,x0⟩ ⟨_,x1⟩ ⟨_,x2⟩) hf2),?_⟩;clear hK K;have hf2':Fr Non W w2:=Fr.trans (by exact (Fr.refl _ _).drew) hf2;refine Mix.S_eff rfl rfl ?_;intro K hK;simp only [nA,nB,nC];go_simp;refine (HH.out.2.1 A T w2 m S rs p Wd.zero HH.out.2.2.2.1 ⟨Y,HH.out.2.2.1.frN (HF.out.1.trans hf2')⟩ HH.out.2.2.2.2.1 HH.out.2.2.2.2.2.1 HC.out.2.1.1 HC.out.2.1.2 HC.out.2.2.1).mono ?_;rintro e3 w3 ⟨⟨rk,rn⟩,S3,rfl,hruns,hA3⟩;have hnp:¬ A w.heap.size:=fun e=>by have:=HH.out.2.2.1.lt _ e;omega
     have hall:AgreeD [(m,1),(cb,o+i * 5+2),(w.heap.size,0),(w.heap.size,1),(w.heap.size,2)] W w3:=by
      obtain ⟨A',hI,hsub,hfr,hkp⟩:=hA3;have hnc:¬ A cb:=fun e=>by have:=HH.out.2.2.1.high _ e;have:=HC.out.1.1;omega
      exact all_five ((hkp 1 (by omega)).trans ((hf2'.cell k1 id).trans k1.symm)) ((hfr.cell (hf2'.cell kx id) hnc).trans kx.symm) ((hfr.cell (hf2'.cell x0 id) hnp).trans x0.symm) ((hfr.cell (hf2'.cell x1 id) hnp).trans x1.symm) ((hfr.cell (hf2'.cell x2 id) hnp).trans x2.symm)
     refine hK _ _ ⟨fun _=>uponD_of hall,?_⟩;clear hK K hall;obtain ⟨A3,⟨Y3,hI3⟩,hsub3,hfr3,hkp3⟩:=hA3;have hs2:=hf2'.size;have hnp3:¬ A3 w.heap.size:=fun e=>(hsub3 _ e).elim hnp fun e=>by omega
     have hsub3':∀ x,A3 x→A x∨w.heap.size≤x:=fun x hx=>(hsub3 x hx).imp id fun e=>by omega
     have hpb3:Row w3 w.heap.size 40 [.bool p.p,.int .i64 p.a,.int .i64 p.n]:=hfr3.row (hf2'.row HF.out.2 id) hnp;have hs3:W.heap.size≤w3.heap.size:=by have:=hfr3.size;omega
     have hfrw:Fr A w w3:=((HF.out.1.trans hf2').mono fun _ _ e=>e.elim).trans hfr3;have HA:=Lib.hid (And.intro hruns (show NAft base P A T w w3 m S3 from ⟨A3,⟨Y3,hI3⟩,hsub3',hfrw,(Kp.fr (HF.out.1.trans hf2') hml id).trans hkp3⟩));have HI3:=Lib.hid (And.intro hI3 (And.intro hsub3' (And.intro hfrw ((Kp.fr (HF.out.1.trans hf2') hml id).trans hkp3))));have k2:=hI3.c2;have hmW3:=hI3.mlt;have hnqp:¬ Y3.Aq w.heap.size:=fun e=>hnp3 (hI3.aq _ e);clear hruns hI3 hsub3 hsub3' hfr3 hkp3 hfrw hnp3 hs2 hnp k1 kx x0 x1 x2 xz hf2 hf2';obtain ⟨x0,x1,x2,xz⟩:=row3 hpb3;repeat (first|((first|refine Mix.qa ?_|refine Mix.qb ?_);intro K hK;simp only [nA,nB,nC];go_big_quiet_op;go_big_quiet_on)|refine Mix.qc ?_|refine Mix.qd ?_)
     refine Mix.S_done ?_;by_cases hk2:rk=2
     · subst hk2;have bk:((2:Int) != 2)=false:=rfl;have hpW3:=hpb3.lt;clear hpb3;go_wp2_with fail
       have hFr:=Lib.hid fun w4 (f:Fr Non w3 w4)=>qfree_j (HI3.out.1.mem.non f) p;have hnqm:¬ Y3.Aq m:=fun e=>(HI3.out.1.sep m e).1 rfl;have hfl:=free_len S3.mem p;generalize hMf:S3.mem.free p=Mf at *;obtain ⟨M',ef⟩:=Mf;have HMf:=Lib.hid (And.intro hMf hfl);clear hMf hfl;simp only at hFr;have cW:=@Mix.cls_drew w3 [m,w.heap.size];refine Mix.wp_region_mix [3,4] [(0,0),(0,1),(0,2),(1,3),(1,4),(2,5),(0,6)] (fun V=>∃ g,V=Mix.upon w3 [m,w.heap.size] g) (by kernel_rfl) (by kernel_rfl) cW ?_;clear cW;repeat (first|((first|refine Mix.qa ?_|refine Mix.qb ?_);intro K hK;simp only [nA,nB,nC];go_big_quiet_op;go_big_quiet_on)|refine Mix.qc ?_|refine Mix.qd ?_)
       refine Mix.S_eff rfl rfl ?_;intro K hK;simp only [nA,nB,nC];go_simp;refine (hFr.out _ (by exact (Fr.refl _ _).drew)).mono ?_;rintro e5 w5 ⟨rfl,D5,hJ5,hQ5⟩;refine hK _ _ ⟨Mix.cls_fr (D:=Y3.Aq) hQ5.fr (by simp;exact ⟨⟨by omega,hnqm⟩,⟨by omega,hnqp⟩⟩),?_⟩;clear hK K;have HA5:=Lib.hid (HI3.out.1.aftMem hJ5 ((QF.non (Fr.refl _ w3).drew).trans hQ5) HI3.out.1.cells (by have:=HI3.out.1.few;have:=HMf.out.2;simp only at this;omega))
       have HA7:Hid (∀ w9,Fr Non w5 w9→NAft base P A T w w9 m { S3 with mem:=M' }):=Lib.hid fun w9 f=>by
        obtain ⟨A5,g1,g2,g3,g4⟩:=HA5.out.non f;obtain ⟨_,q2,q3,q4⟩:=HI3.out;refine ⟨A5,g1,fun x hx=>?_,q3.then g3 fun x hx e=>?_,q4.trans g4⟩
        · rcases g2 x hx with e|e
          · exact q2 x e
          · exact Or.inr (Nat.le_trans q3.size e)
        · rcases q2 x e with e|e
          · exact e
          · omega
       clear hJ5 hQ5 hFr;repeat (first|((first|refine Mix.qa ?_|refine Mix.qb ?_);intro K hK;simp only [nA,nB,nC];go_big_quiet_op;go_big_quiet_on)|refine Mix.qc ?_|refine Mix.qd ?_)
       refine Mix.S_done ?_;by_cases hef:ef=0
       · subst hef;go_wp2_with fail
         go_ret2
         exact ⟨(2,0),_,rfl,HC.out.2.2.2.2.2 _ _ HA.out.1 rfl HMf.out.1,HA7.out _ (Fr.refl _ _)⟩
       · have hefb:(ef != 0)=true:=by simpa using hef
         go_wp2_with fail
         refine (nout_c _ ef).mono ?_;rintro e6 w6 ⟨rfl,hf6⟩;have HF6:=Lib.hid hf6;clear hf6;go_wp2_with fail
         go_ret2
         exact ⟨outR ef,_,rfl,HC.out.2.2.2.2.1 _ _ HA.out.1 rfl HMf.out.1 hef,HA7.out _ HF6.out⟩
     · have bk:(rk != 2)=true:=by simpa using hk2
       go_wp2_with fail
       go_ret2
       exact ⟨(rk,rn),S3,rfl,HC.out.2.2.2.1 _ _ HA.out.1 hk2,HA.out.2⟩
 · have hb:(er != 0)=true:=by simpa using he0
   go_enter Tryz.func54,Tryz.ntmps54
   go_wp2_with fail
   refine (hS.out _ (by exact fx)).mono ?_;rintro e1 w1 ⟨rfl,hf1⟩;have HF:=Lib.hid (Fr.trans (by exact fx) hf1:Fr Non w w1);clear hf1;go_wp2_with fail
   refine (nout_c _ er).mono ?_;rintro e2 w2 ⟨rfl,hf2⟩;have HF2:=Lib.hid (HF.out.trans hf2);clear hf2;go_wp2_with fail
   go_ret2
   exact ⟨outR er,S,rfl,Stops.bad HH.out.2.2.2.2.1 HH.out.2.2.2.2.2.2.2.2.1 he0,by exact HH.out.2.2.1.aftN HF2.out⟩
end
theorem word_off (M:Mem) (p:Wd) (k:Int):M.word ⟨p.p,p.a,wrap64 (p.n+k)⟩=M.word (offS p k):=by
 cases hp:p.p with
 | true=>unfold offS;rw [if_pos hp,IntWalk.i64_left]
 | false =>
  have hh:∀ q:Wd,q.p=false→M.word q=(0,11):=fun q hq=>by
   have:(M.load q).2=11:=by
    unfold Mem.load
    have:M.errp q 1=11:=by
     unfold Mem.errp Mem.errb;rw [if_pos hq]
     rfl
    rw [this,if_pos (by decide)]
   unfold Mem.word;rw [if_pos (by rw [this];decide),this]
  rw [hh _ rfl,hh];unfold offS;rw [if_neg (by rw [hp];decide)];exact hp
section
variable {base:Nat} {P:Pr} {kinds:List Int} {A:Nat→Prop} {T T':Nat} {w:World} {m:Nat} {S:St} {Y:NY}
theorem NL.on (h:NL base P A T w m S Y) (K:List Cl):NL base P A T w m (S.on K) Y :=
 { high:=h.high,lt:=h.lt,row:=h.row,funs:=h.funs,cos:=h.cos,mem:=h.mem,evo:=h.evo,told:=h.told,am:=h.am,ae:=h.ae,at_:=h.at_,aq:=h.aq,sep:=h.sep,cells:=h.cells,few:=h.few,evn:=h.evn,max:=h.max }
theorem NL.c5 (h:NL base P A T w m S Y):w.cell? ⟨m,5,none⟩=some (.int .i64 S.fuel):=h.row.cell rfl
theorem NL.begin (h:NL base P A T w m S Y) (task fuel:Int) (hT:T+2 * fuel.toNat≤T') (hm:T'≤400000):NL base P A T' ((w.setCell ⟨m,6,none⟩ (.int .i64 task)).setCell ⟨m,5,none⟩ (.int .i64 fuel)) m (S.begin task fuel) Y∧Fr (fun x=>x=m) w ((w.setCell ⟨m,6,none⟩ (.int .i64 task)).setCell ⟨m,5,none⟩ (.int .i64 fuel))∧Kp w ((w.setCell ⟨m,6,none⟩ (.int .i64 task)).setCell ⟨m,5,none⟩ (.int .i64 fuel)) m:=by
 have f:Fr (fun x=>x=m) w ((w.setCell ⟨m,6,none⟩ (.int .i64 task)).setCell ⟨m,5,none⟩ (.int .i64 fuel)):=(Fr.set1 _ _ _ _).trans (Fr.set1 _ _ _ _);have hr:Row ((w.setCell ⟨m,6,none⟩ (.int .i64 task)).setCell ⟨m,5,none⟩ (.int .i64 fuel)) m 61 (Y.cells P fuel task):=(h.row.set_same 6 _).set_same 5 _;have hc:=h.cells;have hf:=h.few;exact ⟨(h.upNums hr f (by omega) (by omega) hm).on [],f,Kp.rows h.row hr rfl⟩
theorem npoll_c (hP:PrDoes P kinds) (hR:∀ N,RunC base P kinds N) (h:NInv base P A T w m S) (hm:S.mem.fits) (he:∀ y∈S.ev,I64 y.2) (p:Wd) (hp:p.ok) (task fuel:Int) (hT:T+2 * fuel.toNat≤T') (hmax:T'≤400000) :
 Calls Tryz.prog 16 #[.pointer (some ⟨m,0,none⟩),.agg #[.bool p.p,.int .i64 p.a,.int .i64 p.n],.int .i64 task,.int .i64 fuel] w fun e w' =>
  ∃ r S',e=.returned (.tuple #[.int .i64 (pollR S' p r).1,.int .i64 (pollR S' p r).2,.int .i64 S'.fuel])∧GoesOn P kinds p (S.begin task fuel) r S'∧NAft base P A T' w w' m S':=by
 obtain ⟨Y,hI⟩:=h;have hml:=hI.mlt;have u5:w.cell? ⟨m,5,none⟩=some (.int .i64 S.fuel):=hI.row.cell rfl;have u6:w.cell? ⟨m,6,none⟩=some (.int .i64 S.task):=hI.row.cell rfl;obtain ⟨hI1,hf1,hk1⟩:=hI.begin task fuel hT hmax;have hfa:Fr Non ((w.setCell ⟨m,6,none⟩ (.int .i64 task)).setCell ⟨m,5,none⟩ (.int .i64 fuel)) (((w.setCell ⟨m,6,none⟩ (.int .i64 task)).setCell ⟨m,5,none⟩ (.int .i64 fuel)).alloc (.cells #[.bool p.p,.int .i64 p.a,.int .i64 p.n] 40)):=(Fr.refl _ _).alloc _;have hrw:Row (((w.setCell ⟨m,6,none⟩ (.int .i64 task)).setCell ⟨m,5,none⟩ (.int .i64 fuel)).alloc (.cells #[.bool p.p,.int .i64 p.a,.int .i64 p.n] 40)) w.heap.size 40 [.bool p.p,.int .i64 p.a,.int .i64 p.n]:=Row.new' (by simp);have hmz:=hI.row.frozen;have hfw:Fr A w (((w.setCell ⟨m,6,none⟩ (.int .i64 task)).setCell ⟨m,5,none⟩ (.int .i64 fuel)).alloc (.cells #[.bool p.p,.int .i64 p.a,.int .i64 p.n] 40)):=(hf1.mono fun x _ e=>by subst e;exact hI.am).trans (hfa.mono fun _ _ h=>h.elim);have hkw:=hk1.trans (Kp.fr hfa hI1.mlt id);have hna:¬ A w.heap.size:=fun e=>by have:=hI.lt _ e;omega
 have hG:=Lib.hid (ngoOn_c hP (hR fuel.toNat) (hI1.frN hfa) (Nat.le_refl _) hm he p hp);have HH:=Lib.hid (And.intro hI (And.intro hfw (And.intro hkw (And.intro hna hrw))));clear hI hI1 hf1 hk1 hfw hkw hna hP hR hm he hfa hrw;have hnm':¬ m=w.heap.size:=by omega
 go_enter Tryz.func16,Tryz.ntmps16
 go_wp2_with fail
 have hsW:(((w.setCell ⟨m,6,none⟩ (.int .i64 task)).setCell ⟨m,5,none⟩ (.int .i64 fuel)).alloc (.cells #[.bool p.p,.int .i64 p.a,.int .i64 p.n] 40)).heap.size=w.heap.size+1:=by simp
 refine hG.out.mono ?_;rintro e1 w1 ⟨⟨rk,rn⟩,S',rfl,hgo,hA⟩
 have hA':NAft base P A T' w w1 m S':=by
  obtain ⟨A2,k1,k2,k3,k4⟩:=hA;exact ⟨A2,k1,fun x hx=>(k2 x hx).imp id fun e=>by omega,HH.out.2.1.trans k3,HH.out.2.2.1.trans k4⟩
 obtain ⟨p0,p1,p2,pz⟩:=row3 (show Row w1 w.heap.size 40 [.bool p.p,.int .i64 p.a,.int .i64 p.n] from by obtain ⟨A2,k1,k2,k3,k4⟩:=hA;exact k3.row HH.out.2.2.2.2 HH.out.2.2.2.1);have c5:w1.cell? ⟨m,5,none⟩=some (.int .i64 S'.fuel):=by obtain ⟨A2,⟨Y2,k1⟩,k2⟩:=hA;exact k1.c5
 have hm1:m<w1.heap.size:=by obtain ⟨A2,⟨Y2,k1⟩,k2⟩:=hA;exact k1.mlt
 have hs1:w.heap.size<w1.heap.size:=by obtain ⟨A2,k1,k2,k3,k4⟩:=hA;have:=k3.size;omega
 have HN:=Lib.hid (show ∀ w2,Fr Non w1 w2→Calls Tryz.prog 51 #[.pointer (some ⟨m,0,none⟩),.agg #[.bool p.p,.int .i64 p.a,.int .i64 (wrap64 (p.n+1))]] w2 fun e w'=>e=.returned (.tuple #[.int .i64 (S'.mem.word ⟨p.p,p.a,wrap64 (p.n+1)⟩).1,.int .i64 (S'.mem.word ⟨p.p,p.a,wrap64 (p.n+1)⟩).2])∧Fr Non w2 w' from fun w2 f=>by
  obtain ⟨A2,⟨Y2,k1⟩,k2⟩:=hA
  exact nnumber_c (k1.frN f) p.p p.a (wrap64 (p.n+1)))
 rw [word_off] at HN;have hfu:∃ fu,fu=S'.fuel:=⟨_,rfl⟩;obtain ⟨fu,hfu⟩:=hfu;rw [← hfu] at c5;have hpr:pollR S' p (rk,rn)=if rk=2 then (if (S'.mem.word (offS p 1)).2≠0 then outR (S'.mem.word (offS p 1)).2 else (2,(S'.mem.word (offS p 1)).1)) else (rk,rn):=rfl
 have HA:=Lib.hid (And.intro hA' (And.intro hgo (And.intro hfu hpr)));clear hA hA' hgo hG hfu hpr hsW;generalize hwd:S'.mem.word (offS p 1)=wd at *;obtain ⟨v,er⟩:=wd;simp only at HN;have HW:=Lib.hid hwd;clear hwd;by_cases h2:rk=2
 · subst h2;go_wp2_with fail
   refine (noff_c _ p.p p.a p.n 1).mono ?_;rintro e2 w2 ⟨rfl,hf2⟩;have hf2':Fr Non w1 w2:=Fr.trans (by exact fx) hf2;have HF2:=Lib.hid hf2';clear hf2 hf2';go_wp2_with fail
   refine (HN.out _ (by exact HF2.out)).mono ?_;rintro e3 w3 ⟨rfl,hf3⟩;have HF3:=Lib.hid (HF2.out.trans hf3);have d5:=HF3.out.cell c5 id;have hs3:=HF3.out.size;clear hf3 c5 p0 p1 p2 pz;by_cases her:er=0
   · subst her;go_wp2_with fail
     go_quiet (fail)
     go_wp2_with fail
     refine bodyPost_ret (v:=.tuple #[.int .i64 2,.int .i64 v,.int .i64 fu]) (by simp [results,Tryz.results16,go_sem]) rfl ?_;refine ⟨(2,rn),S',?_,HA.out.2.1,HA.out.1.non (HF3.out.drewN _)⟩;rw [HA.out.2.2.2,← HA.out.2.2.1];simp
   · have hb:(er != 0)=true:=by simpa using her
     go_wp2_with fail
     refine (nout_c _ er).mono ?_;rintro e4 w4 ⟨rfl,hf4⟩;have HF4:=Lib.hid (HF3.out.trans hf4);have d5':=hf4.cell d5 id;have hs4:=hf4.size;have hm4:m<w4.heap.size:=by omega
     clear hf4 d5;go_wp2_with fail
     go_quiet (fail)
     go_wp2_with fail
     refine bodyPost_ret (v:=.tuple #[.int .i64 (outR er).1,.int .i64 (outR er).2,.int .i64 fu]) (by simp [results,Tryz.results16,go_sem]) rfl ?_;refine ⟨(2,rn),S',?_,HA.out.2.1,HA.out.1.non (HF4.out.drewN _)⟩;rw [HA.out.2.2.2,← HA.out.2.2.1];simp [her]
 · have hb:(rk == 2)=false:=beq_false_of_ne h2;go_wp2_with fail
   go_quiet (fail)
   go_wp2_with fail
   refine bodyPost_ret (v:=.tuple #[.int .i64 rk,.int .i64 rn,.int .i64 fu]) (by simp [results,Tryz.results16,go_sem]) rfl ?_;refine ⟨(rk,rn),S',?_,HA.out.2.1,HA.out.1.non (by exact fx)⟩;rw [HA.out.2.2.2,if_neg h2,← HA.out.2.2.1]
theorem ncancel_c (hP:PrDoes P kinds) (hR:∀ N,RunC base P kinds N) (h:NInv base P A T w m S) (hm:S.mem.fits) (he:∀ y∈S.ev,I64 y.2) (p:Wd) (hp:p.ok) (task fuel:Int) (hT:T+2 * fuel.toNat≤T') (hmax:T'≤400000) :
 Calls Tryz.prog 18 #[.pointer (some ⟨m,0,none⟩),.agg #[.bool p.p,.int .i64 p.a,.int .i64 p.n],.int .i64 task,.int .i64 fuel] w fun e w' =>
  ∃ r S',e=.returned (.tuple #[.int .i64 r.1,.int .i64 r.2,.int .i64 S'.fuel])∧Stops P kinds p (S.begin task fuel) r S'∧NAft base P A T' w w' m S':=by
 obtain ⟨Y,hI⟩:=h;have hml:=hI.mlt;have u5:w.cell? ⟨m,5,none⟩=some (.int .i64 S.fuel):=hI.row.cell rfl;have u6:w.cell? ⟨m,6,none⟩=some (.int .i64 S.task):=hI.row.cell rfl;obtain ⟨hI1,hf1,hk1⟩:=hI.begin task fuel hT hmax;have hfa:Fr Non ((w.setCell ⟨m,6,none⟩ (.int .i64 task)).setCell ⟨m,5,none⟩ (.int .i64 fuel)) (((w.setCell ⟨m,6,none⟩ (.int .i64 task)).setCell ⟨m,5,none⟩ (.int .i64 fuel)).alloc (.cells #[.bool p.p,.int .i64 p.a,.int .i64 p.n] 40)):=(Fr.refl _ _).alloc _;have hrw:Row (((w.setCell ⟨m,6,none⟩ (.int .i64 task)).setCell ⟨m,5,none⟩ (.int .i64 fuel)).alloc (.cells #[.bool p.p,.int .i64 p.a,.int .i64 p.n] 40)) w.heap.size 40 [.bool p.p,.int .i64 p.a,.int .i64 p.n]:=Row.new' (by simp);have hmz:=hI.row.frozen;have hfw:Fr A w (((w.setCell ⟨m,6,none⟩ (.int .i64 task)).setCell ⟨m,5,none⟩ (.int .i64 fuel)).alloc (.cells #[.bool p.p,.int .i64 p.a,.int .i64 p.n] 40)):=(hf1.mono fun x _ e=>by subst e;exact hI.am).trans (hfa.mono fun _ _ h=>h.elim);have hkw:=hk1.trans (Kp.fr hfa hI1.mlt id);have hna:¬ A w.heap.size:=fun e=>by have:=hI.lt _ e;omega
 have hG:=Lib.hid (nstop_c hP (hR fuel.toNat) (hI1.frN hfa) (Nat.le_refl _) hm he p hp);have HH:=Lib.hid (And.intro hI (And.intro hfw (And.intro hkw (And.intro hna hrw))));clear hI hI1 hf1 hk1 hfw hkw hna hP hR hm he hfa hrw;have hnm':¬ m=w.heap.size:=by omega
 go_enter Tryz.func18,Tryz.ntmps18
 go_wp2_with fail
 have hsW:(((w.setCell ⟨m,6,none⟩ (.int .i64 task)).setCell ⟨m,5,none⟩ (.int .i64 fuel)).alloc (.cells #[.bool p.p,.int .i64 p.a,.int .i64 p.n] 40)).heap.size=w.heap.size+1:=by simp
 refine hG.out.mono ?_;rintro e1 w1 ⟨⟨rk,rn⟩,S',rfl,hgo,hA⟩
 have hA':NAft base P A T' w w1 m S':=by
  obtain ⟨A2,k1,k2,k3,k4⟩:=hA;exact ⟨A2,k1,fun x hx=>(k2 x hx).imp id fun e=>by omega,HH.out.2.1.trans k3,HH.out.2.2.1.trans k4⟩
 have c5:w1.cell? ⟨m,5,none⟩=some (.int .i64 S'.fuel):=by obtain ⟨A2,⟨Y2,k1⟩,k2⟩:=hA;exact k1.c5
 have hm1:m<w1.heap.size:=by obtain ⟨A2,⟨Y2,k1⟩,k2⟩:=hA;exact k1.mlt
 have hs1:w.heap.size<w1.heap.size:=by obtain ⟨A2,k1,k2,k3,k4⟩:=hA;have:=k3.size;omega
 have hfu:∃ fu,fu=S'.fuel:=⟨_,rfl⟩;obtain ⟨fu,hfu⟩:=hfu;rw [← hfu] at c5;have HA:=Lib.hid (And.intro hA' (And.intro hgo hfu));clear hA hA' hgo hG hfu hsW;go_wp2_with fail
 go_quiet (fail)
 go_wp2_with fail
 refine bodyPost_ret (v:=.tuple #[.int .i64 rk,.int .i64 rn,.int .i64 fu]) (by simp [results,Tryz.results18,go_sem]) rfl ?_;exact ⟨(rk,rn),S',by rw [← HA.out.2.2],HA.out.2.1,HA.out.1.non (by exact fx)⟩
end
end Go.Proofs.YtlbomnbpahmphaaGreat
