/- Walk: the document's memory: words are copied; and all its operations, with the layout hidden. Condition: the memory lies there, with few cells; not too many words are asked. -/
import Derived.Test.YtlbomnbpahmphaaGreatD24
import Derived.Test.YtlbomnbpahmphaaGreatD25
set_option maxRecDepth 100000
set_option maxHeartbeats 500000
namespace Go.Proofs.YtlbomnbpahmphaaGreat
open Go.RowKit
section
variable {A:Nat→Prop} {B:Nat} {w w':World} {q:Nat} {M:Mem} {bv cv:Value} {R:RM}
theorem qload_j (h:RJ A B w q M) (hB:B≤900000000000) (p:Wd):Calls Tryz.prog 87 #[.pointer (some ⟨q,0,none⟩),.agg #[.bool p.p,.int .i64 p.a,.int .i64 p.n]] w fun e w' =>
 e=.returned (.tuple #[.agg #[.bool (M.load p).1.p,.int .i64 (M.load p).1.a,.int .i64 (M.load p).1.n],.int .i64 (M.load p).2])∧Fr Non w w':=by
 obtain ⟨_,bv,cv,R,h⟩:=h;exact qload_i h (by omega) p
theorem RJ.of (_hA:∀ x,A x→x<w.heap.size) (h:RI A B w q M bv cv R) {cv':Value} {B':Nat} {M':Mem} (hR:∃ R',RI (fun y=>A y∨cv'.ownBlock=some y) B' w' q M' bv cv' R') (hc:∀ g,cv'.ownBlock=some g→A g∨w.heap.size≤g) (f:Fr A w w'):∃ A',RJ A' B' w' q M'∧QF A A' w w':=by
 obtain ⟨R',hR⟩:=hR;refine ⟨_,hR.canon,f,?_⟩;rintro y (rfl|hy|hy)
 · exact Or.inl h.aq
 · exact Or.inl (h.ab y hy)
 · exact hc y hy
theorem qstore_j (h:RJ A B w q M) (hB:B≤900000000000) (p x:Wd):Calls Tryz.prog 43 #[.pointer (some ⟨q,0,none⟩),.agg #[.bool p.p,.int .i64 p.a,.int .i64 p.n],.agg #[.bool x.p,.int .i64 x.a,.int .i64 x.n]] w fun e w' =>
 e=.returned (.int .i64 (M.store p x).2)∧∃ A',RJ A' (B+1) w' q (M.store p x).1∧QF A A' w w':=by
 obtain ⟨hA,bv,cv,R,h⟩:=h;refine (qstore_i h hB p x).mono ?_;rintro e w' ⟨rfl,cv',h1,h2,h3⟩;exact ⟨rfl,RJ.of hA h h1 h2 h3⟩
theorem qclear_j (h:RJ A B w q M) (hB:B≤900000000000) (p:Wd) (n:Int) (hn:n≤1099511627776):Calls Tryz.prog 108 #[.pointer (some ⟨q,0,none⟩),.agg #[.bool p.p,.int .i64 p.a,.int .i64 p.n],.int .i64 n] w fun e w' =>
 e=.returned (.int .i64 (M.clear p n).2)∧∃ A',RJ A' B w' q (M.clear p n).1∧QF A A' w w':=by
 obtain ⟨hA,bv,cv,R,h⟩:=h;refine (qclear_i h hB p n hn).mono ?_;rintro e w' ⟨rfl,cv',h1,h2,h3⟩;exact ⟨rfl,RJ.of hA h h1 h2 h3⟩
theorem qfree_j (h:RJ A B w q M) (p:Wd):Calls Tryz.prog 89 #[.pointer (some ⟨q,0,none⟩),.agg #[.bool p.p,.int .i64 p.a,.int .i64 p.n]] w fun e w' =>
 e=.returned (.int .i64 (M.free p).2)∧∃ A',RJ A' B w' q (M.free p).1∧QF A A' w w':=by
 obtain ⟨hA,bv,cv,R,h⟩:=h;refine (qfree_c h p).mono ?_;rintro e w' ⟨rfl,⟨R',h1⟩,h3⟩;exact ⟨rfl,A,⟨fun x hx=>Nat.lt_of_lt_of_le (hA x hx) h3.size,bv,cv,R',h1⟩,h3,fun x hx=>Or.inl hx⟩
theorem qalloc_j (h:RJ A B w q M) (hN:M.blocks.length≤1000000000000) (n:Int):Calls Tryz.prog 75 #[.pointer (some ⟨q,0,none⟩),.int .i64 n] w fun e w' =>
 e=.returned (.tuple #[.agg #[.bool (M.alloc n).2.1.p,.int .i64 (M.alloc n).2.1.a,.int .i64 (M.alloc n).2.1.n],.int .i64 (M.alloc n).2.2])∧∃ A',RJ A' B w' q (M.alloc n).1∧QF A A' w w':=by
 obtain ⟨hA,bv,cv,R,h⟩:=h;exact qalloc_c h hN hA n
theorem qcheck_j (h:RJ A B w q M) (p:Wd):Calls Tryz.prog 76 #[.pointer (some ⟨q,0,none⟩),.agg #[.bool p.p,.int .i64 p.a,.int .i64 p.n]] w fun e w'=>e=.returned (.int .i64 (M.errb p))∧Fr Non w w':=by
 obtain ⟨_,bv,cv,R,h⟩:=h;exact qcheck_c h p
theorem qhas_j (h:RJ A B w q M) (p:Wd) (he:M.errb p=0) (n:Int) (hn:0≤n∧n≤1099511627776):Calls Tryz.prog 77 #[.pointer (some ⟨q,0,none⟩),.agg #[.bool p.p,.int .i64 p.a,.int .i64 p.n],.int .i64 n] w fun e w'=>e=.returned (.bool (M.errp p n == 0))∧Fr Non w w':=by
 obtain ⟨_,bv,cv,R,h⟩:=h;exact qhas_c h p he n hn
theorem RJ.ok (h:RJ A B w q M):M.ok:=by
 obtain ⟨_,bv,cv,R,h⟩:=h;exact h.rel.ok
theorem RJ.qA (h:RJ A B w q M):A q:=by
 obtain ⟨_,bv,cv,R,h⟩:=h;exact h.aq
def copied (M:Mem) (p:Wd) (l:List Wd):Mem:=M.put (p.a - 1).toNat ((M.blk p.a).fill p.n.toNat l)
theorem copied_nil {p:Wd} (h:M.errb p=0):copied M p []=M:=by
 obtain ⟨_,k,b,ha,hb,hbb,_⟩:=errb_get h;unfold copied;rw [hbb,show (p.a - 1).toNat=k by omega]
 have hf:b.fill p.n.toNat []=b:=by
  unfold Blk.fill splice;simp
 rw [hf];unfold Mem.put
 rw [show M.blocks.set k b=M.blocks from List.ext_getElem? fun i=>by
  rw [List.getElem?_set];by_cases e:k=i
  · subst e;rw [if_pos rfl,if_pos (List.getElem?_eq_some_iff.1 hb).1,hb]
  · rw [if_neg e]]
theorem qcopy_n (h:RJ A B w q M) (p r:Wd) (hr:I64 r.n) (N:Nat) (hN:N≤1048576) (hB:B+N≤900000000000):Calls Tryz.prog 107 #[.pointer (some ⟨q,0,none⟩),.agg #[.bool p.p,.int .i64 p.a,.int .i64 p.n],.agg #[.bool r.p,.int .i64 r.a,.int .i64 r.n],.int .i64 N] w fun e w' =>
 e=.returned (.int .i64 (M.copy p r N).2)∧∃ A',RJ A' (B+N) w' q (M.copy p r N).1∧QF A A' w w':=by
 obtain ⟨i0,hi,hz0,hz1,hz2⟩:=info_parts Tryz.infoWord;have hd0:decide ((N:Int)<0)=false:=decide_eq_false (by omega);have h0m:(0:Int)≤(N:Int):=by omega
 obtain ⟨X,hX⟩:∃ X,X=M.copy p r N:=⟨_,rfl⟩
 have hc0:X=if (M.reads r N).2≠0 then (M,(M.reads r N).2) else if M.errp p N≠0 then (M,M.errp p N) else (copied M p (M.reads r N).1,0):=by
  rw [hX];unfold Mem.copy;rw [if_neg (by omega)];rfl
 rw [← hX];have hMok:=h.ok;have hstop:=fun i (e:(M.reads r i).2≠0) j=>M.reads_stop r e j;have hstf:=fun he l x hl=>stores_fill (M:=M) h.ok (p:=p) (n:=N) he l x hl;have hqA:=h.qA;have hql:=h.1 q hqA;have hkeep:Hid (∀ w1,Fr Non w w1→∃ A',RJ A' (B+N) w1 q M∧QF A A' w w1):=Lib.hid fun w1 f=>⟨A,(h.non f).more (by omega),QF.non f⟩;have hlen:=fun i (e:(M.reads r i).2=0)=>M.reads_len hMok r i e;have HH:=Lib.hid (And.intro h (And.intro hc0 (And.intro hMok (And.intro hstop (And.intro hstf (And.intro hlen hr))))));clear h hc0 hX hMok hstop hstf hlen hr;obtain ⟨pp,pa,pn⟩:=p;obtain ⟨rp,ra,rn⟩:=r;simp only at HH ⊢;go_enter Tryz.func107,Tryz.ntmps107
 go_wp2_with fail
 have r0:Row ((w.alloc (.cells #[.bool pp,.int .i64 pa,.int .i64 pn] 40)).alloc (.cells #[.bool rp,.int .i64 ra,.int .i64 rn] 40)) w.heap.size 40 [.bool pp,.int .i64 pa,.int .i64 pn]:=Row.alloc (Row.new' rfl) _;have r1:Row ((w.alloc (.cells #[.bool pp,.int .i64 pa,.int .i64 pn] 40)).alloc (.cells #[.bool rp,.int .i64 ra,.int .i64 rn] 40)) (w.heap.size+1) 40 [.bool rp,.int .i64 ra,.int .i64 rn]:=Row.new' (by simp);have hf0:Fr Non w ((w.alloc (.cells #[.bool pp,.int .i64 pa,.int .i64 pn] 40)).alloc (.cells #[.bool rp,.int .i64 ra,.int .i64 rn] 40)):=by exact fx
 generalize (w.alloc (.cells #[.bool pp,.int .i64 pa,.int .i64 pn] 40)).alloc (.cells #[.bool rp,.int .i64 ra,.int .i64 rn] 40)=w0 at *;obtain ⟨d,hd⟩:∃ d,d=w.heap.size:=⟨_,rfl⟩;rw [← hd] at r0 r1 ⊢;have hd2:=Lib.hid hd;clear hd
 go_loopg [9,10] N (fun k v9 v10 wr=>∃ i:Nat,i≤N∧k=N - i∧v10=.int .i64 i∧(M.reads ⟨rp,ra,rn⟩ i).2=0∧Own wr v9 40 3 i (flat (M.reads ⟨rp,ra,rn⟩ i).1)∧(∀ g,v9.ownBlock=Option.some g→d+2≤g)∧Row wr (d+1) 40 [.bool rp,.int .i64 ra,.int .i64 rn]∧Row wr d 40 [.bool pp,.int .i64 pa,.int .i64 pn]∧Fr Non w wr)
 case atStart=>exact ⟨0,by omega,rfl,rfl,rfl,Own.nil _ _ _,(fun g hg=>by cases hg),r1,r0,hf0⟩
 case round =>
  obtain ⟨i,him,rfl,rfl,hrd,hO,hOg,hR1,hR0,hfr⟩:=hrel;obtain ⟨hlen,hlim⟩:=HH.out.2.2.2.2.2.1 i hrd;by_cases hlt:i<N
  · have hlt':(i:Int)<(N:Int):=by omega
    have hL:=Lib.hid fun w1 (h1:Fr Non w w1)=>qload_j (HH.out.1.non h1) (by omega) ⟨rp,ra,rn+i⟩
    have hnext:M.reads ⟨rp,ra,rn⟩ (i+1)=if (M.load ⟨rp,ra,rn+i⟩).2≠0 then ((M.reads ⟨rp,ra,rn⟩ i).1,(M.load ⟨rp,ra,rn+i⟩).2) else ((M.reads ⟨rp,ra,rn⟩ i).1 ++ [(M.load ⟨rp,ra,rn+i⟩).1],0):=by
     rw [Mem.reads,if_neg (by rw [hrd];simp)]
    have hwr:IntKind.i64.wrap (rn+(i:Int))=rn+(i:Int):=by
     have h64:=HH.out.2.2.2.2.2.2;unfold I64 at h64;by_cases h0:0<i
     · have:=hlim h0;exact IntWalk.i64_in _ (by omega)
     · obtain rfl:i=0:=by omega
       exact IntWalk.i64_in _ (by omega)
    obtain ⟨c0,c1,c2,cz⟩:=row3 hR1;have hdl:=hR1.lt;simp only at hL;generalize M.load ⟨rp,ra,rn+i⟩=L at *;obtain ⟨⟨xp,xa,xn⟩,er⟩:=L;have HI:=Lib.hid (And.intro hO (And.intro hOg (And.intro hR1 (And.intro hR0 (And.intro hfr (And.intro hlen hnext))))));have hfr0:=hfr;have hwi:IntKind.i64.wrap ((i:Int)+1)=(i:Int)+1:=IntWalk.i64_in _ (by omega);clear hO hOg hR1 hR0 hlim hlen hnext hfr;by_cases her:er=0
    · subst her;go_wp2_with fail
      refine (hL.out wr hfr0).mono ?_;rintro e1 w1 ⟨rfl,hf1⟩;have hO1:Own ((w1.alloc (.cells #[.bool xp,.int .i64 xa,.int .i64 xn] 40)).alloc (.cells #[.bool xp,.int .i64 xa,.int .i64 xn] 40)) u9 40 3 i (flat (M.reads ⟨rp,ra,rn⟩ i).1):=HI.out.1.fr (D:=Non) ((hf1.alloc _).alloc _) (fun _ _=>id)
      obtain ⟨g',cap',w2,hrun,ho2,hf2,hg2,hlt2⟩:=run_app (P:=Tryz.prog) hO1 35 35 i0 _ 24 Tryz.underlying35 hi hz0 hz1 hz2 rfl (by omega) (w1.heap.size+1) 0 1 1 (flat [⟨xp,xa,xn⟩]) rfl (by exact (Row.new' (by simp)).news)
       (fun u hu=>by simp [flat,Wd.cs] at hu;rcases hu with rfl|rfl|rfl <;> rfl) (by omega) (by omega) (by unfold maxLen;omega)
      have hs1:=hf1.size;have hR1:Row w1 (d+1) 40 [.bool rp,.int .i64 ra,.int .i64 rn]:=hf1.row HI.out.2.2.1 id;have H2:=Lib.hid (And.intro ho2 (And.intro hf2 (And.intro hg2 hf1)));clear ho2 hf2 hg2 hlt2 hf1 hO1 hR1 c0 c1 c2 cz;go_wp2_with (at_builtin;refine wpList_app rfl (.tmp 39) (.tmp 41) _ rfl rfl rfl _ rfl hrun ?_)
      go_roundg (N - (i+1))
      case measure=>omega
      case rel =>
       obtain ⟨ho2,hf2,hg2,hf1⟩:=H2.out;obtain ⟨hO,hOg,hR1,hR0,hfr,hlen,hnext⟩:=HI.out;have hnd:∀ x,u9.ownBlock=Option.some x→d+2≤x:=hOg;have hdd:=hd2.out;have hdl1:=hR1.lt;refine ⟨i+1,by omega,rfl,by simp,?_,?_,?_,?_,?_,?_⟩
       · rw [hnext,if_neg (by simp)]
       · rw [hnext,if_neg (by simp),flat_append];exact ho2
       · intro g e;simp [Value.ownBlock] at e;subst e;rcases hg2 with e|e
         · exact hOg _ e
         · simp at e;omega
       · exact hf2.row (((hf1.row hR1 id).alloc _).alloc _) (fun e=>by have:=hOg _ e;omega)
       · exact hf2.row (((hf1.row hR0 id).alloc _).alloc _) (fun e=>by have:=hOg _ e;omega)
       · exact Fr.then (hfr.trans ((hf1.alloc _).alloc _)) hf2 (fun y hy e=>by have:=hOg y e;omega)
    · have her':(er != 0)=true:=by simpa using her
      go_wp2_with fail
      refine (hL.out wr hfr0).mono ?_;rintro e1 w1 ⟨rfl,hf1⟩;have H2:=Lib.hid hf1;clear hf1;go_wp2_with fail
      go_ret
      obtain ⟨hO,hOg,hR1,hR0,hfr,hlen,hnext⟩:=HI.out;have hne:(M.reads ⟨rp,ra,rn⟩ (i+1)).2≠0:=by rw [hnext,if_pos (by simpa using her)];exact her
      have hm:M.reads ⟨rp,ra,rn⟩ N=M.reads ⟨rp,ra,rn⟩ (i+1):=by
       have:=HH.out.2.2.2.1 (i+1) hne (N - (i+1));rw [show i+1+(N - (i+1))=N by omega] at this;exact this
      have hRR:X=(M,er):=by
       rw [HH.out.2.1,hm,if_pos hne,hnext,if_pos (by simpa using her)]
      rw [hRR];exact ⟨rfl,hkeep.out _ (by exact ((hfr.trans H2.out).alloc _))⟩
  · obtain rfl:i=N:=by omega
    have hnlt:¬ ((i:Int)<(i:Int)):=by omega
    have hc:=HH.out.2.1;rw [if_neg (by rw [hrd];simp)] at hc;generalize (M.reads ⟨rp,ra,rn⟩ i).1=L at *;have hCK:=Lib.hid (qcheck_j (HH.out.1.non hfr) ⟨pp,pa,pn⟩);have hHS:=Lib.hid fun w1 (f:Fr Non w w1) he=>qhas_j (HH.out.1.non f) ⟨pp,pa,pn⟩ he i ⟨by omega,by omega⟩;obtain ⟨eb,heb⟩:∃ eb,eb=M.errb ⟨pp,pa,pn⟩:=⟨_,rfl⟩;rw [← heb] at hCK;have HEB:=Lib.hid heb;obtain ⟨lo,lc,rfl,qf1,qf2,hlo,qf3⟩:=hO.form;obtain ⟨c0,c1,c2,cz⟩:=row3 hR0;have hdl:=hR0.lt;have HI:=Lib.hid (And.intro hO (And.intro hOg (And.intro hR0 (And.intro hfr (And.intro hlen (And.intro hc hlo))))));clear hO hOg hR1 hR0 hlim hfr hrd hlen hc heb hlo qf1 qf2 qf3;go_wp2_with fail
    refine hCK.out.mono ?_;rintro e1 w1 ⟨rfl,hf1⟩;have k0:=hf1.cell c0 id;have k1:=hf1.cell c1 id;have k2:=hf1.cell c2 id;have kz:=fun o=>hf1.frozen hdl (cz o) id;have kl:d<w1.heap.size:=by have:=hf1.size;omega
    have H1:=Lib.hid (HI.out.2.2.2.1.trans hf1);have HI1:=Lib.hid hf1;clear hf1 c0 c1 c2 cz;by_cases he0:eb=0
    · subst he0;have hHS2:=Lib.hid (hHS.out w1 H1.out HEB.out.symm);go_wp2_with fail
      refine hHS2.out.mono ?_;rintro e2 w2 ⟨rfl,hf2⟩;have H2:=Lib.hid (And.intro (H1.out.trans hf2) (And.intro (HI.out.1.fr (HI1.out.trans hf2) fun _ _=>id) (hf2.row (HI1.out.row HI.out.2.2.1 id) id)));clear hf2 hHS2 hHS k0 k1 k2 kz kl;by_cases hep:M.errp ⟨pp,pa,pn⟩ i=0
      · have hb:(M.errp ⟨pp,pa,pn⟩ i == 0)=true:=by simp [hep]
        obtain ⟨q0,b0,b1,b2⟩:=errp_get hep;obtain ⟨q1,k0,b,q2,hbk,hbb,q3⟩:=errb_get HEB.out.symm;have hbw:=ok_blk HH.out.2.2.1 hbk;rw [hbb] at b1 b2;simp only at b0 b1 b2;have hpn:0≤pn∧pn≤1048576:=⟨b0,by omega⟩;have hXX:=HI.out.2.2.2.2.2.1;rw [if_neg (by rw [hep];simp)] at hXX;have HX:=Lib.hid (And.intro hXX (And.intro hep (fun l x hl=>HH.out.2.2.2.2.1 hep l x hl)));clear hep b0 b1 b2 hbk hbb hbw q0 q1 q2 q3 hXX hkeep;rw [hb];go_wp2_with fail
        go_loopg [14] i (fun k v14 wr=>∃ j:Nat,j≤i∧k=i - j∧v14=.int .i64 j∧∃ A1,RJ A1 (B+j) wr q (copied M ⟨pp,pa,pn⟩ (L.take j))∧QF A A1 w2 wr)
        case atStart =>
         refine ⟨0,Nat.zero_le _,rfl,rfl,A,?_,QF.refl _ _⟩;rw [List.take_zero,copied_nil HEB.out.symm];exact HH.out.1.non H2.out.1
        case round =>
         obtain ⟨j,hji,rfl,rfl,A1,hJ1,hQ1⟩:=hrel;have hnA:¬ A d:=fun e=>by have:=HH.out.1.1 d e;have:=hd2.out;omega
         have hRd:=hQ1.fr.row H2.out.2.2 hnA;obtain ⟨c0,c1,c2,cz⟩:=row3 hRd;have hdl:=hRd.lt;by_cases hjl:j<i
         · have hj0:(0:Int)≤(j:Int):=by omega
           have hj1:(j:Int)<(i:Int):=by omega
           have hwj:IntKind.i64.wrap ((j:Int)+1)=(j:Int)+1:=IntWalk.i64_in _ (by omega);have hwp:IntKind.i64.wrap (pn+(j:Int))=pn+(j:Int):=IntWalk.i64_in _ (by omega);obtain ⟨g,rfl⟩:=HI.out.2.2.2.2.2.2 (by omega);have hLl:=HI.out.2.2.2.2.1;obtain ⟨⟨xp,xa,xn⟩,hx⟩:∃ x,L[j]?=some x:=⟨L[j]'(by omega),List.getElem?_eq_getElem _⟩;have hOw:=H2.out.2.1.fr hQ1.fr fun y hy e=>by have:=HI.out.2.1 y hy;have:=HH.out.1.1 y e;have:=hd2.out;omega
           obtain ⟨z0,z1,z2⟩:=flat_get hx;have k0:=hOw.cell rfl z0;have k1:=hOw.cell rfl z1;have k2:=hOw.cell rfl z2;have kgl:=hOw.lt (g:=g) rfl;simp only at k0 k1 k2;have htl:(L.take j).length=j:=by rw [List.length_take];omega
           have hst:(copied M ⟨pp,pa,pn⟩ (L.take j)).store ⟨true,pa,pn+j⟩ ⟨xp,xa,xn⟩=(copied M ⟨pp,pa,pn⟩ (L.take j ++ [⟨xp,xa,xn⟩]),0):=by
            have:=HX.out.2.2 (L.take j) ⟨xp,xa,xn⟩ (by rw [htl];omega);rw [htl] at this;exact this
           have htk:L.take j ++ [⟨xp,xa,xn⟩]=L.take (j+1):=by
            have hjL:j<L.length:=by omega
            rw [List.take_succ_eq_append_getElem hjL];have:=List.getElem?_eq_getElem hjL;rw [this] at hx;rw [Option.some.inj hx]
           rw [htk] at hst;have hST:=Lib.hid fun w3 (f:Fr Non wr w3)=>qstore_j (hJ1.non f) (by omega) ⟨true,pa,pn+j⟩ ⟨xp,xa,xn⟩;have HT:=Lib.hid (And.intro hst hQ1);clear hst hJ1 hQ1 hRd hnA hx hOw z0 z1 z2 htl htk hLl c0 cz;go_wp2_with fail
           go_still_tail 12,(by kernel_rfl)
           change wpList _ _ _ _ _ wr.drew;have hS2:=Lib.hid (hST.out wr.drew (Fr.refl _ _).drew);clear c1 c2 k0 k1 k2 kgl hdl hST;go_wp2_with fail
           refine hS2.out.mono ?_;rintro e3 w3 ⟨rfl,A2,hJ2,hQ2⟩;have H3:=Lib.hid (And.intro hJ2 hQ2);clear hJ2 hQ2 hS2;go_wp2_with fail
           go_roundg (i - (j+1))
           case measure=>omega
           case rel =>
            obtain ⟨hJ2,hQ2⟩:=H3.out;rw [HT.out.1] at hJ2;exact ⟨j+1,by omega,rfl,by simp,A2,hJ2,HT.out.2.trans ((QF.non (Fr.refl _ _).drew).trans hQ2)⟩
         · obtain rfl:j=i:=by omega
           have hJH:=Lib.hid (And.intro hJ1 hQ1);clear hJ1 hQ1 hRd hnA c0 c1 c2 cz hdl;go_wp2_with fail
           go_ret
           obtain ⟨hJ1,hQ1⟩:=hJH.out;rw [List.take_of_length_le (by have:=HI.out.2.2.2.2.1;omega)] at hJ1;rw [HX.out.1];exact ⟨rfl,A1,hJ1,(QF.non H2.out.1).trans hQ1⟩
      · have hb:(M.errp ⟨pp,pa,pn⟩ i == 0)=false:=by simp [hep]
        have h13:=errp_13 HEB.out.symm hep;have hXX:=HI.out.2.2.2.2.2.1;rw [if_pos hep,h13] at hXX;have HX:=Lib.hid hXX;clear hXX h13 hep;rw [hb];go_wp2_with fail
        go_ret
        exact ⟨by rw [HX.out];rfl,by rw [HX.out];exact hkeep.out _ H2.out.1⟩
    · have hn0:(eb != 0)=true:=by simpa using he0
      have heq:=errb_of_errp (n:=i) (fun e=>he0 (HEB.out.trans e));have hXX:=HI.out.2.2.2.2.2.1;rw [heq,← HEB.out,if_pos he0] at hXX;have HX:=Lib.hid hXX;clear hXX heq hHS he0;go_wp2_with fail
      go_ret
      exact ⟨by rw [HX.out];rfl,by rw [HX.out];exact hkeep.out _ H1.out⟩
end
end Go.Proofs.YtlbomnbpahmphaaGreat
