/- Walks: the memory's 'Copy'. Condition: the memory lies in blocks as 'MemL' says. -/
import Derived.Test.YtlbomnbpahmphaaGreatD07
import Derived.Test.YtlbomnbpahmphaaGreatD08
namespace Go.Proofs.YtlbomnbpahmphaaGreat
open Go.RowKit
set_option maxRecDepth 100000
set_option maxHeartbeats 2000000
def Mem.reads (M:Mem) (p:Wd):Nat→List Wd × Int
 | 0=>([],0)
 | k+1=>if (M.reads p k).2≠0 then M.reads p k else if (M.load ⟨p.p,p.a,p.n+k⟩).2≠0 then ((M.reads p k).1,(M.load ⟨p.p,p.a,p.n+k⟩).2) else ((M.reads p k).1 ++ [(M.load ⟨p.p,p.a,p.n+k⟩).1],0)
def Blk.fill (b:Blk) (j:Nat) (l:List Wd):Blk:=⟨splice b.words j l,splice b.set j (List.replicate l.length true),b.freed⟩
def Mem.copy (M:Mem) (p q:Wd) (n:Int):Mem × Int :=
 if n<0 then (M,1) else if (M.reads q n.toNat).2≠0 then (M,(M.reads q n.toNat).2) else if M.errp p n≠0 then (M,M.errp p n)
 else (M.put (p.a - 1).toNat ((M.blk p.a).fill p.n.toNat (M.reads q n.toNat).1),0)
theorem Mem.reads_stop (M:Mem) (p:Wd) {i:Nat} (h:(M.reads p i).2≠0) (j:Nat):M.reads p (i+j)=M.reads p i:=by
 induction j with
 | zero=>rfl
 | succ j ih=>rw [← Nat.add_assoc,Mem.reads,ih,if_pos h]
theorem Mem.load_zero {M:Mem} {p:Wd} (h:(M.load p).2=0):M.errp p 1=0:=by
 unfold Mem.load at h;split at h
 · exact absurd h (by assumption)
 · rename_i h1;simpa using h1
theorem Mem.reads_len (M:Mem) (hM:M.ok) (p:Wd) (k:Nat) (h:(M.reads p k).2=0):(M.reads p k).1.length=k∧(0<k→0≤p.n∧p.n+k≤1048576):=by
 induction k with
 | zero=>exact ⟨rfl,fun h=>absurd h (by omega)⟩
 | succ k ih =>
  unfold Mem.reads at h ⊢;split at h
  · rename_i h1;exact absurd h h1
  · rename_i h1;rw [if_neg h1];have h0:(M.reads p k).2=0:=by simpa using h1
    split at h
    · rename_i h2;exact absurd h h2
    · rename_i h2;rw [if_neg h2];have hl:M.errp ⟨p.p,p.a,p.n+k⟩ 1=0:=Mem.load_zero (by simpa using h2);obtain ⟨e1,e2,e3,e4⟩:=Mem.errp_zero hl;obtain ⟨b1,b2,b3,b4⟩:=Mem.errb_zero e1;simp only at e2 e3 e4 b2 b3
      have hlen:(M.blk p.a).words.length≤1048576:=by
       have hm:M.blk p.a∈M.blocks:=by
        unfold Mem.blk;have:(p.a - 1).toNat<M.blocks.length:=by omega
        rw [List.getD_eq_getElem?_getD,List.getElem?_eq_getElem this];exact List.getElem_mem this
       have:=used_mem hm;have:=hM.used;have:=hM.room;omega
      obtain ⟨i1,i2⟩:=ih h0;refine ⟨by simp [i1],fun _=>⟨?_,by push_cast;omega⟩⟩;by_cases hk:0<k
      · exact (i2 hk).1
      · obtain rfl:k=0:=by omega
        simpa using e2
section
variable {D:Nat→Prop} {w:World} {mb cap bb:Nat} {ao:Option Addr} {arr:List Value} {wb zb:Nat→Nat} {M:Mem}
theorem copy_neg (w:World) (mb:Nat) (p:Bool) (a n:Int) (q:Bool) (b r m:Int) (hm:m<0) :
 Calls Tryz.prog 125 #[.pointer (Option.some ⟨mb,0,none⟩),.agg #[.bool p,.int .i64 a,.int .i64 n],.agg #[.bool q,.int .i64 b,.int .i64 r],.int .i64 m] w fun e w' =>
  e=.returned (.int .i64 1)∧Fr Non w w':=by
 go_enter Tryz.func125,Tryz.ntmps125
 go_wp2
 go_ret
 exact ⟨rfl,fx⟩
theorem flat_one {l:List Wd} (u:Value) (h:u∈flat l):u.oneCell'=true:=by
 simp only [flat,List.mem_flatMap,Wd.cs,List.mem_cons,List.not_mem_nil,or_false] at h;obtain ⟨x,_,rfl|rfl|rfl⟩:=h <;> rfl
theorem copy_nat (h:MemL D w mb ao cap bb arr wb zb M) (p:Bool) (a n:Int) (q:Bool) (b r:Int) (m:Nat) :
 Calls Tryz.prog 125 #[.pointer (Option.some ⟨mb,0,none⟩),.agg #[.bool p,.int .i64 a,.int .i64 n],.agg #[.bool q,.int .i64 b,.int .i64 r],.int .i64 m] w fun e w' =>
  e=.returned (.int .i64 (M.copy ⟨p,a,n⟩ ⟨q,b,r⟩ m).2)∧MemL D w' mb ao cap bb arr wb zb (M.copy ⟨p,a,n⟩ ⟨q,b,r⟩ m).1∧Fr D w w':=by
 obtain ⟨i0,hi,hz0,hz1,hz2⟩:=info_parts Tryz.infoWord;obtain ⟨jb,hjb,hjb0,hjb1,hjb2⟩:=info_parts Tryz.infoBool;have hd0:decide ((m:Int)<0)=false:=decide_eq_false (by omega);have h0m:(0:Int)≤(m:Int):=by omega
 have H0:=Lib.hid h;clear h
 have hc0:M.copy ⟨p,a,n⟩ ⟨q,b,r⟩ m=if (M.reads ⟨q,b,r⟩ m).2≠0 then (M,(M.reads ⟨q,b,r⟩ m).2) else if M.errp ⟨p,a,n⟩ m≠0 then (M,M.errp ⟨p,a,n⟩ m) else (M.put (a - 1).toNat ((M.blk a).fill n.toNat (M.reads ⟨q,b,r⟩ m).1),0):=by
  unfold Mem.copy;rw [if_neg (by omega)];rfl
 generalize M.copy ⟨p,a,n⟩ ⟨q,b,r⟩ m=R at hc0 ⊢;have HR:=Lib.hid hc0;clear hc0;go_enter Tryz.func125,Tryz.ntmps125
 go_wp2_with fail
 have r0:Row ((w.alloc (.cells #[.bool p,.int .i64 a,.int .i64 n] 40)).alloc (.cells #[.bool q,.int .i64 b,.int .i64 r] 40)) w.heap.size 40 [.bool p,.int .i64 a,.int .i64 n]:=Row.alloc (Row.new' rfl) _;have r1:Row ((w.alloc (.cells #[.bool p,.int .i64 a,.int .i64 n] 40)).alloc (.cells #[.bool q,.int .i64 b,.int .i64 r] 40)) (w.heap.size+1) 40 [.bool q,.int .i64 b,.int .i64 r]:=Row.new' (by simp);have hf0:Fr Non w ((w.alloc (.cells #[.bool p,.int .i64 a,.int .i64 n] 40)).alloc (.cells #[.bool q,.int .i64 b,.int .i64 r] 40)):=by exact fx
 generalize (w.alloc (.cells #[.bool p,.int .i64 a,.int .i64 n] 40)).alloc (.cells #[.bool q,.int .i64 b,.int .i64 r] 40)=w0 at *;obtain ⟨d,hd⟩:∃ d,d=w.heap.size:=⟨_,rfl⟩;rw [← hd] at r0 r1 ⊢;have hd2:=Lib.hid hd;clear hd
 go_loopw [9,17] (fun v9 v17 wr=>∃ i:Nat,i≤m∧v17=.int .i64 i∧(M.reads ⟨q,b,r⟩ i).2=0∧Own wr v9 40 3 i (flat (M.reads ⟨q,b,r⟩ i).1)∧(∀ g,v9.ownBlock=Option.some g→d+2≤g)∧Row wr (d+1) 40 [.bool q,.int .i64 b,.int .i64 (r+i)]∧Row wr d 40 [.bool p,.int .i64 a,.int .i64 n]∧Fr Non w wr) (fun _ v17 _=>m - (intOf v17).toNat)
 case atStart=>exact ⟨0,by omega,rfl,rfl,Own.nil _ _ _,(fun g hg=>by cases hg),by simpa using r1,r0,hf0⟩
 case round =>
  obtain ⟨i,him,rfl,hrd,hO,hOg,hR1,hR0,hfr⟩:=hrel;obtain ⟨hlen,hlim⟩:=M.reads_len H0.out.ok ⟨q,b,r⟩ i hrd;by_cases hlt:i<m
  · have hL:=Lib.hid fun w1 (h1:Fr Non w w1)=>load_c (H0.out.fr h1 (fun _ _=>id)) q b (r+i)
    have hnext:M.reads ⟨q,b,r⟩ (i+1)=if (M.load ⟨q,b,r+i⟩).2≠0 then ((M.reads ⟨q,b,r⟩ i).1,(M.load ⟨q,b,r+i⟩).2) else ((M.reads ⟨q,b,r⟩ i).1 ++ [(M.load ⟨q,b,r+i⟩).1],0):=by
     rw [Mem.reads,if_neg (by rw [hrd];simp)]
    have hlz:(M.load ⟨q,b,r+i⟩).2=0→0≤r+i∧r+i<1048576:=fun hz=>by
     have h2:(M.reads ⟨q,b,r⟩ (i+1)).2=0:=by rw [hnext,if_neg (by rw [hz];simp)]
     have:=(M.reads_len H0.out.ok ⟨q,b,r⟩ (i+1) h2).2 (by omega);simp only at this
     push_cast at this
     omega
    obtain ⟨c0,c1,c2,cz⟩:=row3 hR1;have hdl:=hR1.lt;generalize M.load ⟨q,b,r+i⟩=L at *;obtain ⟨⟨xp,xa,xn⟩,er⟩:=L;have HH:=Lib.hid (And.intro hO (And.intro hOg (And.intro hR1 (And.intro hR0 (And.intro hfr (And.intro hlen (And.intro hlim hnext)))))));have hfr0:=hfr;clear hO hOg hR1 hR0 hlim hlen hnext hfr;by_cases her:er=0
    · subst her;obtain ⟨hl0,hl1⟩:=hlz rfl;have hwr:IntKind.i64.wrap (r+i+1)=r+i+1:=IntWalk.i64_in _ (by omega);have hi20:i≤1048576:=by by_cases h:0<i;(· have:=(HH.out.2.2.2.2.2.2.1 h);simp only at this;omega);(· omega)
      have hwi:IntKind.i64.wrap ((i:Int)+1)=(i:Int)+1:=IntWalk.i64_in _ (by omega);go_wp2_with fail
      refine (hL.out wr hfr0).mono ?_;rintro e1 w1 ⟨rfl,hf1⟩;have hO1:Own ((w1.alloc (.cells #[.bool xp,.int .i64 xa,.int .i64 xn] 40)).alloc (.cells #[.bool xp,.int .i64 xa,.int .i64 xn] 40)) u9 40 3 i (flat (M.reads ⟨q,b,r⟩ i).1):=HH.out.1.fr (D:=Non) ((hf1.alloc _).alloc _) (fun _ _=>id)
      obtain ⟨g',cap',w2,hrun,ho2,hf2,hg2,hlt2⟩:=run_app (P:=Tryz.prog) hO1 35 35 i0 _ 24 Tryz.underlying35 hi hz0 hz1 hz2 rfl (by omega) (w1.heap.size+1) 0 1 1 (flat [⟨xp,xa,xn⟩]) rfl (by exact (Row.new' (by simp)).news)
       (fun u hu=>by simp [flat,Wd.cs] at hu;rcases hu with rfl|rfl|rfl <;> rfl) (by omega) (by have:=HH.out.2.2.2.2.2.2.1;omega) (by unfold maxLen;have:=HH.out.2.2.2.2.2.2.1;omega)
      have hs1:=hf1.size;have hR1:Row w1 (d+1) 40 [.bool q,.int .i64 b,.int .i64 (r+i)]:=hf1.row HH.out.2.2.1 id;have hne:∀ g,u9.ownBlock=Option.some g→d+2≤g:=HH.out.2.1;have hR2:Row w2 (d+1) 40 [.bool q,.int .i64 b,.int .i64 (r+i)]:=hf2.row ((hR1.alloc _).alloc _) (fun e=>by have:=hne _ e;omega);obtain ⟨k0,k1,k2,kz⟩:=row3 hR1;obtain ⟨m0,m1,m2,mz⟩:=row3 hR2;have H2:=Lib.hid (And.intro hR2 (And.intro ho2 (And.intro hf2 (And.intro hg2 (And.intro hlt2 hf1)))));clear hR1 hR2 ho2 hf2 hg2 hlt2 hf1 hO1 hne;go_wp2_with (at_builtin;refine wpList_app rfl (.tmp 28) (.tmp 30) _ rfl rfl rfl _ rfl hrun ?_)
      obtain ⟨hR2,ho2,hf2,hg2,hlt2,hf1⟩:=H2.out;obtain ⟨hO,hOg,hR1,hR0,hfr,hlen,hlim,hnext⟩:=HH.out;have hdd:=hd2.out;have hw2:Fr Non w w2:=Fr.then (hfr.trans ((hf1.alloc _).alloc _)) hf2 (fun y hy e=>by have:=hOg y e;omega)
      have hgd:d+2≤g':=by
       rcases hg2 with e|e
       · exact hOg _ e
       · simp at e;omega
      refine ⟨⟨i+1,by omega,by simp,?_,?_,?_,?_,?_,?_⟩,by simp [intOf];omega⟩
      · rw [hnext,if_neg (by simp)]
      · rw [hnext,if_neg (by simp),flat_append];exact Own.fr (D:=fun x=>x=d+1) ho2 (Fr.set1 _ _ _ _) (fun g e e2=>by simp [Value.ownBlock] at e;omega)
      · intro g e;simp [Value.ownBlock] at e;omega
      · have:=hR2.set_same 2 (.int .i64 (r+i+1));simp only [List.set_cons_succ,List.set_cons_zero] at this;rw [show r+((i+1:Nat):Int)=r+i+1 by push_cast;omega];exact this
      · refine Row.set_ne (hf2.row (((hf1.row hR0 id).alloc _).alloc _) (fun e=>by have:=hOg _ e;omega)) (by simp) _
      · exact hw2.setCell (a:=⟨d+1,2,none⟩) (Or.inr (by simp;omega)) _
    · have her':(er == 0)=false:=beq_false_of_ne her;go_wp2_with fail
      refine (hL.out wr hfr0).mono ?_;rintro e1 w1 ⟨rfl,hf1⟩;have H2:=Lib.hid hf1;clear hf1;go_wp2_with fail
      go_ret
      obtain ⟨hO,hOg,hR1,hR0,hfr,hlen,hlim,hnext⟩:=HH.out;have hstop:(M.reads ⟨q,b,r⟩ (i+1)).2≠0:=by rw [hnext,if_pos (by simpa using her)];exact her
      have hm:M.reads ⟨q,b,r⟩ m=M.reads ⟨q,b,r⟩ (i+1):=by
       have:=M.reads_stop ⟨q,b,r⟩ hstop (m - (i+1));rw [show i+1+(m - (i+1))=m by omega] at this;exact this
      have hRR:R=(M,er):=by
       rw [HR.out,hm,if_pos hstop,hnext,if_pos (by simpa using her)]
      have hff:Fr Non w w1:=hfr.trans H2.out;rw [hRR];refine ⟨rfl,?_,?_⟩
      · exact H0.out.fr (E:=Non) (by exact fx) (fun _ _=>id)
      · exact Fr.mono (D:=Non) (by exact fx) (fun _ _ h=>h.elim)
  · obtain rfl:i=m:=by omega
    by_cases her:M.errp ⟨p,a,n⟩ i=0
    · have hP:=Lib.hid fun w1 (h1:Fr Non w w1)=>piece_good (H0.out.fr h1 (fun _ _=>id)) p a n i (by omega) her;obtain ⟨c0,c1,c2,cz⟩:=row3 hR0;obtain ⟨he0,hn0,hm1,hn1⟩:=Mem.errp_zero her;obtain ⟨k,rfl,rfl,hk,hbk,hrow,hok,g1,g2,_,hwr,hzr,dw,dz,dbb,hfrd,hlen20⟩:=H0.out.good he0;have hRR:Hid (R=(M.put ((k:Int)+1 - 1).toNat ((M.blk ((k:Int)+1)).fill n.toNat (M.reads ⟨q,b,r⟩ i).1),0)):=Lib.hid (by rw [HR.out,if_neg (by rw [hrd];simp),if_neg (by simpa using her)]);rw [show ((k:Int)+1 - 1).toNat=k by omega] at hP hRR;simp only at hn0 hm1 hn1;generalize hBB:M.blk ((k:Int)+1)=B at *;generalize hLL:(M.reads ⟨q,b,r⟩ i).1=L at *;obtain ⟨j,rfl⟩:=Int.eq_ofNat_of_zero_le hn0;rw [Int.toNat_natCast] at hRR;obtain ⟨lo,lc,rfl,_,_,hlo,hlo2⟩:=hO.form;have hfa:=hrow.cell g1;have hfb:=hrow.cell g2;have hbw:¬ bb=wb k:=hrow.ne hwr (by decide);have hdw:¬ d=wb k:=by have:=hwr.lt;have:=hd2.out;omega
      have HZ:=Lib.hid (And.intro (show ¬ bb=zb k from hrow.ne hzr (by decide)) (show ¬ d=zb k by have:=hzr.lt;have:=hd2.out;omega));have hbb:=hrow.lt;have HH:=Lib.hid (And.intro hfr (And.intro hfa (And.intro hfb (And.intro hO (And.intro hwr (And.intro hlo (And.intro hbw (And.intro hdw (And.intro hzr (And.intro hok (And.intro hbk (And.intro dw (And.intro dz hfrd)))))))))))));have hdl:=hR0.lt;have htn:((j:Int)).toNat=j:=by omega
      clear hO hOg hR1 hR0 hlim hfr hrd her he0 hrow g1 g2 hwr hzr dw dz dbb hlo hlo2 hfa hfb hbw hdw hok hbk hfrd hBB hLL HR;by_cases hjL:B.words.length=j
      · subst hjL;obtain rfl:i=0:=by omega
        go_wp2_with fail
        refine (hP.out wr HH.out.1).mono ?_;rintro e1 w1 ⟨rfl,hf1⟩;have f1:=hf1.cell (HH.out.1.cell HH.out.2.1 id) id;have f2:=hf1.cell (HH.out.1.cell HH.out.2.2.1 id) id;have k2:=hf1.cell c2 id;have k0:=hf1.cell c0 id;have hO1:=HH.out.2.2.2.1.fr hf1 (fun _ _=>id);have hw1r:=(HH.out.1.trans hf1).row HH.out.2.2.2.2.1 id;have hff:=Lib.hid (HH.out.1.trans hf1);have hs1:=hf1.size;clear hf1 c0 c1 c2 cz;go_wp2_with fail
        go_still_tail 8,(by kernel_rfl)
        refine wpList_plain rfl ?_;intro K hK;refine wp_copy_row (.tmp 53) (.tmp 54) 35 35 rfl 40 i0 3 Tryz.underlying35 hi hz1 _ lo 0 _ 0 lc rfl rfl 0 (by show 0=min 0 _;omega) (wb k) (B.words.length * 3) 40 (flat B.words) (flat L) hw1r.drew (by rw [flat_len];omega) (fun hp=>absurd hp (by omega)) (by rw [flat_len,flat_len];omega) (fun u hu=>flat_one u hu) (fun _=>⟨⟨_,rfl⟩,by cases lo with|none=>exact Or.inl rfl|some x=>exact Or.inr ⟨x,rfl⟩⟩) ?_;intro w2 rz fz;rw [← flat_splice] at rz;have hs2:=fz.size;have f2':=(Fr.trans ((Fr.refl _ w1).drew) fz).cell f2 HH.out.2.2.2.2.2.2.1;have k2':=(Fr.trans ((Fr.refl _ w1).drew) fz).cell k2 HH.out.2.2.2.2.2.2.2.1;have fz':Fr (fun x=>x=wb k) w1 w2:=Fr.trans ((Fr.refl _ w1).drew) fz;have H2:=Lib.hid (And.intro rz fz');clear rz fz fz' f1 f2 k2 k0 hO1 hw1r;refine hK _ _ ?_;clear hK K;simp only [Act.put,List.setIfInBounds_toArray,List.set_cons_succ,List.set_cons_zero];go_wp2_with fail
        have hi20:0≤1048576:=by omega
        have hs0:=hff.out.size;have cW:=@Mix.cls_drew w2 [bb,d];refine Mix.wp_region_mix [3,5] [(0,0),(0,1),(0,2),(1,3),(0,4),(1,5),(0,6),(0,8),(2,7),(2,9),(2,10)] (fun V=>∃ g,V=Mix.upon w2 [bb,d] g) (by kernel_rfl) (by kernel_rfl) cW ?_;clear cW;repeat (first|((first|refine Mix.qa ?_|refine Mix.qb ?_);intro K hK;simp only [nA,nB,nC];go_big_quiet_op;go_big_quiet_on)|refine Mix.qc ?_|refine Mix.qd ?_)
        refine Mix.S_eff rfl rfl ?_;intro K hK;simp only [nA,nB,nC];go_simp;refine hK _ _ ⟨Mix.cls_fr (D:=Non) (by exact fx) (by simp [Non];omega),?_⟩;clear hK K;refine Mix.S_eff rfl rfl ?_;intro K hK;simp only [nA,nB,nC];go_simp;refine (repeat_c _ w2.heap.size 0 (by exact (Row.new' rfl).cell rfl) hi20).mono ?_;rintro e3 w3 ⟨g,rfl,hrg,hgg,hf3⟩;have hs3:=hf3.size;simp only [World.size_alloc,World.size_drew] at hs3 hgg;have hf3':Fr Non w2 w3:=Fr.trans (by exact fx) hf3;refine hK _ _ ⟨Mix.cls_fr (D:=Non) hf3 (by simp [Non];omega),?_⟩;clear hK K hf3;refine Mix.S_eff rfl rfl ?_;intro K hK;simp only [nA,nB,nC];have hz3:Row w3 (zb k) 4 (B.set.map Value.bool):=hf3'.row (H2.out.2.row (hff.out.row HH.out.2.2.2.2.2.2.2.2.1 id) (fun e=>HH.out.2.2.2.2.1.ne HH.out.2.2.2.2.2.2.2.2.1 (by decide) e.symm)) id;have hsl:B.set.length=B.words.length:=HH.out.2.2.2.2.2.2.2.2.2.1.1;refine wp_copy_row (.tmp 62) (.tmp 65) 64 64 rfl 4 jb 1 Tryz.underlying64 hjb hjb1 _ (some ⟨g,0,none⟩) 0 _ 0 0 rfl rfl 0 (by show 0=min 0 _;omega) (zb k) B.words.length 4 _ ((List.replicate L.length true).map Value.bool) hz3 (by simp [hlen]) (fun hp=>absurd hp (by omega)) (by simp;omega) (fun u hu=>by simp at hu;rw [hu.2];rfl) (fun _=>⟨⟨_,rfl⟩,Or.inr ⟨_,rfl⟩⟩) ?_;intro w4 rz4 fz4;rw [← splice_map] at rz4;refine hK _ _ ⟨Mix.cls_fr (D:=fun x=>x=zb k) fz4 (by have h1:=HZ.out.1;have h2:=HZ.out.2;simp;omega),?_⟩;clear hK K;have H4:=Lib.hid (And.intro rz4 (And.intro fz4 hf3'));clear rz4 fz4 hf3' hz3 hrg;simp only [Act.put,List.setIfInBounds_toArray,List.set_cons_succ,List.set_cons_zero];refine Mix.S_done ?_;go_wp2
        go_ret
        obtain ⟨rz4,fz4,hf3'⟩:=H4.out;obtain ⟨rz,fz⟩:=H2.out;obtain ⟨hfr,hfa,hfb,hO,hwr,hlo,hbw,hdw,hzr,hok,hbk,dw,dz,hfrd⟩:=HH.out;have hall:Fr (fun x=>x=wb k∨x=zb k) w w4:=((((hff.out.mono fun _ _ hx=>hx.elim).then fz fun x _ hx=>Or.inl hx).then hf3' fun _ _ hx=>hx.elim).then fz4 fun x _ hx=>Or.inr hx);rw [hRR.out];refine ⟨rfl,?_,hall.mono fun x _ hx=>(by rcases hx with rfl|rfl;exact dw;exact dz)⟩;refine H0.out.upd hbk hfrd hall (b':=B.fill B.words.length L) hfrd (by simp only [Blk.fill];rw [length_splice _ _ _ (by omega)]) (by simp only [Blk.fill];rw [length_splice _ _ _ (by simp;omega),length_splice _ _ _ (by omega)];exact hsl) ?_ rz4;exact fz4.row (hf3'.row rz id) (hwr.ne hzr (by decide))
      · have i2:(j:Int)≤(B.words.length:Int):=by omega
        go_wp2_with fail
        refine (hP.out wr HH.out.1).mono ?_;rintro e1 w1 ⟨rfl,hf1⟩;have f1:=hf1.cell (HH.out.1.cell HH.out.2.1 id) id;have f2:=hf1.cell (HH.out.1.cell HH.out.2.2.1 id) id;have k2:=hf1.cell c2 id;have k0:=hf1.cell c0 id;have hO1:=HH.out.2.2.2.1.fr hf1 (fun _ _=>id);have hw1r:=(HH.out.1.trans hf1).row HH.out.2.2.2.2.1 id;have hff:=Lib.hid (HH.out.1.trans hf1);have hs1:=hf1.size;clear hf1 c0 c1 c2 cz;go_wp2_with fail
        go_still_tail 8,(by kernel_rfl)
        refine wpList_plain rfl ?_;intro K hK;refine wp_copy_row (.tmp 53) (.tmp 54) 35 35 rfl 40 i0 3 Tryz.underlying35 hi hz1 _ lo (B.words.length - j) _ i lc rfl rfl i (by show i=min i _;omega) (wb k) (j * 3) 40 (flat B.words) (flat L) hw1r.drew (by rw [flat_len];omega) (fun hp=>⟨by first|rfl|omega,?_⟩) (by rw [flat_len,flat_len];omega) (fun u hu=>flat_one u hu) (fun _=>⟨⟨_,rfl⟩,by cases lo with|none=>exact Or.inl rfl|some x=>exact Or.inr ⟨x,rfl⟩⟩) ?_
        · obtain ⟨lg,rfl⟩:=HH.out.2.2.2.2.2.1 hp;exact ⟨⟨lg,0,none⟩,rfl,fun j' v hv=>by rw [WideShapes.add_plain,Nat.zero_add];exact hO1.cell rfl hv⟩
        intro w2 rz fz;rw [← flat_splice] at rz;have hs2:=fz.size;have f2':=(Fr.trans ((Fr.refl _ w1).drew) fz).cell f2 HH.out.2.2.2.2.2.2.1;have k2':=(Fr.trans ((Fr.refl _ w1).drew) fz).cell k2 HH.out.2.2.2.2.2.2.2.1;have fz':Fr (fun x=>x=wb k) w1 w2:=Fr.trans ((Fr.refl _ w1).drew) fz;have H2:=Lib.hid (And.intro rz fz');clear rz fz fz' f1 f2 k2 k0 hO1 hw1r;refine hK _ _ ?_;clear hK K;simp only [Act.put,List.setIfInBounds_toArray,List.set_cons_succ,List.set_cons_zero];go_wp2_with fail
        have hi20:i≤1048576:=by omega
        have hs0:=hff.out.size;have cW:=@Mix.cls_drew w2 [bb,d];refine Mix.wp_region_mix [3,5] [(0,0),(0,1),(0,2),(1,3),(0,4),(1,5),(0,6),(0,8),(2,7),(2,9),(2,10)] (fun V=>∃ g,V=Mix.upon w2 [bb,d] g) (by kernel_rfl) (by kernel_rfl) cW ?_;clear cW;repeat (first|((first|refine Mix.qa ?_|refine Mix.qb ?_);intro K hK;simp only [nA,nB,nC];go_big_quiet_op;go_big_quiet_on)|refine Mix.qc ?_|refine Mix.qd ?_)
        refine Mix.S_eff rfl rfl ?_;intro K hK;simp only [nA,nB,nC];go_simp;refine hK _ _ ⟨Mix.cls_fr (D:=Non) (by exact fx) (by simp [Non];omega),?_⟩;clear hK K;refine Mix.S_eff rfl rfl ?_;intro K hK;simp only [nA,nB,nC];go_simp;refine (repeat_c _ w2.heap.size i (by exact (Row.new' rfl).cell rfl) hi20).mono ?_;rintro e3 w3 ⟨g,rfl,hrg,hgg,hf3⟩;have hs3:=hf3.size;simp only [World.size_alloc,World.size_drew] at hs3 hgg;have hf3':Fr Non w2 w3:=Fr.trans (by exact fx) hf3;refine hK _ _ ⟨Mix.cls_fr (D:=Non) hf3 (by simp [Non];omega),?_⟩;clear hK K hf3;refine Mix.S_eff rfl rfl ?_;intro K hK;simp only [nA,nB,nC];have hz3:Row w3 (zb k) 4 (B.set.map Value.bool):=hf3'.row (H2.out.2.row (hff.out.row HH.out.2.2.2.2.2.2.2.2.1 id) (fun e=>HH.out.2.2.2.2.1.ne HH.out.2.2.2.2.2.2.2.2.1 (by decide) e.symm)) id;have hsl:B.set.length=B.words.length:=HH.out.2.2.2.2.2.2.2.2.2.1.1;refine wp_copy_row (.tmp 62) (.tmp 65) 64 64 rfl 4 jb 1 Tryz.underlying64 hjb hjb1 _ (some ⟨g,0,none⟩) (B.words.length - j) _ i i rfl rfl i (by show i=min i _;omega) (zb k) j 4 _ ((List.replicate L.length true).map Value.bool) hz3 (by simp [hlen]) (fun hp=>⟨by first|rfl|omega,⟨g,0,none⟩,rfl,fun j' v hv=>?_⟩) (by simp;omega) (fun u hu=>by simp at hu;rw [hu.2];rfl) (fun _=>⟨⟨_,rfl⟩,Or.inr ⟨_,rfl⟩⟩) ?_
        · rw [WideShapes.add_plain,Nat.zero_add];exact hrg.cell (by simpa [hlen] using hv)
        intro w4 rz4 fz4;rw [← splice_map] at rz4;refine hK _ _ ⟨Mix.cls_fr (D:=fun x=>x=zb k) fz4 (by have h1:=HZ.out.1;have h2:=HZ.out.2;simp;omega),?_⟩;clear hK K;have H4:=Lib.hid (And.intro rz4 (And.intro fz4 hf3'));clear rz4 fz4 hf3' hz3 hrg;simp only [Act.put,List.setIfInBounds_toArray,List.set_cons_succ,List.set_cons_zero];refine Mix.S_done ?_;go_wp2
        go_ret
        obtain ⟨rz4,fz4,hf3'⟩:=H4.out;obtain ⟨rz,fz⟩:=H2.out;obtain ⟨hfr,hfa,hfb,hO,hwr,hlo,hbw,hdw,hzr,hok,hbk,dw,dz,hfrd⟩:=HH.out;have hall:Fr (fun x=>x=wb k∨x=zb k) w w4:=((((hff.out.mono fun _ _ hx=>hx.elim).then fz fun x _ hx=>Or.inl hx).then hf3' fun _ _ hx=>hx.elim).then fz4 fun x _ hx=>Or.inr hx);rw [hRR.out];refine ⟨rfl,?_,hall.mono fun x _ hx=>(by rcases hx with rfl|rfl;exact dw;exact dz)⟩;refine H0.out.upd hbk hfrd hall (b':=B.fill j L) hfrd (by simp only [Blk.fill];rw [length_splice _ _ _ (by omega)]) (by simp only [Blk.fill];rw [length_splice _ _ _ (by simp;omega),length_splice _ _ _ (by omega)];exact hsl) ?_ rz4;exact fz4.row (hf3'.row rz id) (hwr.ne hzr (by decide))
    · have hP:=Lib.hid fun w1 (h1:Fr Non w w1)=>piece_bad (H0.out.fr h1 (fun _ _=>id)) p a n i (by omega) her;have her':(M.errp ⟨p,a,n⟩ i == 0)=false:=beq_false_of_ne her;have hRR:R=(M,M.errp ⟨p,a,n⟩ i):=by rw [HR.out,if_neg (by rw [hrd];simp),if_pos her]
      obtain ⟨c0,c1,c2,cz⟩:=row3 hR0;have HRR:=Lib.hid hRR;clear hRR HR;generalize M.errp ⟨p,a,n⟩ i=er at *;have HH:=Lib.hid hfr;clear hO hOg hR1 hR0 hlim hlen hfr hrd;go_wp2_with fail
      refine (hP.out wr HH.out).mono ?_;rintro e1 w1 ⟨rfl,hf1⟩;have hff:Fr Non w w1:=HH.out.trans hf1;clear hf1;go_wp2_with fail
      go_ret
      rw [HRR.out];refine ⟨rfl,?_,?_⟩
      · exact H0.out.fr (E:=Non) (by exact fx) (fun _ _=>id)
      · exact Fr.mono (D:=Non) (by exact fx) (fun _ _ h=>h.elim)
end
end Go.Proofs.YtlbomnbpahmphaaGreat
