/- Walks: the document's memory: how many words, how many blocks, are live; what is dropped; a word is loaded. Condition: the memory lies there. -/
import Derived.Deep.LoopGhost
import Derived.Test.YtlbomnbpahmphaaGreatD21
import Derived.Test.YtlbomnbpahmphaaGreatD23
set_option maxRecDepth 100000
set_option maxHeartbeats 2000000
namespace Go.Proofs.YtlbomnbpahmphaaGreat
open Go.RowKit
section
variable {A A':Nat→Prop} {B:Nat} {w w':World} {q:Nat} {M:Mem} {bv cv:Value} {R:RM} {D:Nat→Prop}
theorem RelM.part (h:RelM R M) (i:Nat):wordsR (R.blocks.take i)=used (M.blocks.take i)∧liveR (R.blocks.take i)=live (M.blocks.take i) :=
 words_used _ _ (by rw [List.length_take,List.length_take,h.len]) (fun k b hb=>by
  have hk:k<i:=by have:=(List.getElem?_eq_some_iff.1 hb).1;rw [List.length_take] at this;omega
  rw [List.getElem?_take,if_pos hk] at hb;obtain ⟨n,h1,h2⟩:=h.blk k b hb
  exact ⟨n,by rw [List.getElem?_take,if_pos hk];exact h1,fun e=>(h2 e).1⟩) fun b hb=>h.ok.blk b (List.mem_of_mem_take hb)
theorem used_take (l:List Blk) (i:Nat):used (l.take i)≤used l:=by
 conv=>rhs;rw [← List.take_append_drop i l]
 rw [used_append];omega
theorem live_take (l:List Blk) (i:Nat):live (l.take i)≤i:=by
 refine Nat.le_trans (live_le _) ?_;rw [List.length_take];omega
theorem qlive_c (h:RI A B w q M bv cv R):Calls Tryz.prog 24 #[.pointer (some ⟨q,0,none⟩)] w fun e w'=>e=.returned (.int .i64 (live M.blocks))∧Fr Non w w':=by
 have c1:=h.lay.row.cell (o:=1) rfl;have hql:=h.lay.row.lt;obtain ⟨ba,bc,ebv,hz1,hz2,hbg,hz3⟩:=h.lay.ob.form;subst ebv;have hmx:R.blocks.length≤maxLen:=by omega
 clear hz1 hz2 hz3;have hlen:=h.rel.len;have HH:=Lib.hid (And.intro h hbg);clear h hbg;go_enter Tryz.func24,Tryz.ntmps24
 go_wp2_with fail
 go_loopg [3,4] R.blocks.length (fun k v3 v4 wq=>wq=w∧∃ i n:Nat,i≤R.blocks.length∧k=R.blocks.length - i∧v4=.int .i64 i∧v3=.int .i64 n∧n=liveR (R.blocks.take i))
 case atStart=>exact ⟨rfl,0,0,Nat.zero_le _,rfl,rfl,rfl,rfl⟩
 case round =>
  obtain ⟨rfl,i,n,hi,rfl,rfl,rfl,hn⟩:=hrel;have hi0:(0:Int)≤(i:Int):=by omega
  by_cases hil:i<R.blocks.length
  · have hi1:(i:Int)<(R.blocks.length:Int):=by omega
    have hi1':(i:Int)<(M.blocks.length:Int):=by omega
    have hi2':i<M.blocks.length:=by omega
    have hwi:IntKind.i64.wrap ((i:Int)+1)=(i:Int)+1:=IntWalk.i64_in _ (by unfold maxLen at hmx;omega);obtain ⟨⟨m,f⟩,hb⟩:∃ b,R.blocks[i]?=some b:=⟨R.blocks[i],List.getElem?_eq_getElem hil⟩;obtain ⟨z1,z2⟩:=rblks_get hb;obtain ⟨g,rfl⟩:=HH.out.2 (by omega);have k1:=HH.out.1.lay.ob.cell rfl z2;have kgl:=HH.out.1.lay.ob.lt (g:=g) rfl;have hnb:n≤i:=by rw [hn,(HH.out.1.rel.part i).2];exact live_take _ _
    have hwn:IntKind.i64.wrap ((n:Int)+1)=(n:Int)+1:=IntWalk.i64_in _ (by unfold maxLen at hmx;omega)
    have hst:liveR (R.blocks.take (i+1))=n+if f then 0 else 1:=by
     have hx:R.blocks[i]=(m,f):=by have:=List.getElem?_eq_getElem hil;rw [this] at hb;exact Option.some.inj hb
     rw [List.take_succ_eq_append_getElem hil,hx,hn];unfold liveR;rw [List.filter_append,List.length_append];cases f <;> rfl
    have HS:=Lib.hid hst;clear hst hn hb z1 z2;cases f with
    | true =>
     go_wp2_with fail
     go_roundg (R.blocks.length - (i+1))
     case measure=>omega
     case rel=>exact ⟨rfl,i+1,n,by omega,by simp,by simp,rfl,HS.out.symm⟩
    | false =>
     go_wp2_with fail
     go_roundg (R.blocks.length - (i+1))
     case measure=>omega
     case rel=>exact ⟨rfl,i+1,n+1,by omega,by simp,by simp,by simp,HS.out.symm⟩
  · have hii:i=R.blocks.length:=by omega
    subst hii;rw [List.take_length,HH.out.1.rel.words.2] at hn;subst hn;have hnlt:¬ ((R.blocks.length:Int)<(R.blocks.length:Int)):=by omega
    go_wp2_with fail
    go_ret
    exact ⟨rfl,Fr.refl _ _⟩
theorem qwords_c (h:RI A B w q M bv cv R):Calls Tryz.prog 100 #[.pointer (some ⟨q,0,none⟩)] w fun e w'=>e=.returned (.int .i64 (used M.blocks))∧w'=w:=by
 have c1:=h.lay.row.cell (o:=1) rfl;have hql:=h.lay.row.lt;obtain ⟨ba,bc,ebv,hz1,hz2,hbg,hz3⟩:=h.lay.ob.form;subst ebv;have hmx:R.blocks.length≤maxLen:=by omega
 clear hz1 hz2 hz3;have hlen:=h.rel.len;have HH:=Lib.hid (And.intro h hbg);clear h hbg;go_enter Tryz.func100,Tryz.ntmps100
 go_wp2_with fail
 go_loopg [3,4] R.blocks.length (fun k v3 v4 wq=>wq=w∧∃ i n:Nat,i≤R.blocks.length∧k=R.blocks.length - i∧v4=.int .i64 i∧v3=.int .i64 n∧n=used (M.blocks.take i))
 case atStart=>exact ⟨rfl,0,0,Nat.zero_le _,rfl,rfl,rfl,rfl⟩
 case round =>
  obtain ⟨rfl,i,n,hi,rfl,rfl,rfl,hn⟩:=hrel;have hi0:(0:Int)≤(i:Int):=by omega
  by_cases hil:i<R.blocks.length
  · have hi1:(i:Int)<(R.blocks.length:Int):=by omega
    have hi1':(i:Int)<(M.blocks.length:Int):=by omega
    have hi2':i<M.blocks.length:=by omega
    have hwi:IntKind.i64.wrap ((i:Int)+1)=(i:Int)+1:=IntWalk.i64_in _ (by unfold maxLen at hmx;omega);obtain ⟨b,hb⟩:∃ b,M.blocks[i]?=some b:=⟨M.blocks[i],List.getElem?_eq_getElem hi2'⟩;obtain ⟨m,z1,z2,z3⟩:=HH.out.1.freed hb;obtain ⟨g,rfl⟩:=HH.out.2 (by omega);have k0:=HH.out.1.lay.ob.cell rfl z1;have k1:=HH.out.1.lay.ob.cell rfl z2;have kgl:=HH.out.1.lay.ob.lt (g:=g) rfl;have hx:M.blocks[i]=b:=by have:=List.getElem?_eq_getElem hi2';rw [this] at hb;exact Option.some.inj hb
    have hst:used (M.blocks.take (i+1))=n+b.words.length:=by
     rw [List.take_succ_eq_append_getElem hi2',hx,hn,used_append];simp [used]
    have hub:=used_take M.blocks (i+1);have hu:=HH.out.1.rel.ok.used;have hrm:=HH.out.1.rel.ok.room;have hfz:=(HH.out.1.rel.ok.blk b (List.mem_of_getElem? hb)).2;have HS:=Lib.hid (And.intro hst (And.intro hub (And.intro hu (And.intro hrm (And.intro hfz z3)))));clear hst hn hb z1 z2 z3 hx hub hu hrm hfz;cases hf:b.freed with
    | true =>
     rw [hf] at k1;have hw0:Hid (b.words.length=0):=Lib.hid (by rw [HS.out.2.2.2.2.1 hf];rfl);clear hf;go_wp2_with fail
     go_roundg (R.blocks.length - (i+1))
     case measure=>omega
     case rel=>exact ⟨rfl,i+1,n,by omega,by simp,by simp,rfl,by rw [HS.out.1,hw0.out];rfl⟩
    | false =>
     rw [hf] at k1;obtain rfl:=HS.out.2.2.2.2.2 hf;have hwn:IntKind.i64.wrap ((n:Int)+(b.words.length:Int))=(n:Int)+(b.words.length:Int):=IntWalk.i64_in _ (by have:=HS.out.1;have:=HS.out.2.1;have:=HS.out.2.2.1;have:=HS.out.2.2.2.1;omega);clear hf;go_wp2_with fail
     go_roundg (R.blocks.length - (i+1))
     case measure=>omega
     case rel=>exact ⟨rfl,i+1,n+b.words.length,by omega,by simp,by simp,by simp,HS.out.1.symm⟩
  · have hii:i=R.blocks.length:=by omega
    subst hii;rw [hlen,List.take_length] at hn;subst hn;have hnlt:¬ ((R.blocks.length:Int)<(R.blocks.length:Int)):=by omega
    go_wp2_with fail
    go_ret
    exact ⟨rfl,rfl⟩
end
theorem Tryz.infoCell:(Tryz.prog.info? 152).map (fun i=>(i.zero,i.size,i.bytes))=some (some (.agg #[.int .i64 0,.int .i64 0,.bool false,.int .i64 0,.int .i64 0]),5,40):=by kernel_rfl
theorem rcells_one (c:RC):∀ u∈rcells [c],u.oneCell'=true:=by
 intro u hu;simp only [rcells_cons,List.mem_cons] at hu;rcases hu with rfl|rfl|rfl|rfl|rfl|hu
 · rfl
 · rfl
 · rfl
 · rfl
 · rfl
 · cases hu
theorem drop_take (cs:List RC) (a n:Int) {i:Nat} {c:RC} (h:cs[i]?=some c):dropC (cs.take (i+1)) a n=dropC (cs.take i) a n ++ if hitC a n c then [] else [c]:=by
 have hi:=(List.getElem?_eq_some_iff.1 h).1;have hx:cs[i]=c:=by have:=List.getElem?_eq_getElem hi;rw [this] at h;exact Option.some.inj h
 rw [List.take_succ_eq_append_getElem hi,hx];unfold dropC;rw [List.filter_append];cases hc:hitC a n c <;> simp [hc]
theorem drop_le (cs:List RC) (a n:Int):(dropC cs a n).length≤cs.length:=List.length_filter_le _ _
section
variable {w:World} {q:Nat} {bv cv:Value} {R:RM}
theorem qdrop_c (h:RL w q bv cv R) (hB:R.cells.length≤1000000000000) (a n:Int):Calls Tryz.prog 78 #[.pointer (some ⟨q,0,none⟩),.int .i64 a,.int .i64 n] w fun e w'=>e=.returned (.tuple #[]) ∧
 ∃ cv',RL w' q bv cv' { R with cells:=dropC R.cells a n }∧(∀ g,cv'.ownBlock=some g→w.heap.size≤g)∧Fr (fun x=>x=q) w w':=by
 obtain ⟨i0,hi0,hi1,hi2,hi3⟩:=info_parts Tryz.infoCell;have c2:=h.row.cell (o:=2) rfl;have hqz:=h.row.frozen;have hql:=h.row.lt;obtain ⟨ca,cc,ecv,hz1,hz2,hcg,hz3⟩:=h.oc.form;subst ecv;clear hz1 hz2 hz3;have HH:=Lib.hid (And.intro h (And.intro hcg hB));clear h hcg hB;go_enter Tryz.func78,Tryz.ntmps78
 go_wp2_with fail
 go_loopg [6,7] R.cells.length (fun k v6 v7 wq=>∃ i:Nat,i≤R.cells.length∧k=R.cells.length - i∧v7=.int .i64 i∧Own wq v6 152 5 (dropC (R.cells.take i) a n).length (rcells (dropC (R.cells.take i) a n))∧(∀ g,v6.ownBlock=some g→w.heap.size≤g)∧Fr Non w wq)
 case atStart=>exact ⟨0,Nat.zero_le _,rfl,rfl,Own.nil _ _ _,fun g hg=>(by cases hg),Fr.refl _ _⟩
 case round =>
  obtain ⟨i,hi,rfl,rfl,ho,hg,hfr⟩:=hrel;obtain ⟨va,vc,rfl,hz1,hz2,hz3,hz4⟩:=ho.form;clear hz1 hz2 hz3 hz4;have hB:=HH.out.2.2;have hi0':(0:Int)≤(i:Int):=by omega
  have d2:=hfr.cell c2 id;have hwr:=hfr.size;have hqr:q<wr.heap.size:=by omega
  by_cases hil:i<R.cells.length
  · have hi1':(i:Int)<(R.cells.length:Int):=by omega
    have hwi:IntKind.i64.wrap ((i:Int)+1)=(i:Int)+1:=IntWalk.i64_in _ (by omega);obtain ⟨c,hc⟩:∃ c,R.cells[i]?=some c:=⟨R.cells[i],List.getElem?_eq_getElem hil⟩;obtain ⟨z0,z1,z2,z3,z4⟩:=rcells_get hc;obtain ⟨g,rfl⟩:=HH.out.2.1 (by omega);have k0:=hfr.cell (HH.out.1.oc.cell rfl z0) id;have k1:=hfr.cell (HH.out.1.oc.cell rfl z1) id;have k2:=hfr.cell (HH.out.1.oc.cell rfl z2) id;have k3:=hfr.cell (HH.out.1.oc.cell rfl z3) id;have k4:=hfr.cell (HH.out.1.oc.cell rfl z4) id;have kgl:=HH.out.1.oc.lt (g:=g) rfl;have kgr:g<wr.heap.size:=by omega
    have hst:=drop_take R.cells a n hc;have hdl:=drop_le (R.cells.take i) a n;rw [List.length_take] at hdl;obtain ⟨ca2,cn,⟨wp,wa,wn⟩⟩:=c;simp only at k0 k1 k2 k3 k4;have hhit:hitC a n ⟨ca2,cn,⟨wp,wa,wn⟩⟩=((ca2 == a) && (cn == n)):=rfl;rw [hhit] at hst;clear hhit hc z0 z1 z2 z3 z4
    have app:Hid (∃ x c' w2,(Builtin.append_ #[114,114] 114 #[.slice va (dropC (R.cells.take i) a n).length vc,.slice (some ⟨wr.heap.size,0,none⟩) 1 1]).run Tryz.prog (wr.alloc (.cells #[.int .i64 ca2,.int .i64 cn,.bool wp,.int .i64 wa,.int .i64 wn] 152))=.ok (.slice x ((dropC (R.cells.take i) a n).length+1) c') w2∧Own w2 (.slice x ((dropC (R.cells.take i) a n).length+1) c') 152 5 ((dropC (R.cells.take i) a n).length+1) (rcells (dropC (R.cells.take i) a n) ++ rcells [⟨ca2,cn,⟨wp,wa,wn⟩⟩])∧(∀ g,(Value.slice x ((dropC (R.cells.take i) a n).length+1) c').ownBlock=some g→w.heap.size≤g)∧Fr Non w w2):=Lib.hid (by
     obtain ⟨x,c',w2,h1,h2,h3,h4⟩:=own_app (P:=Tryz.prog) (w:=wr.alloc (.cells #[.int .i64 ca2,.int .i64 cn,.bool wp,.int .i64 wa,.int .i64 wn] 152)) (ho.fr ((Fr.refl Non wr).alloc _) (fun _ _ h=>h)) 114 i0 _ 40 Tryz.underlying114 hi0 hi1 hi2 hi3 rfl (by omega) (some ⟨wr.heap.size,0,none⟩) 1 1 (rcells [⟨ca2,cn,⟨wp,wa,wn⟩⟩]) rfl (fun _=>⟨_,0,rfl,(by exact (Row.new' rfl).news)⟩) (rcells_one _) (by omega) (by unfold maxLen;omega);refine ⟨x,c',w2,h1,h2,fun g hg2=>?_,(hfr.alloc _).then h3 fun x hx e=>by have:=hg x e;omega⟩;rcases h4 g hg2 with k|k
     · exact hg g k
     · simp at k;omega)
    have HO:=Lib.hid (And.intro ho (And.intro hg (And.intro hfr hst)));clear ho hg hfr hst;have keep:Hid ((((ca2 == a) && (cn == n))=false)→dropC (R.cells.take (i+1)) a n=dropC (R.cells.take i) a n ++ [⟨ca2,cn,⟨wp,wa,wn⟩⟩]):=Lib.hid fun e=>by rw [HO.out.2.2.2,e];rfl
    cases hq1:(ca2 == a) with
    | false =>
     have hn1:(ca2 != a)=true:=by simpa using hq1
     obtain ⟨x,c',w2,hrun,h2,h3,h4⟩:=app.out;have HA:=Lib.hid (And.intro h2 (And.intro h3 h4));clear h2 h3 h4 app;have hk:=keep.out (by rw [hq1];rfl);have HK:=Lib.hid hk;clear hk keep;go_wp2_with (at_builtin;refine wpList_app rfl (.tmp 39) (.tmp 47) _ rfl rfl rfl _ rfl hrun ?_)
     go_roundg (R.cells.length - (i+1))
     case measure=>omega
     case rel =>
      refine ⟨i+1,by omega,rfl,by simp,?_,HA.out.2.1,HA.out.2.2⟩;rw [HK.out,List.length_append,rcells_append];exact HA.out.1
    | true =>
     have hn1:(ca2 != a)=false:=by simpa using hq1
     cases hq2:(cn == n) with
     | false =>
      have hn2:(cn != n)=true:=by simpa using hq2
      obtain ⟨x,c',w2,hrun,h2,h3,h4⟩:=app.out;have HA:=Lib.hid (And.intro h2 (And.intro h3 h4));clear h2 h3 h4 app;have hk:=keep.out (by rw [hq1,hq2];rfl);have HK:=Lib.hid hk;clear hk keep;go_wp2_with (at_builtin;refine wpList_app rfl (.tmp 39) (.tmp 47) _ rfl rfl rfl _ rfl hrun ?_)
      go_roundg (R.cells.length - (i+1))
      case measure=>omega
      case rel =>
       refine ⟨i+1,by omega,rfl,by simp,?_,HA.out.2.1,HA.out.2.2⟩;rw [HK.out,List.length_append,rcells_append];exact HA.out.1
     | true =>
      have hn2:(cn != n)=false:=by simpa using hq2
      clear app keep;go_wp2_with fail
      go_roundg (R.cells.length - (i+1))
      case measure=>omega
      case rel =>
       obtain ⟨ho,hg,hfr,hst⟩:=HO.out;refine ⟨i+1,by omega,rfl,by simp,?_,hg,hfr⟩;rw [hst,hq1,hq2]
       simpa using ho
  · have hii:i=R.cells.length:=by omega
    subst hii;rw [List.take_length] at ho ⊢;have hnlt:¬ ((R.cells.length:Int)<(R.cells.length:Int)):=by omega
    have hqz2:=fun o=>hfr.frozen hql (hqz o) id;have HO:=Lib.hid (And.intro ho (And.intro hg hfr));clear ho hg hfr;go_wp2_with fail
    refine bodyPost_end (results_none rfl _ _ _) rfl ?_;obtain ⟨ho,hg,hfr⟩:=HO.out;refine ⟨rfl,.slice va (dropC R.cells a n).length vc,⟨?_,?_,?_⟩,by rw [List.take_length] at hg;exact hg,(hfr.mono fun _ _ h=>h.elim).trans (Fr.set1 _ _ _ _)⟩
    · exact (hfr.row HH.out.1.row id).set_same 2 _
    · refine (HH.out.1.ob.fr hfr (fun _ _=>id)).fr (Fr.set1 _ _ _ _) fun g hg2 e=>?_;subst e;exact HH.out.1.ob.ne HH.out.1.row (by decide) hg2
    · refine ho.fr (Fr.set1 _ _ _ _) fun g hg2 e=>?_;subst e;rw [List.take_length] at hg;have:=hg _ hg2;omega
end
theorem errb_of_errp {M:Mem} {p:Wd} {n:Int} (h:M.errb p≠0):M.errp p n=M.errb p:=by unfold Mem.errp;rw [if_neg h]
theorem errp_13 {M:Mem} {p:Wd} {n:Int} (h:M.errb p=0) (h2:M.errp p n≠0):M.errp p n=13:=by
 unfold Mem.errp at h2 ⊢;rw [if_pos h] at h2 ⊢;split
 · rfl
 · rename_i h3;rw [if_neg h3] at h2;exact absurd rfl h2
theorem find_first {cs:List RC} {a n:Int} {i:Nat} {c:RC} (h1:cs[i]?=some c) (h2:hitC a n c=true) (h3:∀ j,j<i→∀ d,cs[j]?=some d→hitC a n d=false):findC cs a n=some c.w:=by
 unfold findC;have hi:=(List.getElem?_eq_some_iff.1 h1).1;have hx:cs[i]=c:=by have:=List.getElem?_eq_getElem hi;rw [this] at h1;exact Option.some.inj h1
 rw [← List.take_append_drop i cs,List.find?_append,List.find?_eq_none.2 (fun d hd=>by
  obtain ⟨j,hj,rfl⟩:=List.getElem_of_mem hd;rw [List.length_take] at hj;have:=h3 j (by omega) _ (List.getElem?_eq_getElem (by omega));rw [List.getElem_take,this]
  simp)]
 rw [List.drop_eq_getElem_cons hi,hx,List.find?_cons,h2]
 rfl
theorem find_not {cs:List RC} {a n:Int} (h3:∀ j,j<cs.length→∀ d,cs[j]?=some d→hitC a n d=false):findC cs a n=none:=by
 unfold findC
 rw [List.find?_eq_none.2 (fun d hd=>by
  obtain ⟨j,hj,rfl⟩:=List.getElem_of_mem hd;rw [h3 j hj _ (List.getElem?_eq_getElem hj)]
  simp)]
 rfl
section
variable {A:Nat→Prop} {B:Nat} {w:World} {q:Nat} {M:Mem} {bv cv:Value} {R:RM}
theorem qload_i (h:RI A B w q M bv cv R) (hB:B≤1000000000000) (p:Wd):Calls Tryz.prog 87 #[.pointer (some ⟨q,0,none⟩),.agg #[.bool p.p,.int .i64 p.a,.int .i64 p.n]] w fun e w' =>
 e=.returned (.tuple #[.agg #[.bool (M.load p).1.p,.int .i64 (M.load p).1.a,.int .i64 (M.load p).1.n],.int .i64 (M.load p).2])∧Fr Non w w':=by
 obtain ⟨X,hX⟩:∃ X,X=M.load p:=⟨_,rfl⟩;rw [← hX];unfold Mem.load at hX;have hCK:=Lib.hid fun w1 (f:Fr Non w w1)=>qcheck_c (h.non f) p;have hHS:=Lib.hid fun w1 (f:Fr Non w w1) he=>qhas_c (h.non f) p he 1 ⟨by omega,by omega⟩;have c2:=h.lay.row.cell (o:=2) rfl;have hql:=h.lay.row.lt;obtain ⟨ca,cc,ecv,hz1,hz2,hcg,hz3⟩:=h.lay.oc.form;subst ecv;clear hz1 hz2 hz3;have HH:=Lib.hid (And.intro h (And.intro hX (And.intro hcg (Nat.le_trans h.few hB))));clear h hX hcg;obtain ⟨pp,pa,pn⟩:=p;simp only at hCK hHS ⊢;obtain ⟨eb,heb⟩:∃ eb,eb=M.errb ⟨pp,pa,pn⟩:=⟨_,rfl⟩;rw [← heb] at hCK;have HEB:=Lib.hid heb;clear heb;go_enter Tryz.func87,Tryz.ntmps87
 go_wp2_with fail
 refine (hCK.out _ (by exact fx)).mono ?_;rintro e1 w1 ⟨rfl,hf1⟩;have hp:Row w1 w.heap.size 40 [.bool pp,.int .i64 pa,.int .i64 pn]:=hf1.row (by exact Row.alloc (Row.new' rfl) _) id;have hr:Row w1 (w.heap.size+1) 40 [.bool false,.int .i64 0,.int .i64 0]:=hf1.row (by exact Row.new' (by simp)) id;have hf1':Fr Non w w1:=Fr.trans (by exact fx) hf1;have H1:=Lib.hid (And.intro hf1' (And.intro hp hr));obtain ⟨x0,x1,x2,xz⟩:=row3 hp;obtain ⟨r0,r1,r2,rz⟩:=row3 hr;have l1:=hp.lt;have l2:=hr.lt;clear hf1 hf1' hp hr hCK;by_cases he0:eb=0
 · subst he0;have hHS2:=Lib.hid (hHS.out w1 H1.out.1 HEB.out.symm);go_wp2_with fail
   refine hHS2.out.mono ?_;rintro e2 w2 ⟨rfl,hf2⟩;clear hHS hHS2;have H2:=Lib.hid (And.intro (H1.out.1.trans hf2) (And.intro (hf2.row H1.out.2.1 id) (hf2.row H1.out.2.2 id)));clear hf2 x0 x1 x2 xz r0 r1 r2 rz l1 l2;obtain ⟨x0,x1,x2,xz⟩:=row3 H2.out.2.1;obtain ⟨r0,r1,r2,rz⟩:=row3 H2.out.2.2;have l1:=H2.out.2.1.lt;have l2:=H2.out.2.2.lt;by_cases hep:M.errp ⟨pp,pa,pn⟩ 1=0
   · have hb:(M.errp ⟨pp,pa,pn⟩ 1 == 0)=true:=by simp [hep]
     have hfind:=HH.out.1.rel.find hep;have hXX:=HH.out.2.1;rw [if_neg (by rw [hep];simp)] at hXX;have HX:=Lib.hid (And.intro hXX hfind);clear hXX hfind hep;rw [hb];have d2:=H2.out.1.cell c2 id;have hq2:q<w2.heap.size:=by have:=H2.out.1.size;omega
     go_wp2_with fail
     go_loopg [7] R.cells.length (fun k v7 wq=>∃ i:Nat,i≤R.cells.length∧k=R.cells.length - i∧v7=.int .i64 i∧(∀ j,j<i→∀ d,R.cells[j]?=some d→hitC pa pn d=false)∧Fr Non w2 wq)
     case atStart=>exact ⟨0,Nat.zero_le _,rfl,rfl,fun j hj=>(by omega),Fr.refl _ _⟩
     case round =>
      obtain ⟨i,hi,rfl,rfl,hall,hfr⟩:=hrel;have hB2:=HH.out.2.2.2;have hi0':(0:Int)≤(i:Int):=by omega
      have d2:=hfr.cell d2 id;have x0:=hfr.cell x0 id;have x1:=hfr.cell x1 id;have x2:=hfr.cell x2 id;have r0:=hfr.cell r0 id;have r1:=hfr.cell r1 id;have r2:=hfr.cell r2 id;have rz:=fun o=>hfr.frozen l2 (rz o) id;have hwr:=hfr.size;have hqr:q<wr.heap.size:=by omega
      have l1r:w.heap.size<wr.heap.size:=by omega
      have l2r:w.heap.size+1<wr.heap.size:=by omega
      by_cases hil:i<R.cells.length
      · have hi1':(i:Int)<(R.cells.length:Int):=by omega
        have hwi:IntKind.i64.wrap ((i:Int)+1)=(i:Int)+1:=IntWalk.i64_in _ (by omega);obtain ⟨c,hc⟩:∃ c,R.cells[i]?=some c:=⟨R.cells[i],List.getElem?_eq_getElem hil⟩;obtain ⟨z0,z1,z2,z3,z4⟩:=rcells_get hc;obtain ⟨g,rfl⟩:=HH.out.2.2.1 (by omega);have hfo:=HH.out.1.lay.oc.fr (H2.out.1.trans hfr) (fun _ _=>id);have k0:=hfo.cell rfl z0;have k1:=hfo.cell rfl z1;have k2:=hfo.cell rfl z2;have k3:=hfo.cell rfl z3;have k4:=hfo.cell rfl z4;have kgl:=hfo.lt (g:=g) rfl;obtain ⟨ca2,cn,⟨wp,wa,wn⟩⟩:=c;simp only at k0 k1 k2 k3 k4;have hhit:hitC pa pn ⟨ca2,cn,⟨wp,wa,wn⟩⟩=((ca2 == pa) && (cn == pn)):=rfl;have HC:=Lib.hid (And.intro hall (And.intro hfr (And.intro hc hhit)));clear hall hfr hc hhit z0 z1 z2 z3 z4 hfo
        have hnext:Hid (((ca2 == pa) && (cn == pn))=false→∀ j,j<i+1→∀ d,R.cells[j]?=some d→hitC pa pn d=false):=Lib.hid fun e j hj d hd=>by
         rcases Nat.lt_succ_iff_lt_or_eq.1 hj with h|rfl
         · exact HC.out.1 j h d hd
         · rw [HC.out.2.2.1] at hd;cases hd
           rw [HC.out.2.2.2,e]
        cases hq1:(ca2 == pa) with
        | false =>
         have HN:=Lib.hid (hnext.out (by rw [hq1];rfl));clear hnext;go_wp2_with fail
         go_quiet (fail)
         go_wp2_with fail
         go_roundg (R.cells.length - (i+1))
         case measure=>omega
         case rel=>exact ⟨i+1,by omega,rfl,by simp,HN.out,HC.out.2.1.drewN _⟩
        | true =>
         cases hq2:(cn == pn) with
         | false =>
          have HN:=Lib.hid (hnext.out (by rw [hq1,hq2];rfl));clear hnext;go_wp2_with fail
          go_quiet (fail)
          go_wp2_with fail
          go_roundg (R.cells.length - (i+1))
          case measure=>omega
          case rel=>exact ⟨i+1,by omega,rfl,by simp,HN.out,HC.out.2.1.drewN _⟩
         | true =>
          have hff:=find_first HC.out.2.2.1 (by rw [HC.out.2.2.2,hq1,hq2];rfl) HC.out.1;have hXv:=HX.out.1;have hfd:=HX.out.2;rw [hff] at hfd
          have hXf:X=(⟨wp,wa,wn⟩,0):=by
           rw [hXv];cases hs:(M.blk pa).set.getD pn.toNat false with
           | false=>rw [hs] at hfd;simp at hfd
           | true =>
            rw [hs,if_pos rfl] at hfd;rw [if_neg (by simp)];rw [← Option.some.inj hfd]
          have HXF:=Lib.hid hXf;clear hXf hXv hfd hff hnext;go_wp2_with fail
          go_quiet (fail)
          go_wp2_with fail
          refine bodyPost_ret (v:=.tuple #[.agg #[.bool wp,.int .i64 wa,.int .i64 wn],.int .i64 0]) (by simp [results,Tryz.results87,go_sem,r0,r1,r2]) rfl ⟨by rw [HXF.out],?_⟩;exact (((((H2.out.1.trans HC.out.2.1).drewN _).set_new (by omega)).set_new (by omega)).set_new (by omega))
      · have hii:i=R.cells.length:=by omega
        subst hii;have hff:=find_not hall;have hXv:=HX.out.1;have hfd:=HX.out.2;rw [hff] at hfd
        have hXf:X=(Wd.zero,14):=by
         rw [hXv];cases hs:(M.blk pa).set.getD pn.toNat false with
         | false=>rw [if_pos rfl]
         | true=>rw [hs] at hfd;simp at hfd
        have HXF:=Lib.hid (And.intro hXf hfr);have hnlt:¬ ((R.cells.length:Int)<(R.cells.length:Int)):=by omega
        clear hXf hXv hfd hff hall hfr;go_wp2_with fail
        refine bodyPost_ret (v:=.tuple #[.agg #[.bool false,.int .i64 0,.int .i64 0],.int .i64 14]) (by simp [results,Tryz.results87,go_sem,r0,r1,r2]) rfl ⟨by rw [HXF.out.1];rfl,?_⟩;exact ((((H2.out.1.trans HXF.out.2).set_new (by omega)).set_new (by omega)).set_new (by omega))
   · have hb:(M.errp ⟨pp,pa,pn⟩ 1 == 0)=false:=by simp [hep]
     have h13:=errp_13 HEB.out.symm hep;have hXX:=HH.out.2.1;rw [if_pos hep,h13] at hXX;have HX:=Lib.hid hXX;clear hXX h13 hep;rw [hb];go_wp2_with fail
     refine bodyPost_ret (v:=.tuple #[.agg #[.bool false,.int .i64 0,.int .i64 0],.int .i64 13]) (by simp [results,Tryz.results87,go_sem,r0,r1,r2]) rfl ⟨by rw [HX.out];rfl,?_⟩;exact (((H2.out.1.set_new (by omega)).set_new (by omega)).set_new (by omega))
 · have hn0:(eb != 0)=true:=by simpa using he0
   have hXX:=HH.out.2.1;have heq:=errb_of_errp (n:=1) (fun e=>he0 (HEB.out.trans e));rw [heq,← HEB.out,if_pos he0] at hXX;have HX:=Lib.hid hXX;clear hXX heq hHS he0;go_wp2_with fail
   refine bodyPost_ret (v:=.tuple #[.agg #[.bool false,.int .i64 0,.int .i64 0],.int .i64 eb]) (by simp [results,Tryz.results87,go_sem,r0,r1,r2]) rfl ⟨by rw [HX.out];rfl,?_⟩;exact (((H1.out.1.set_new (by omega)).set_new (by omega)).set_new (by omega))
end
theorem Own.setk {w:World} {T:TypeId} {n c g k:Nat} {cs:List Value} (h:Own w (.slice (some ⟨g,0,none⟩) n c) T k n cs) (i:Nat) (v:Value):Own (w.setCell ⟨g,i,none⟩ v) (.slice (some ⟨g,0,none⟩) n c) T k n (cs.set i v):=by
 obtain ⟨_,h2⟩:=h;rcases h2 with ⟨e,_⟩|⟨g',cap,cur,e,_,h3,h4,h5,h6,h7⟩
 · cases e
 · cases e
   have hr:Row w g T cur.toList:=h3;have:=Own.mk (hr.set_same i v) (k:=k) (len:=n) (cap:=c) (by simpa using h6) h4 h5;rw [List.take_set,h7] at this;exact this
theorem rblks_set (l:List (Int × Bool)) (k:Nat) {m:Int} {f:Bool} (h:l[k]?=some (m,f)) (f':Bool):(rblks l).set (k * 2+1) (.bool f')=rblks (l.set k (m,f')):=by
 induction l generalizing k with
 | nil=>simp at h
 | cons x l ih =>
  cases k with
  | zero=>simp at h;subst h;simp [rblks_cons]
  | succ k =>
   have:=ih k (by simpa using h);rw [List.set_cons_succ,rblks_cons,rblks_cons,← this,show (k+1) * 2+1=k * 2+1+2 by omega]
   rfl
section
variable {A:Nat→Prop} {B:Nat} {w w':World} {q:Nat} {M:Mem} {bv cv:Value} {R:RM}
theorem RI.upB (h:RI A B w q M bv cv R) {n c g i:Nat} (hbv:bv=.slice (some ⟨g,0,none⟩) n c) {v:Value} {M':Mem} {l:List (Int × Bool)} (hl:rblks l=(rblks R.blocks).set i v) (hn:l.length=R.blocks.length) (hR:RelM { R with blocks:=l } M'):RI A B (w.setCell ⟨g,i,none⟩ v) q M' bv cv { R with blocks:=l }:=by
 subst hbv;have hlen:=h.lay.ob.form;obtain ⟨_,_,e,_⟩:=hlen;cases e
 have hqg:=h.lay.ob.ne h.lay.row (by decide);have hrow:=h.lay.row.set_ne (a:=⟨g,i,none⟩) (fun e=>hqg (congrArg some e.symm)) v;refine ⟨⟨hrow,?_,h.lay.oc.fr (Fr.set1 _ _ _ _) fun x hx e=>?_⟩,hR,h.aq,h.ab,h.ac,h.few⟩
 · rw [hl];simp only [hn];exact h.lay.ob.setk i v
 · subst e;obtain ⟨arr,hr⟩:=h.lay.ob.row (g:=x) rfl;exact h.lay.oc.ne hr (by decide) hx
theorem qfree_c (h:RI A B w q M bv cv R) (p:Wd):Calls Tryz.prog 89 #[.pointer (some ⟨q,0,none⟩),.agg #[.bool p.p,.int .i64 p.a,.int .i64 p.n]] w fun e w' =>
 e=.returned (.int .i64 (M.free p).2)∧(∃ R',RI A B w' q (M.free p).1 bv cv R')∧Fr A w w':=by
 obtain ⟨X,hX⟩:∃ X,X=M.free p:=⟨_,rfl⟩;rw [← hX];unfold Mem.free at hX;have hCK:=Lib.hid fun w1 (f:Fr Non w w1)=>qcheck_c (h.non f) p;have c1:=h.lay.row.cell (o:=1) rfl;have hql:=h.lay.row.lt;obtain ⟨ba,bc,ebv,hz1,hz2,hbg,hz3⟩:=h.lay.ob.form;have hmx:R.blocks.length≤maxLen:=by omega
 clear hz1 hz2 hz3;have hlen:=h.rel.len;rw [ebv] at c1;have HH:=Lib.hid (And.intro h (And.intro hX (And.intro hbg ebv)));clear h hX hbg ebv;obtain ⟨pp,pa,pn⟩:=p;simp only at hCK ⊢;obtain ⟨eb,heb⟩:∃ eb,eb=M.errb ⟨pp,pa,pn⟩:=⟨_,rfl⟩;rw [← heb] at hCK;have HEB:=Lib.hid heb;clear heb;go_enter Tryz.func89,Tryz.ntmps89
 go_wp2_with fail
 refine (hCK.out _ (by exact fx)).mono ?_;rintro e1 w1 ⟨rfl,hf1⟩;have hp:Row w1 w.heap.size 40 [.bool pp,.int .i64 pa,.int .i64 pn]:=hf1.row (by exact Row.new' rfl) id;have hf1':Fr Non w w1:=Fr.trans (by exact fx) hf1;have H1:=Lib.hid (And.intro hf1' hp);obtain ⟨x0,x1,x2,xz⟩:=row3 hp;have l1:=hp.lt;have d1:=hf1'.cell c1 id;have hq1:q<w1.heap.size:=by have:=hf1'.size;omega
 clear hf1 hf1' hp hCK;by_cases he0:eb=0
 · subst he0;have hXX:=HH.out.2.1;rw [if_neg (by rw [← HEB.out];simp)] at hXX;by_cases hn:pn=0
   · subst hn;have hn0:((0:Int) != 0)=false:=rfl;rw [if_neg (by simp)] at hXX;obtain ⟨hpp,k,b,ha,hb,hbb,hf⟩:=errb_get HEB.out.symm;simp only at ha hpp;have hkl:k<M.blocks.length:=(List.getElem?_eq_some_iff.1 hb).1;obtain ⟨g,rfl⟩:=HH.out.2.2.1 (by omega);obtain ⟨m,hm,_⟩:=HH.out.1.rel.blk k b hb;have hfree:=HH.out.1.rel.free HEB.out.symm m;rw [show ((pa:Int) - 1).toNat=k by omega] at hfree hXX;obtain ⟨arr,hrow⟩:=HH.out.1.lay.ob.row (g:=g) (by rw [HH.out.2.2.2];rfl);have gz:=(H1.out.1.row hrow id).frozen;obtain ⟨n0,z1,z2,_⟩:=HH.out.1.freed hb;have hob:=HH.out.1.lay.ob;rw [HH.out.2.2.2] at hob;have k1:=H1.out.1.cell (hob.cell rfl z2) id;have gl:=(H1.out.1.row hrow id).lt;have hw:IntKind.i64.wrap (pa - 1)=(k:Int):=by rw [ha,Int.add_sub_cancel];exact IntWalk.i64_in _ (by unfold maxLen at hmx;omega)
     have j0:(0:Int)≤(k:Int):=by omega
     have j1:(k:Int)<(R.blocks.length:Int):=by omega
     have j1':(k:Int)<(M.blocks.length:Int):=by omega
     have j2:k<R.blocks.length:=by omega
     have HX:=Lib.hid (And.intro hXX (And.intro hfree (And.intro hm hrow)));clear hXX hfree hm hrow hb hbb hf ha hpp hob z1 z2;go_wp2_with fail
     go_still_tail 9,(by kernel_rfl)
     change wpList _ _ _ _ _ w1.drew;have hfU:Fr Non w1 w1.drew:=(Fr.refl _ _).drew;have gz2:=fun o=>hfU.frozen gl (gz o) id;have gl2:g<w1.drew.heap.size:=gl;have k2:=hfU.cell k1 id;have HU:=Lib.hid (H1.out.1.trans hfU);clear x0 x1 x2 xz d1 gz gl hfU k1;generalize w1.drew=U at *;go_wp2_with fail
     go_ret
     have hI:=(HH.out.1.non HU.out).upB HH.out.2.2.2 (rblks_set _ k HX.out.2.2.1 true).symm (by simp) HX.out.2.1;refine ⟨by rw [HX.out.1];rfl,⟨_,by rw [HX.out.1];exact hI⟩,?_⟩;exact (HU.out.mono fun _ _ e=>e.elim).setCell (a:=⟨g,_,none⟩) (Or.inl (HH.out.1.ab g (by rw [HH.out.2.2.2];rfl))) _
   · have hn0:(pn != 0)=true:=by simpa using hn
     rw [if_pos hn] at hXX;have HX:=Lib.hid hXX;clear hXX hn;go_wp2_with fail
     go_ret
     exact ⟨by rw [HX.out];rfl,⟨R,by rw [HX.out];exact HH.out.1.non H1.out.1⟩,H1.out.1.mono fun _ _ e=>e.elim⟩
 · have hn0:(eb != 0)=true:=by simpa using he0
   have hXX:=HH.out.2.1;rw [if_pos (by rw [← HEB.out];exact he0),← HEB.out] at hXX;have HX:=Lib.hid hXX;clear hXX he0;go_wp2_with fail
   go_ret
   exact ⟨by rw [HX.out];rfl,⟨R,by rw [HX.out];exact HH.out.1.non H1.out.1⟩,H1.out.1.mono fun _ _ e=>e.elim⟩
end
section
variable {A:Nat→Prop} {B:Nat} {w w':World} {q:Nat} {M:Mem} {bv cv:Value} {R:RM}
theorem qstore_i (h:RI A B w q M bv cv R) (hB:B≤900000000000) (p x:Wd):Calls Tryz.prog 43 #[.pointer (some ⟨q,0,none⟩),.agg #[.bool p.p,.int .i64 p.a,.int .i64 p.n],.agg #[.bool x.p,.int .i64 x.a,.int .i64 x.n]] w fun e w' =>
 e=.returned (.int .i64 (M.store p x).2)∧∃ cv',(∃ R',RI (fun y=>A y∨cv'.ownBlock=some y) (B+1) w' q (M.store p x).1 bv cv' R')∧(∀ g,cv'.ownBlock=some g→A g∨w.heap.size≤g)∧Fr A w w':=by
 obtain ⟨X,hX⟩:∃ X,X=M.store p x:=⟨_,rfl⟩;have hrs:=fun he=>h.rel.store (p:=p) he x;have hsm:M.errp p 1≠0→M.store p x=(M,M.errp p 1):=fun he=>by unfold Mem.store;rw [if_pos he]
 have hs0:M.errp p 1=0→(M.store p x).2=0:=fun he=>by unfold Mem.store;rw [if_neg (by rw [he];simp)]
 rw [← hX] at hrs hsm hs0 ⊢;have hCK:=Lib.hid fun w1 (f:Fr Non w w1)=>qcheck_c (h.non f) p;have hHS:=Lib.hid fun w1 (f:Fr Non w w1) he=>qhas_c (h.non f) p he 1 ⟨by omega,by omega⟩;have hfew:=h.few;have hDR:=Lib.hid fun w1 (f:Fr Non w w1)=>qdrop_c (h.non f).lay (by omega) p.a p.n;have hkeep:Hid (∀ w1,Fr Non w w1→∃ cv',(∃ R',RI (fun y=>A y∨cv'.ownBlock=some y) (B+1) w1 q M bv cv' R')∧(∀ g,cv'.ownBlock=some g→A g∨w.heap.size≤g)∧Fr A w w1):=Lib.hid fun w1 f=>⟨cv,⟨R,⟨(h.non f).lay,h.rel,Or.inl h.aq,fun g hg=>Or.inl (h.ab g hg),fun g hg=>Or.inr hg,by omega⟩⟩,fun g hg=>Or.inl (h.ac g hg),f.mono fun _ _ e=>e.elim⟩;have hql:=h.lay.row.lt;have HH:=Lib.hid (And.intro h (And.intro hrs (And.intro hsm (And.intro hs0 hfew))));clear h hX hrs hsm hs0 hfew;obtain ⟨pp,pa,pn⟩:=p;obtain ⟨xp,xa,xn⟩:=x;simp only at hCK hHS hDR ⊢;obtain ⟨eb,heb⟩:∃ eb,eb=M.errb ⟨pp,pa,pn⟩:=⟨_,rfl⟩;rw [← heb] at hCK;have HEB:=Lib.hid heb;clear heb;go_enter Tryz.func43,Tryz.ntmps43
 go_wp2_with fail
 refine (hCK.out _ (by exact fx)).mono ?_;rintro e1 w1 ⟨rfl,hf1⟩;have hp:Row w1 w.heap.size 40 [.bool pp,.int .i64 pa,.int .i64 pn]:=hf1.row (by exact Row.alloc (Row.new' rfl) _) id;have hr:Row w1 (w.heap.size+1) 40 [.bool xp,.int .i64 xa,.int .i64 xn]:=hf1.row (by exact Row.new' (by simp)) id;have hf1':Fr Non w w1:=Fr.trans (by exact fx) hf1;have H1:=Lib.hid (And.intro hf1' (And.intro hp hr));obtain ⟨x0,x1,x2,xz⟩:=row3 hp;have l1:=hp.lt;clear hf1 hf1' hp hr hCK;by_cases he0:eb=0
 · subst he0;have hHS2:=Lib.hid (hHS.out w1 H1.out.1 HEB.out.symm);go_wp2_with fail
   refine hHS2.out.mono ?_;rintro e2 w2 ⟨rfl,hf2⟩;clear hHS hHS2;have H2:=Lib.hid (And.intro (H1.out.1.trans hf2) (And.intro (hf2.row H1.out.2.1 id) (hf2.row H1.out.2.2 id)));clear hf2 x0 x1 x2 xz l1;obtain ⟨x0,x1,x2,xz⟩:=row3 H2.out.2.1;have l1:=H2.out.2.1.lt;by_cases hep:M.errp ⟨pp,pa,pn⟩ 1=0
   · have hb:(M.errp ⟨pp,pa,pn⟩ 1 == 0)=true:=by simp [hep]
     have HX:=Lib.hid (And.intro (HH.out.2.1 hep) (HH.out.2.2.2.1 hep));have hDR2:=Lib.hid (hDR.out w2 H2.out.1);clear hep hDR hkeep;rw [hb];go_wp2_with fail
     refine hDR2.out.mono ?_;rintro e3 w3 ⟨rfl,cv3,hL3,hg3,hf3⟩;clear hDR2 x0 x1 x2 xz l1 hb;have hne:¬ w.heap.size=q∧¬ w.heap.size+1=q:=⟨by omega,by omega⟩;have hp3:=hf3.row H2.out.2.1 hne.1;have hr3:=hf3.row H2.out.2.2 hne.2;have hs2:=H2.out.1.size;have hs3:=hf3.size;obtain ⟨i0,hi0,hi1,hi2,hi3⟩:=info_parts Tryz.infoCell;obtain ⟨ca,cc,ecv,hz1,hz2,hcg,hz3⟩:=hL3.oc.form;subst ecv;have hdl:=drop_le R.cells pa pn;have hR3:=hL3.row;have hno:=hL3.oc.ne hL3.row (by decide);have hnp:=hL3.oc.ne hp3 (by decide);have hnr:=hL3.oc.ne hr3 (by decide);have H3:=Lib.hid (And.intro hL3 (And.intro hg3 (And.intro hf3 (And.intro hp3 (And.intro hr3 (And.intro hno (And.intro hnp hnr)))))));obtain ⟨x0,x1,x2,xz⟩:=row3 hp3;obtain ⟨y0,y1,y2,yz⟩:=row3 hr3;have q2:=hR3.cell (o:=2) rfl;simp only at q2;have l1:=hp3.lt;have l2:=hr3.lt;have lq:=hR3.lt;have hfe:=HH.out.2.2.2.2;clear hL3 hg3 hf3 hp3 hr3 hR3 hno hnp hnr hz1 hz2 hcg hz3;go_wp2_with fail
     have cW:=@Mix.cls_drew w3 [q,w.heap.size,w.heap.size+1];refine Mix.wp_region_mix [4,6,8,9] [(0,0),(0,1),(0,2),(0,3),(1,4),(0,5),(1,6),(0,7),(1,8),(1,9),(0,10),(2,11),(2,12),(0,13),(0,14),(3,15)] (fun V=>∃ g,V=Mix.upon w3 [q,w.heap.size,w.heap.size+1] g) (by kernel_rfl) (by kernel_rfl) cW ?_;clear cW;repeat (first|((first|refine Mix.qa ?_|refine Mix.qb ?_);intro K hK;simp only [nA,nB,nC];go_big_quiet_op;go_big_quiet_on)|refine Mix.qc ?_|refine Mix.qd ?_)
     refine Mix.S_eff rfl rfl ?_;intro K hK;simp only [nA,nB,nC];go_simp;refine hK _ _ ⟨Mix.cls_fr (D:=Non) (by exact fx) (by simp [Non];omega),?_⟩;clear hK K;refine Mix.S_eff rfl rfl ?_;intro K hK;simp only [nA,nB,nC];refine wp_app_own (.tmp 28) (.tmp 35) 114 rfl rfl (by exact H3.out.1.oc.fr (D:=Non) (by exact fx) (fun _ _=>id)) i0 _ 40 Tryz.underlying114 hi0 hi1 hi2 hi3 rfl (by omega) w3.heap.size 0 1 1 rfl (rcells [⟨pa,pn,⟨xp,xa,xn⟩⟩]) rfl (by exact (Row.new' (by simp)).news) (rcells_one _) (by omega) (by simp only;omega) (by unfold maxLen;simp only;omega) ?_;intro g cap w4 ho4 hf4 hg4
     refine hK _ _ ⟨Mix.cls_fr (D:=fun y=>(Value.slice ca (dropC R.cells pa pn).length cc).ownBlock=some y) hf4 (by
      have:=H3.out.2.2.2.2.2;simp only [List.mem_cons,List.not_mem_nil,or_false];rintro b (rfl|rfl|rfl)
      · exact ⟨by simp;omega,this.1⟩
      · exact ⟨by simp;omega,this.2.1⟩
      · exact ⟨by simp;omega,this.2.2⟩),?_⟩
     clear hK K;have hrq:=hf4.row (show Row _ q 116 _ from H3.out.1.row.drew.alloc _) H3.out.2.2.2.2.2.1;have zq:=hrq.frozen;have yq:=hrq.cell (o:=2) rfl;have kq:=hrq.lt;have hs4:=hf4.size;have H4:=Lib.hid (And.intro hrq (And.intro ho4 (And.intro hf4 hg4)));clear hrq ho4 hf4 hg4;simp only [Act.put,List.setIfInBounds_toArray,List.set_cons_succ,List.set_cons_zero];repeat (first|((first|refine Mix.qa ?_|refine Mix.qb ?_);intro K hK;simp only [nA,nB,nC];go_big_quiet_op;go_big_quiet_on)|refine Mix.qc ?_|refine Mix.qd ?_)
     refine Mix.S_late rfl rfl ?_;intro K hK;simp only [nA,nB,nC];go_simp;refine hK _ _ ?_;clear hK K;refine Mix.S_done ?_;go_wp2_with fail
     go_ret
     obtain ⟨hL3,hg3,hf3,hp3,hr3,hno,hnp,hnr⟩:=H3.out;obtain ⟨hrq,ho4,hf4,hg4⟩:=H4.out;have hfb:=hf4.mono (D':=fun y=>(Value.slice ca (dropC R.cells pa pn).length cc).ownBlock=some y) fun _ _ h=>h
     have hob4:Own w4 bv 118 2 R.blocks.length (rblks R.blocks):=Own.fr (D:=fun y=>(Value.slice ca (dropC R.cells pa pn).length cc).ownBlock=some y) (hL3.ob.drew.fr (D:=Non) (by exact fx) fun _ _=>id) hf4 fun y hy e=>by
      obtain ⟨arr,ha⟩:=hL3.ob.row hy;exact hL3.oc.ne ha (by decide) e
     refine ⟨by rw [HX.out.2];rfl,_,⟨{ R with cells:=storeC R.cells pa pn ⟨xp,xa,xn⟩ },⟨⟨hrq.set_same 2 _,?_,?_⟩,?_,Or.inl HH.out.1.aq,fun y hy=>Or.inl (HH.out.1.ab y hy),fun y hy=>Or.inr hy,?_⟩⟩,?_,?_⟩
     · exact hob4.fr (Fr.set1 _ _ _ _) fun y hy e=>hob4.ne hrq (by decide) (e ▸ hy)
     · unfold storeC;rw [rcells_append,List.length_append];exact Own.fr (D:=fun y=>y=q) ho4 (Fr.set1 _ q 2 _) fun y hy e=>ho4.ne hrq (by decide) (e ▸ hy)
     · exact HX.out.1
     · unfold storeC;simp only [List.length_append,List.length_singleton];omega
     · intro y hy;cases hy
       rcases hg4 with e|e
       · exact Or.inr (Nat.le_trans hs2 (hg3 g e))
       · right;rw [e];simp;omega
     · have hA3:Fr A w w3:=(H2.out.1.mono fun _ _ e=>e.elim).trans (hf3.mono fun y _ hy=>hy ▸ HH.out.1.aq);have hA4:Fr A w w4:=(hA3.drew.alloc _).then hf4 fun y hy e=>by have:=hg3 y e;omega
       exact hA4.setCell (a:=⟨q,2,none⟩) (Or.inl HH.out.1.aq) _
   · have hb:(M.errp ⟨pp,pa,pn⟩ 1 == 0)=false:=by simp [hep]
     have h13:=errp_13 HEB.out.symm hep;have hXX:=HH.out.2.2.1 hep;rw [h13] at hXX;have HX:=Lib.hid hXX;clear hXX h13 hep hDR;rw [hb];go_wp2_with fail
     go_ret
     exact ⟨by rw [HX.out];rfl,by rw [HX.out];exact hkeep.out _ H2.out.1⟩
 · have hn0:(eb != 0)=true:=by simpa using he0
   have heq:=errb_of_errp (n:=1) (fun e=>he0 (HEB.out.trans e));have hXX:=HH.out.2.2.1 (by rw [heq,← HEB.out];exact he0);rw [heq,← HEB.out] at hXX;have HX:=Lib.hid hXX;clear hXX heq hHS he0 hDR;go_wp2_with fail
   go_ret
   exact ⟨by rw [HX.out];rfl,by rw [HX.out];exact hkeep.out _ H1.out.1⟩
end
theorem clear_le (cs:List RC) (a n:Int):∀ k,(clearC cs a n k).length≤cs.length
 | 0=>Nat.le_refl _
 | k+1=>Nat.le_trans (drop_le _ _ _) (clear_le cs a n k)
section
variable {A:Nat→Prop} {B:Nat} {w w':World} {q:Nat} {M:Mem} {bv cv:Value} {R:RM}
theorem qclear_i (h:RI A B w q M bv cv R) (hB:B≤900000000000) (p:Wd) (n:Int) (hn:n≤1099511627776):Calls Tryz.prog 108 #[.pointer (some ⟨q,0,none⟩),.agg #[.bool p.p,.int .i64 p.a,.int .i64 p.n],.int .i64 n] w fun e w' =>
 e=.returned (.int .i64 (M.clear p n).2)∧∃ cv',(∃ R',RI (fun y=>A y∨cv'.ownBlock=some y) B w' q (M.clear p n).1 bv cv' R')∧(∀ g,cv'.ownBlock=some g→A g∨w.heap.size≤g)∧Fr A w w':=by
 obtain ⟨X,hX⟩:∃ X,X=M.clear p n:=⟨_,rfl⟩;rw [← hX];have hkeep:Hid (∀ w1,Fr Non w w1→∃ cv',(∃ R',RI (fun y=>A y∨cv'.ownBlock=some y) B w1 q M bv cv' R')∧(∀ g,cv'.ownBlock=some g→A g∨w.heap.size≤g)∧Fr A w w1):=Lib.hid fun w1 f=>⟨cv,⟨R,⟨(h.non f).lay,h.rel,Or.inl h.aq,fun g hg=>Or.inl (h.ab g hg),fun g hg=>Or.inr hg,h.few⟩⟩,fun g hg=>Or.inl (h.ac g hg),f.mono fun _ _ e=>e.elim⟩;by_cases hneg:n<0
 · have d0:decide (n<0)=true:=decide_eq_true hneg;have hXX:X=(M,1):=by rw [hX];unfold Mem.clear;rw [if_pos hneg]
   have HX:=Lib.hid hXX;clear hX hXX h hneg;go_enter Tryz.func108,Tryz.ntmps108
   go_wp2_with fail
   go_ret
   exact ⟨by rw [HX.out];rfl,by rw [HX.out];exact hkeep.out _ (by exact fx)⟩
 have d0:decide (n<0)=false:=decide_eq_false hneg;obtain ⟨N,rfl⟩:=Int.eq_ofNat_of_zero_le (show 0≤n by omega);have hrs:=fun he=>h.rel.clear (p:=p) (m:=N) he;have hsm:M.errp p N≠0→M.clear p N=(M,M.errp p N):=fun he=>by unfold Mem.clear;rw [if_neg hneg,if_pos he]
 have hs0:M.errp p N=0→(M.clear p N).2=0:=fun he=>by unfold Mem.clear;rw [if_neg hneg,if_neg (by rw [he];simp)]
 rw [← hX] at hrs hsm hs0;have hCK:=Lib.hid fun w1 (f:Fr Non w w1)=>qcheck_c (h.non f) p;have hHS:=Lib.hid fun w1 (f:Fr Non w w1) he=>qhas_c (h.non f) p he N ⟨by omega,hn⟩;have hfew:=h.few;have hql:=h.lay.row.lt;have HH:=Lib.hid (And.intro h (And.intro hrs (And.intro hsm (And.intro hs0 hfew))));clear h hX hrs hsm hs0 hfew hneg;obtain ⟨pp,pa,pn⟩:=p;simp only at hCK hHS ⊢;obtain ⟨eb,heb⟩:∃ eb,eb=M.errb ⟨pp,pa,pn⟩:=⟨_,rfl⟩;rw [← heb] at hCK;have HEB:=Lib.hid heb;clear heb;go_enter Tryz.func108,Tryz.ntmps108
 go_wp2_with fail
 refine (hCK.out _ (by exact fx)).mono ?_;rintro e1 w1 ⟨rfl,hf1⟩;have hp:Row w1 w.heap.size 40 [.bool pp,.int .i64 pa,.int .i64 pn]:=hf1.row (by exact Row.new' rfl) id;have hf1':Fr Non w w1:=Fr.trans (by exact fx) hf1;have H1:=Lib.hid (And.intro hf1' hp);obtain ⟨x0,x1,x2,xz⟩:=row3 hp;have l1:=hp.lt;clear hf1 hf1' hp hCK;by_cases he0:eb=0
 · subst he0;have hHS2:=Lib.hid (hHS.out w1 H1.out.1 HEB.out.symm);go_wp2_with fail
   refine hHS2.out.mono ?_;rintro e2 w2 ⟨rfl,hf2⟩;clear hHS hHS2;have H2:=Lib.hid (And.intro (H1.out.1.trans hf2) (hf2.row H1.out.2 id));clear hf2 x0 x1 x2 xz l1;obtain ⟨x0,x1,x2,xz⟩:=row3 H2.out.2;have l1:=H2.out.2.lt;by_cases hep:M.errp ⟨pp,pa,pn⟩ N=0
   · have hb:(M.errp ⟨pp,pa,pn⟩ N == 0)=true:=by simp [hep]
     obtain ⟨q0,b0,b1,b2⟩:=errp_get hep;obtain ⟨q1,k0,b,q2,hbk,hbb,q3⟩:=errb_get HEB.out.symm;have hbw:=ok_blk HH.out.1.rel.ok hbk;rw [hbb] at b1 b2;simp only at b0 b1 b2;have hNb:N≤1048576:=by omega
     have hpn:0≤pn∧pn≤1048576:=⟨b0,by omega⟩;have HX:=Lib.hid (And.intro (HH.out.2.1 hep) (HH.out.2.2.2.1 hep));clear hep hkeep b0 b1 b2 hbk hbb hbw q0 q1 q2 q3;rw [hb];go_wp2_with fail
     go_loopg [8] N (fun k v8 wq=>∃ i:Nat,i≤N∧k=N - i∧v8=.int .i64 i∧Fr (fun x=>x=q) w2 wq∧∃ cv',RL wq q bv cv' { R with cells:=clearC R.cells pa pn i }∧∀ g,cv'.ownBlock=some g→A g∨w.heap.size≤g)
     case atStart=>exact ⟨0,Nat.zero_le _,rfl,rfl,Fr.refl _ _,cv,(HH.out.1.non H2.out.1).lay,fun g hg=>Or.inl (HH.out.1.ac g hg)⟩
     case round =>
      obtain ⟨i,hi,rfl,rfl,hfr,cv1,hL1,hg1⟩:=hrel;have hne:¬ w.heap.size=q:=by omega
      have x1:=hfr.cell x1 hne;have x2:=hfr.cell x2 hne;have xz:=fun o=>hfr.frozen l1 (xz o) hne;have hs2:=H2.out.1.size;have hsr:=hfr.size;have l1r:w.heap.size<wr.heap.size:=by omega
      have hDR:=Lib.hid fun (_:True)=>qdrop_c hL1 (by have:=clear_le R.cells pa pn i;have:=HH.out.2.2.2.2;simp only;omega) pa (pn+i);have HR:=Lib.hid (And.intro hfr (And.intro hL1 hg1));clear hfr hL1 hg1;by_cases hil:i<N
      · have hi1:(i:Int)<(N:Int):=by omega
        have hwi:IntKind.i64.wrap ((i:Int)+1)=(i:Int)+1:=IntWalk.i64_in _ (by omega);have hwp:IntKind.i64.wrap (pn+(i:Int))=pn+(i:Int):=IntWalk.i64_in _ (by omega);go_wp2_with fail
        refine (hDR.out trivial).mono ?_;rintro e3 w3 ⟨rfl,cv3,hL3,hg3,hf3⟩;have H3:=Lib.hid (And.intro hL3 (And.intro hg3 hf3));clear hL3 hg3 hf3 x1 x2 xz l1r;go_wp2_with fail
        go_roundg (N - (i+1))
        case measure=>omega
        case rel=>exact ⟨i+1,by omega,rfl,by simp,HR.out.1.trans H3.out.2.2,cv3,H3.out.1,fun g hg=>Or.inr (by have:=H3.out.2.1 g hg;omega)⟩
      · have hii:i=N:=by omega
        subst hii;have hnlt:¬ ((i:Int)<(i:Int)):=by omega
        clear hDR;go_wp2_with fail
        go_ret
        obtain ⟨hfr,hL1,hg1⟩:=HR.out;refine ⟨by rw [HX.out.2];rfl,cv1,⟨_,⟨hL1,HX.out.1,Or.inl HH.out.1.aq,fun y hy=>Or.inl (HH.out.1.ab y hy),fun y hy=>Or.inr hy,?_⟩⟩,hg1,?_⟩
        · exact Nat.le_trans (clear_le _ _ _ _) HH.out.1.few
        · exact (H2.out.1.mono fun _ _ e=>e.elim).trans (hfr.mono fun y _ hy=>hy ▸ HH.out.1.aq)
   · have hb:(M.errp ⟨pp,pa,pn⟩ N == 0)=false:=by simp [hep]
     have h13:=errp_13 HEB.out.symm hep;have hXX:=HH.out.2.2.1 hep;rw [h13] at hXX;have HX:=Lib.hid hXX;clear hXX h13 hep;rw [hb];go_wp2_with fail
     go_ret
     exact ⟨by rw [HX.out];rfl,by rw [HX.out];exact hkeep.out _ H2.out.1⟩
 · have hn0:(eb != 0)=true:=by simpa using he0
   have heq:=errb_of_errp (n:=N) (fun e=>he0 (HEB.out.trans e));have hXX:=HH.out.2.2.1 (by rw [heq,← HEB.out];exact he0);rw [heq,← HEB.out] at hXX;have HX:=Lib.hid hXX;clear hXX heq hHS he0;go_wp2_with fail
   go_ret
   exact ⟨by rw [HX.out];rfl,by rw [HX.out];exact hkeep.out _ H1.out.1⟩
end
theorem Tryz.infoQBlock:(Tryz.prog.info? 118).map (fun i=>(i.zero,i.size,i.bytes))=some (some (.agg #[.int .i64 0,.bool false]),2,16):=by kernel_rfl
theorem rblks_one (b:Int × Bool):∀ u∈rblks [b],u.oneCell'=true:=by
 intro u hu;simp only [rblks_cons,List.mem_cons] at hu;rcases hu with rfl|rfl|hu
 · rfl
 · rfl
 · cases hu
section
variable {A:Nat→Prop} {B:Nat} {w w':World} {q:Nat} {M:Mem} {bv cv:Value} {R:RM}
theorem qalloc_c (h:RI A B w q M bv cv R) (hN:M.blocks.length≤1000000000000) (hA:∀ x,A x→x<w.heap.size) (n:Int):Calls Tryz.prog 75 #[.pointer (some ⟨q,0,none⟩),.int .i64 n] w fun e w' =>
 e=.returned (.tuple #[.agg #[.bool (M.alloc n).2.1.p,.int .i64 (M.alloc n).2.1.a,.int .i64 (M.alloc n).2.1.n],.int .i64 (M.alloc n).2.2])∧∃ A',RJ A' B w' q (M.alloc n).1∧QF A A' w w':=by
 obtain ⟨X,hX⟩:∃ X,X=M.alloc n:=⟨_,rfl⟩;rw [← hX];unfold Mem.alloc at hX;have hW:=Lib.hid fun w1 (f:Fr Non w w1)=>qwords_c (h.non f);have c0:=h.lay.row.cell (o:=0) rfl;have c1:=h.lay.row.cell (o:=1) rfl;have cz:=h.lay.row.frozen;have hql:=h.lay.row.lt;have hlen:=h.rel.len;have hrm:R.room=M.room:=h.rel.room;rw [hrm] at c0;have hu:=h.rel.ok.used;have hr:=h.rel.ok.room;have hws:IntKind.i64.wrap (M.room - (used M.blocks:Int))=M.room - (used M.blocks:Int):=IntWalk.i64_in _ (by omega);obtain ⟨i0,hi0,hi1,hi2,hi3⟩:=info_parts Tryz.infoQBlock;obtain ⟨ba,bc,ebv,hz1,hz2,hbg,hz3⟩:=h.lay.ob.form;have hmx:R.blocks.length≤maxLen:=by omega
 rw [← hlen] at hN;have HL:=Lib.hid hlen;clear hlen;clear hz1 hz2 hz3 hrm;rw [ebv] at c1;have HH:=Lib.hid (And.intro h (And.intro hX (And.intro hbg (And.intro ebv (And.intro hA (And.intro hu hr))))));have HK:=Lib.hid fun w1 (f:Fr Non w w1)=>(⟨⟨fun x hx=>Nat.lt_of_lt_of_le (hA x hx) f.size,_,_,_,h.non f⟩,QF.non f⟩:RJ A B w1 q M∧QF A A w w1);have HA:=Lib.hid hA;clear h hX hbg ebv hA hu hr;generalize hM:M.room=room at *;generalize hU:used M.blocks=us at *;have HM:=Lib.hid (And.intro hM hU);clear hM hU;go_enter Tryz.func75,Tryz.ntmps75
 by_cases h0:n<0
 · have d0:decide (n<0)=true:=decide_eq_true h0;have hXX:=HH.out.2.1;rw [if_pos h0] at hXX;have HX:=Lib.hid hXX;clear hXX;go_wp2_with fail
   refine bodyPost_ret (v:=.tuple #[.agg #[.bool false,.int .i64 0,.int .i64 0],.int .i64 1]) (by simp [results,Tryz.results75,go_sem]) rfl ⟨by rw [HX.out];rfl,A,?_⟩;rw [HX.out];exact HK.out _ (by exact fx)
 · have d0:decide (n<0)=false:=decide_eq_false h0;go_wp2_with fail
   go_quiet (first|(go_at_call 100;refine Calls.quiet_of_same (hW.out _ (by exact fx))))
   have hf0:Fr Non w ((w.alloc (.cells #[.bool false,.int .i64 0,.int .i64 0] 40)).drewN nq):=by exact fx
   have r0:Row ((w.alloc (.cells #[.bool false,.int .i64 0,.int .i64 0] 40)).drewN nq) w.heap.size 40 [.bool false,.int .i64 0,.int .i64 0]:=(Row.new' rfl).drewN _;generalize (w.alloc (.cells #[.bool false,.int .i64 0,.int .i64 0] 40)).drewN nq=W at *;have r00:=Lib.hid r0;obtain ⟨x0,x1,x2,xz⟩:=row3 r0;have l0:=r0.lt;have c1W:=hf0.cell c1 id;have czW:=fun o=>hf0.frozen hql (cz o) id;have hqW:q<W.heap.size:=by omega
   have HF:=Lib.hid hf0;clear hf0 r0;by_cases hc:room - (us:Int)<n
   · have d1:decide (room - (us:Int)<n)=true:=decide_eq_true hc;have hXX:=HH.out.2.1;rw [if_neg (show ¬ n<0 by omega),if_pos hc] at hXX;have HX:=Lib.hid hXX;clear hXX;go_wp2_with fail
     refine bodyPost_ret (v:=.tuple #[.agg #[.bool false,.int .i64 0,.int .i64 0],.int .i64 10]) (by simp [results,Tryz.results75,go_sem,x0,x1,x2]) rfl ⟨by rw [HX.out];rfl,A,?_⟩;rw [HX.out];refine HK.out _ ?_;exact ((HF.out.set_new (by omega)).set_new (by omega)).set_new (by omega)
   · have d1:decide (room - (us:Int)<n)=false:=decide_eq_false hc;have hXX:=HH.out.2.1;rw [if_neg (show ¬ n<0 by omega),if_neg hc] at hXX;have HX:=Lib.hid hXX;clear hXX;obtain ⟨x,c',w2,hrun,ho2,hf2,hg2⟩:=own_app (P:=Tryz.prog) (w:=W.alloc (.cells #[.int .i64 n,.bool false] 118)) (HH.out.1.lay.ob.fr ((HF.out).alloc _) (fun _ _ h=>h)) 113 i0 _ 16 Tryz.underlying113 hi0 hi1 hi2 hi3 rfl (by omega) (some ⟨W.heap.size,0,none⟩) 1 1 (rblks [(n,false)]) rfl (fun _=>⟨_,0,rfl,(by exact (Row.new' rfl).news)⟩) (rblks_one _) (by omega) (by unfold maxLen;omega);rw [HH.out.2.2.2.1] at hrun;have hbq:bv.ownBlock≠some q:=HH.out.1.lay.ob.ne HH.out.1.lay.row (by decide);have hbr:bv.ownBlock≠some w.heap.size:=fun e=>by have:=HH.out.1.lay.ob.lt e;omega
     have hq2:=hf2.row ((HF.out.row HH.out.1.lay.row id).alloc _) hbq;have hr2:=hf2.row (r00.out.alloc _) hbr;have hs2:=hf2.size;have y1:=hq2.cell (o:=1) rfl;rw [HH.out.2.2.2.1] at y1;have yz:=hq2.frozen;obtain ⟨v0,v1,v2,vz⟩:=row3 hr2;have lq2:=hq2.lt;have lr2:=hr2.lt;have H2:=Lib.hid (And.intro ho2 (And.intro hf2 (And.intro hg2 (And.intro hq2 (And.intro hr2 (And.intro hbq hbr))))));clear ho2 hf2 hg2 hq2 hr2 hbq hbr;go_wp2_with (at_builtin;refine wpList_app rfl (.tmp 23) (.tmp 26) _ rfl rfl rfl _ rfl hrun ?_)
     have hnq:¬ q=w.heap.size:=by omega
     have hnq':¬ w.heap.size=q:=by omega
     refine bodyPost_ret (v:=.tuple #[.agg #[.bool true,.int .i64 ((R.blocks.length:Int)+1),.int .i64 0],.int .i64 0]) (by simp [results,Tryz.results75,go_sem,v0,v1,v2]) rfl ⟨by rw [HX.out,HL.out],?_⟩;obtain ⟨ho2,hf2,hg2,hq2,hr2,hbq,hbr⟩:=H2.out;have hI:=HH.out.1
     have hob:Own (w2.setCell ⟨q,1,none⟩ (.slice x (R.blocks.length+1) c')) (.slice x (R.blocks.length+1) c') 118 2 (R.blocks ++ [(n,false)]).length (rblks (R.blocks ++ [(n,false)])):=by
      rw [rblks_append,List.length_append];exact Own.fr (D:=fun y=>y=q) ho2 (Fr.set1 _ q 1 _) fun y hy e=>ho2.ne hq2 (by decide) (e ▸ hy)
     have hcb:∀ g,cv.ownBlock=some g→bv.ownBlock≠some g:=fun g hg e=>by
      obtain ⟨arr,ha⟩:=hI.lay.oc.row hg;exact hI.lay.ob.ne ha (by decide) e
     have hoc2:Own w2 cv 152 5 R.cells.length (rcells R.cells):=Own.fr (D:=fun y=>bv.ownBlock=some y) (hI.lay.oc.fr (HF.out.alloc _) fun _ _=>id) hf2 hcb;have hoc:Own (w2.setCell ⟨q,1,none⟩ (.slice x (R.blocks.length+1) c')) cv 152 5 R.cells.length (rcells R.cells):=hoc2.fr (Fr.set1 _ _ _ _) fun y hy e=>hoc2.ne hq2 (by decide) (e ▸ hy);have hrel:=hI.rel.alloc (n:=n) (by omega) (by rw [HM.out.1,HM.out.2];omega);rw [HM.out.1] at hrel
     have hRI:RI (fun y=>A y∨(Value.slice x (R.blocks.length+1) c').ownBlock=some y) B (w2.setCell ⟨q,1,none⟩ (.slice x (R.blocks.length+1) c')) q ⟨room,M.blocks ++ [Blk.new n.toNat]⟩ (.slice x (R.blocks.length+1) c') cv { R with blocks:=R.blocks ++ [(n,false)] } :=
      ⟨⟨hq2.set_same 1 _,hob,hoc⟩,hrel,Or.inl hI.aq,fun y hy=>Or.inr hy,fun y hy=>Or.inl (hI.ac y hy),hI.few⟩
     have hJ:=hRI.canon;have hsW:=HF.out.size
     have hsub:∀ y,(y=q∨(Value.slice x (R.blocks.length+1) c').ownBlock=some y∨cv.ownBlock=some y)→A y∨w.heap.size+1≤y:=by
      rintro y (rfl|hy|hy)
      · exact Or.inl hI.aq
      · rcases hg2 y hy with e|e
        · exact Or.inl (hI.ab y e)
        · right;simp at e;omega
      · exact Or.inl (hI.ac y hy)
     have hfA:Fr A w w2:=((HF.out.mono fun _ _ e=>e.elim).alloc _).then hf2 fun y _ hy=>hI.ab y hy;rw [HX.out];refine ⟨_,hJ.fr (((Fr.set1 _ w.heap.size 0 _).trans (Fr.set1 _ _ 1 _)).trans (Fr.set1 _ _ 2 _)) fun y hy e=>?_,((((hfA.setCell (a:=⟨q,1,none⟩) (Or.inl hI.aq) _).set_new (by omega)).set_new (by omega)).set_new (by omega)),fun y hy=>(hsub y hy).imp id fun e=>by omega⟩;subst e;rcases hsub _ hy with e|e
     · have:=HA.out _ e;omega
     · omega
end
end Go.Proofs.YtlbomnbpahmphaaGreat
