/- Walks: the checker's 'ways'. Conditions: the checker's record lies there; each instruction is right by itself. -/
import Derived.Deep.LoopGhost
import Derived.Deep.CutRange
import Derived.Test.YtlbomnbpahmphaaGreatD17
import Derived.Test.YtlbomnbpahmphaaGreatD15
import Derived.Test.YtlbomnbpahmphaaGreatD03
import Derived.Test.YtlbomnbpahmphaaGreatShelf
import Derived.Test.YtlbomnbpahmphaaGreatD14
set_option maxRecDepth 100000
set_option maxHeartbeats 4000000
namespace Go.Proofs.YtlbomnbpahmphaaGreat
open Go.RowKit
def mapU (W:List (Int × Int)):List (Int × Value):=W.map fun x=>(x.1,.int .u32 x.2)
theorem mfind_U (W:List (Int × Int)) (k:Int):mfind (mapU W) k=(evOf W k).map (fun n=>.int .u32 n):=by
 induction W with
 | nil=>rfl
 | cons x l ih =>
  rw [evOf_cons];simp only [mapU,List.map_cons,mfind] at *;cases (x.1 == k) <;> simp [ih]
theorem mset_U (W:List (Int × Int)) (k v:Int):mset (mapU W) k (.int .u32 v)=mapU (setS W k v):=by
 induction W with
 | nil=>rfl
 | cons x l ih =>
  simp only [mapU,List.map_cons,mset,setS] at *;cases (x.1 == k) <;> simp [ih]
theorem Own.pop1 {w:World} {T:TypeId} {g n cap:Nat} {cs:List Value} {v:Value} (h:Own w (.slice (some ⟨g,0,none⟩) (n+1) cap) T 1 (n+1) (cs ++ [v])) (hl:cs.length=n):Own w (.slice (some ⟨g,0,none⟩) n cap) T 1 n cs:=by
 obtain ⟨h1,h2⟩:=h;refine ⟨by omega,?_⟩;rcases h2 with ⟨e,_⟩|⟨g',cap',cur,e,k1,k2,k3,k4,k5,k6⟩
 · cases e
 · cases e
   refine Or.inr ⟨g,cap,cur,rfl,k1,k2,by omega,k4,k5,?_⟩;have h4:(cur.toList.take ((n+1) * 1)).take n=(cs ++ [v]).take n:=by rw [k6]
   rw [List.take_take,Nat.min_eq_left (by omega)] at h4;have h5:(cs ++ [v]).take n=cs:=by rw [← hl];simp
   rw [h5] at h4;rw [Nat.mul_one];exact h4
theorem meetS_snoc (now:Int) (a:Int):∀ (l:List Int) (W:List (Int × Int)) (st:List Int),meetS W st now (l ++ [a])=meetS (meetS W st now l).1 (meetS W st now l).2 now [a]
 | [],W,st=>rfl
 | b :: l,W,st=>by
  simp only [List.cons_append]
  conv=>lhs;unfold meetS
  conv=>rhs;arg 1;arg 1;unfold meetS
  conv=>rhs;arg 2;arg 1;unfold meetS
  cases evOf W b with
  | some was =>
   simp only;split
   · exact meetS_snoc now a l W st
   · exact meetS_snoc now a l _ _
  | none=>exact meetS_snoc now a l _ _
theorem MapAt.ne_own {w:World} {b:Nat} {l:List (Int × Value)} (h:MapAt w b l) {v:Value} {T:TypeId} {k n:Nat} {cs:List Value} (o:Own w v T k n cs):v.ownBlock≠some b:=fun hv=>by
 obtain ⟨arr,ha⟩:=o.row hv;obtain ⟨es,clock,h1,_⟩:=h;unfold Row at ha;rw [ha] at h1;cases h1
theorem reads_len (x:In):(readsS x).length≤3:=by
 unfold readsS
 (repeat' split) <;> simp
structure FnOk (f:List In):Prop where
 pos:0<f.length
 big:f.length≤65536
 ok:∀ (j:Nat) (x:In),f[j]?=some x→(∀ r∈readsS x,0≤r∧r<16)∧((writesS x).2=true→0≤(writesS x).1∧(writesS x).1<16)∧(∀ a∈x.l,0≤a∧a<(f.length:Int))∧(fallsS x.op=true→j+1<f.length)∧x.l.length≤17592186043904
theorem clone_c (w:World) (l:List Int) (la:Option Addr) (lc:Nat) (hl:ArgsAt w la l) (hz:la=none→l=[]) (hn:l.length≤17592186043904) :
 Calls Tryz.prog 124 #[.slice la l.length lc] w fun e w'=>∃ v,e=.returned v∧Own w' v 3 1 l.length (ints l)∧(∀ g,v.ownBlock=some g→w.heap.size≤g)∧Fr Non w w':=by
 have hown:∀ {w':World} {v:Value} {n:Nat} {cs:List Value},w'.ownsRow w.heap.size 3 1 v n cs→Own w' v 3 1 n cs∧(∀ g,v.ownBlock=some g→w.heap.size≤g):=by
  intro w' v n cs h;refine ⟨⟨h.1,?_⟩,?_⟩
  · rcases h.2 with h2|⟨g,cap,cur,h1,h2,h3⟩
    · exact Or.inl h2
    · exact Or.inr ⟨g,cap,cur,h1,Nat.zero_le _,h3⟩
  · intro g hg;rcases h.2 with h2|⟨g',cap,cur,h1,h2,h3⟩
    · rw [h2.1] at hg;cases hg
    · rw [h1] at hg;simp [Value.ownBlock] at hg;omega
 cases la with
 | none =>
  obtain rfl:=hz rfl;refine (Tryz.slices_Clone_int_nil 0 lc w).mono ?_;rintro e w' ⟨rfl,rfl⟩;exact ⟨_,rfl,Own.nil _ _ _,fun g hg=>(by cases hg),Fr.refl _ _⟩
 | some a =>
  cases l with
  | nil =>
   refine (Tryz.slices_Clone_int_zero a lc w).mono ?_;rintro e w' ⟨v,rfl,h1,_,h2⟩;obtain ⟨h3,h4⟩:=hown h1;exact ⟨v,rfl,h3,h4,Fr.below h2⟩
  | cons x l =>
   obtain ⟨b,o,e,_⟩:=hl 0 x rfl;cases e
   refine (Tryz.slices_Clone_int b o (x :: l).length lc (x :: l) w (Nat.le_refl _) (by simp only [List.length_cons] at hn ⊢;omega) (fun j hj=>?_)).mono ?_
   · obtain ⟨b',o',e,hc⟩:=hl j _ (List.getElem?_eq_getElem hj);cases e
     rw [hc,List.getD_eq_getElem?_getD,List.getElem?_eq_getElem hj]
     rfl
   · rintro e w' ⟨v,rfl,h1,_,h2⟩;obtain ⟨h3,h4⟩:=hown h1;rw [List.take_length] at h3;exact ⟨v,rfl,h3,h4,Fr.below h2⟩
section
variable {base:Nat} {P:Pr} {kinds:List Int} {f:List In} {kind:Int} {w:World} {c:Nat}
theorem ways_c (h:Chk base P kinds f kind w c) (hf:FnOk f):Calls Tryz.prog 96 #[.pointer (some ⟨c,0,none⟩)] w fun e w'=>e=.returned (.bool (waysS f kind))∧Fr Non w w':=by
 have hmm:=@run_makeMap Tryz.prog;obtain ⟨q0,hq0,hqa,hqb,hqc⟩:=info_parts Tryz.infoInt;obtain ⟨R,hR⟩:∃ R,R=waysS f kind:=⟨_,rfl⟩;rw [← hR];unfold waysS at hR;have HH:=Lib.hid (And.intro h (And.intro hf hR));obtain ⟨fo,fc,co,cc,kb,kc,io,ic,h1,hkk,h3⟩:=h;clear hkk;have c3:=h1.cell (o:=3) rfl;have c4:=h1.cell (o:=4) rfl;have hcl:=h1.lt;have HI:=Lib.hid h3;clear h1 h3 hf hR;have hm0:MapAt (w.alloc (.map #[] 0)) w.heap.size []:=⟨#[],0,heap_alloc_new w _,rfl,fun x hx=>by simp at hx⟩;obtain ⟨u1,hu1,hm1,hfu1⟩:=run_update_map (P:=Tryz.prog) hm0 Tryz.underlying194 Tryz.underlying3 0 (.int .u32 0);have hfw1:Fr Non w u1:=((Fr.refl Non w).alloc _).then hfu1 (fun x hx e=>by subst e;omega);have hm1':MapAt u1 w.heap.size (mapU [(0,0)]):=hm1;have d4:=hfw1.cell c4 id;obtain ⟨z,hzz⟩:∃ z:Int,z=if kind=0 then 1 else 0:=⟨_,rfl⟩
 have HZ:=Lib.hid hzz;have HM:=Lib.hid (And.intro hm1' hfw1);clear hm0 hm1 hfu1 hm1' hfw1 hzz;go_enter Tryz.func96,Tryz.ntmps96
 go_upto_if 23 with fail
 go_cut [] from 17 to 117 (fun wx=>MapAt wx w.heap.size (mapU [(0,z)])∧Fr Non w wx)
 case first =>
  by_cases hk:kind=0
  · obtain ⟨u2,hu2,hm2,hfu2⟩:=run_update_map (P:=Tryz.prog) HM.out.1 Tryz.underlying194 Tryz.underlying3 0 (.int .u32 1);have HM2:=Lib.hid (And.intro hm2 hfu2);clear hm2 hfu2;have hkb:(kind == 0)=true:=by simp [hk]
    clear hk;go_wp2_with fail
    go_meet
    have hz1:z=1:=by rw [HZ.out,if_pos (by simpa using hkb)]
    rw [hz1];exact ⟨HM2.out.1,HM.out.2.then HM2.out.2 (fun x hx e=>by subst e;omega)⟩
  · have hkb:(kind == 0)=false:=by simp [hk]
    have hz1:z=0:=by rw [HZ.out,if_neg hk]
    have HZ1:=Lib.hid hz1;clear hk hz1;go_wp2_with fail
    go_meet
    rw [HZ1.out];exact HM.out
 case rest =>
  clear hu1 d4 HM;obtain ⟨hmW,hfW⟩:=hcut;have rst:Row (wc.alloc (.cells #[.int .i64 0] 3)) wc.heap.size 3 [.int .i64 0]:=Row.new' rfl;have hfS:Fr Non wc (wc.alloc (.cells #[.int .i64 0] 3)):=(Fr.refl _ _).alloc _;have hmS:=hmW.fr hfS id;have hfwS:=hfW.trans hfS;have hoS:Own (wc.alloc (.cells #[.int .i64 0] 3)) (.slice (some ⟨wc.heap.size,0,none⟩) 1 1) 3 1 1 [.int .i64 0]:=Own.mk rst rfl (Nat.le_refl _) (by unfold maxLen;omega);have hsS:w.heap.size≤wc.heap.size:=hfW.size;go_wp2_with fail
  generalize hgs:wc.heap.size=gs at *;generalize wc.alloc (.cells #[.int .i64 0] 3)=V at *;clear rst hfS hmW hfW
  go_loopg [4] (waysN f.length) (fun k v4 wr=>∃ W st,MapAt wr w.heap.size (mapU W)∧Own wr v4 3 1 st.length (ints st.reverse)∧MarksOk f.length W st∧(potS f.length W st≤k∧k≤waysN f.length)∧R=waysF f k W st∧Fr Non w wr∧(∀ g,v4.ownBlock=some g→w.heap.size≤g))
  case atStart =>
   refine ⟨[(0,z)],[0],hmS,hoS,⟨?_,?_⟩,⟨?_,Nat.le_refl _⟩,?_,hfwS,fun g e=>by simp [Value.ownBlock] at e;omega⟩
   · intro k v e;rw [evOf_cons] at e;split at e
     · cases e;rw [HZ.out];split <;> exact ⟨by omega,by omega⟩
     · cases e
   · intro a ha;simp at ha;subst ha;have:=HH.out.2.1.pos;omega
   · unfold potS waysN;have:=sumS_bound [(0,z)] f.length;simp only [List.length_cons,List.length_nil];omega
   · rw [HZ.out];exact HH.out.2.2
  case round =>
   obtain ⟨W,st,hmp,hown,hmk,hpot,hRk,hfr,hgo⟩:=hrel;cases st with
   | nil =>
    obtain ⟨ao,cap,rfl,_⟩:=hown.form;have HX:=Lib.hid (And.intro hRk hfr);clear hmp hown hmk hpot hRk hfr hgo hmS hoS hfwS;go_wp2_with fail
    go_ret
    refine ⟨?_,HX.out.2⟩;rw [HX.out.1];cases gk <;> rfl
   | cons at_ st =>
    obtain ⟨hat0,hat1⟩:=hmk.st at_ List.mem_cons_self;obtain ⟨j,rfl⟩:=Int.eq_ofNat_of_zero_le hat0;have hj:j<f.length:=by omega
    obtain ⟨x,hx⟩:∃ x,f[j]?=some x:=⟨f[j],List.getElem?_eq_getElem hj⟩;have hfx:f.getD ((j:Int)).toNat In.zero=x:=by rw [Int.toNat_natCast,List.getD_eq_getElem?_getD,hx];rfl
    obtain ⟨ib,iof,la,lc,e0,i0,i1,i2,i3,i4,i5⟩:=HI.out j x hx;subst e0;obtain ⟨hok1,hok2,hok3,hok4,hok5⟩:=HH.out.2.1.ok j x hx;have hbig:=HH.out.2.1.big
    have hstl:st.length+1≤10000000:=by
     have h1:=hpot.1;have h2:=hpot.2;unfold potS at h1;unfold waysN at h2;simp only [List.length_cons] at h1;omega
    obtain ⟨ao,cap,rfl,hcap,hmax,hpos,hodd⟩:=hown.form;obtain ⟨g,rfl⟩:=hpos (by simp);have hcg:wr.cell? ⟨g,st.length,none⟩=some (.int .i64 j):=hown.cell rfl (by simp [ints]);simp only [List.length_cons] at hcap hown;have hsl0:(0:Int)<(st.length:Int)+1:=by omega
    have hsl1:(0:Int)≤(st.length:Int):=by omega
    have hsl2:(st.length:Int)<(st.length:Int)+1:=by omega
    have hsl3:(st.length:Int)≤(cap:Int):=by omega
    have hsl4:st.length≤cap:=by omega
    have hsl5:¬ cap=0:=by omega
    have hsl6:¬ 0=cap:=by omega
    have hw1:IntKind.i64.wrap (st.length:Int)=(st.length:Int):=IntWalk.i64_in _ (by omega);have hj0:(0:Int)≤(j:Int):=by omega
    have hj1:(j:Int)<(f.length:Int):=by omega
    have y0:=hfr.cell i0.2 id;have y1:=hfr.cell i1.2 id;have y2:=hfr.cell i2.2 id;have y3:=hfr.cell i3.2 id;have y4:=hfr.cell i4.2 id;have d3:=hfr.cell c3 id
    have hla:ArgsAt w la x.l:=fun i n hn=>by
     obtain ⟨b,o,e,hc⟩:=i5 i n hn;exact ⟨b,o,e,hc.2⟩
    have hibl:=World.block_lt_of_cell? wr _ y0;have hcr:c<wr.heap.size:=World.block_lt_of_cell? wr _ d3;have hmbl:w.heap.size<wr.heap.size:=hmp.lt
    have hlk:∀ g':World,(Instr.lookup 194 (.map (some w.heap.size)) (.int .i64 j) false).run Tryz.prog (Mix.upon wr [c,ib,w.heap.size] g')=.ok (.int .u32 ((evOf W (j:Int)).getD 0)) (Mix.upon wr [c,ib,w.heap.size] g'):=by
     intro g'
     have hmp':MapAt (Mix.upon wr [c,ib,w.heap.size] g') w.heap.size (mapU W):=by
      obtain ⟨es,clock,q1,q2,q3⟩:=hmp;exact ⟨es,clock,(Mix.upon_agree wr [c,ib,w.heap.size] g' _ (by simp)).trans q1,q2,q3⟩
     have:=run_lookup_one (P:=Tryz.prog) hmp' Tryz.underlying194 Tryz.underlying3 (.int .u32 0) (by kernel_rfl) (j:Int);rw [mfind_U] at this;rw [this];cases evOf W (j:Int) <;> rfl
    obtain ⟨now,hnow⟩:∃ now,now=(evOf W (j:Int)).getD 0:=⟨_,rfl⟩;rw [← hnow] at hlk
    have hnow32:In32 now:=by
     rw [hnow];cases he:evOf W (j:Int) with
     | none=>exact ⟨by simp,by simp⟩
     | some v=>exact hmk.val _ _ he
    cases gk with
    | zero =>
     have h1:=hpot.1;unfold potS at h1;simp only [List.length_cons] at h1;omega
    | succ k =>
     have hRk2:R=if (readsS x).any (fun r=>andU now (shlU r) == 0) then false else waysF f k (meetS W st (nowS x now) (nextS x (j:Int))).1 (meetS W st (nowS x now) (nextS x (j:Int))).2:=by
      rw [hRk,waysF_cons,hfx,← hnow]
     have HX:=Lib.hid (And.intro hmp (And.intro hown (And.intro hmk (And.intro hpot (And.intro hRk2 (And.intro hfr (And.intro hgo (And.intro hla (And.intro hok1 (And.intro hok2 (And.intro hok3 (And.intro hok4 (And.intro hok5 hnow32)))))))))))));clear hmp hown hmk hpot hRk hRk2 hfr hgo hla hok1 hok2 hok3 hok4 hok5 hmS hoS hfwS hx hfx i0 i1 i2 i3 i4 i5 hnow hnow32;obtain ⟨xop,xa,xb,xc,xl⟩:=x;simp only at y0 y1 y2 y3 y4;have HLK:=Lib.hid hlk;clear hlk hpos hodd hmm c4 hat0 hat1 hj hbig c3;go_wp2_with fail
     have hlk:=HLK.out;have cW:=@Mix.cls_drew wr [c,ib,w.heap.size];refine Mix.wp_region_mix [3,6,9] [(0,0),(0,1),(0,2),(1,3),(0,4),(0,5),(1,6),(0,7),(0,8),(1,9),(2,10),(2,11),(0,12)] (fun U=>∃ g',U=Mix.upon wr [c,ib,w.heap.size] g') (by kernel_rfl) (by kernel_rfl) cW ?_;clear cW;repeat (first|((first|refine Mix.qa ?_|refine Mix.qb ?_);intro K hK;simp only [nA,nB,nC];go_big_quiet_op;go_big_quiet_on)|refine Mix.qc ?_|refine Mix.qd ?_)
     clear hlk;refine Mix.S_eff rfl rfl ?_;intro K hK;simp only [nA,nB,nC];go_simp;refine hK _ _ ⟨Mix.cls_fr (D:=Non) (by exact ((Fr.refl Non wr).alloc _).drew.drewl) (by simp [Non];omega),?_⟩;clear hK K;refine Mix.S_eff rfl rfl ?_;intro K hK;simp only [nA,nB,nC];go_simp;refine hK _ _ ⟨Mix.cls_fr (D:=fun x=>x=wr.heap.size) (by exact ((Fr.realloc _ _ _).drew).drewl) (by simp;omega),?_⟩;clear hK K;repeat (first|((first|refine Mix.qa ?_|refine Mix.qb ?_);intro K hK;simp only [nA,nB,nC];go_big_quiet_op;go_big_quiet_on)|refine Mix.qc ?_|refine Mix.qd ?_)
     refine Mix.S_done ?_;have rxZ:Row ((wr.alloc (.cells #[.int .i64 xop,.int .i64 xa,.int .i64 xb,.int .i64 xc,.slice la xl.length lc] 128)).drew) wr.heap.size 128 [.int .i64 xop,.int .i64 xa,.int .i64 xb,.int .i64 xc,.slice la xl.length lc]:=Row.drew (Row.new' rfl);have hfZ:Fr Non wr ((wr.alloc (.cells #[.int .i64 xop,.int .i64 xa,.int .i64 xb,.int .i64 xc,.slice la xl.length lc] 128)).drew):=((Fr.refl _ _).alloc _).drew;generalize (wr.alloc (.cells #[.int .i64 xop,.int .i64 xa,.int .i64 xb,.int .i64 xc,.slice la xl.length lc] 128)).drew=Z at *;obtain ⟨z0,z1,z2,z3,z4,zz⟩:=row5 rxZ;have HZ:=Lib.hid (And.intro hfZ rxZ);clear hfZ rxZ y0 y1 y2 y3 y4 d3 hcg;go_wp2_with fail
     refine (reads_c Z ⟨xop,xa,xb,xc,xl⟩ la lc).mono ?_;rintro e1 w1 ⟨v,rfl,ho1,hv1,hf1⟩;obtain ⟨rao,rcap,rfl,_,_,hrp,hodd⟩:=ho1.form;clear hodd;have H1:=Lib.hid (And.intro ho1 (And.intro hv1 (And.intro (HZ.out.1.trans hf1) (And.intro (hf1.row HZ.out.2 id) hrp))));clear ho1 hv1 hf1 z0 z1 z2 z3 z4 zz hrp;go_wp2_with fail
     go_loopg [53] (readsS ⟨xop,xa,xb,xc,xl⟩).length (fun q v53 wq=>wq=w1∧∃ i:Nat,i≤(readsS ⟨xop,xa,xb,xc,xl⟩).length∧q=(readsS ⟨xop,xa,xb,xc,xl⟩).length - i∧v53=.int .i64 i∧∀ t,t<i→∀ n,(readsS ⟨xop,xa,xb,xc,xl⟩)[t]?=some n→andU now (shlU n)≠0)
     case atStart=>exact ⟨rfl,0,Nat.zero_le _,rfl,rfl,fun t ht=>by omega⟩
     case round =>
      obtain ⟨rfl,i,hi,rfl,rfl,hall⟩:=hrel;by_cases hil:i<(readsS ⟨xop,xa,xb,xc,xl⟩).length
      · have hget:=List.getElem?_eq_getElem hil;have hi0:(0:Int)≤(i:Int):=by omega
        have hi1:(i:Int)<((readsS ⟨xop,xa,xb,xc,xl⟩).length:Int):=by omega
        obtain ⟨rg,rfl⟩:=H1.out.2.2.2.2 (by omega);have hcell:=H1.out.1.cell rfl (show (ints (readsS ⟨xop,xa,xb,xc,xl⟩))[i]?=some (.int .i64 (readsS ⟨xop,xa,xb,xc,xl⟩)[i]) by simp [ints,hget]);have hrr:=HX.out.2.2.2.2.2.2.2.2.1 _ (List.getElem_mem hil);generalize hrn:(readsS ⟨xop,xa,xb,xc,xl⟩)[i]=rn at *;obtain ⟨rm,rfl⟩:=Int.eq_ofNat_of_zero_le hrr.1;have hrm0:(0:Int)≤(rm:Int):=by omega
        have hsh:shlU (rm:Int)=2 ^ rm % 4294967296:=by unfold shlU;rw [Int.toNat_natCast]
        have hbb:andU now (shlU (rm:Int))=bits .and .u32 now (2 ^ rm % 4294967296):=by rw [hsh];rfl
        cases hb:(bits .and .u32 now (2 ^ rm % 4294967296) == 0) with
        | true =>
         have HB:=Lib.hid (And.intro hbb (And.intro hget hb));clear hbb hget hrn hsh hall;go_wp2_with fail
         go_ret
         refine ⟨?_,HX.out.2.2.2.2.2.1.trans H1.out.2.2.1⟩;have hR3:=HX.out.2.2.2.2.1;rw [if_pos (List.any_eq_true.2 ⟨(rm:Int),List.mem_of_getElem? HB.out.2.1,by rw [HB.out.1];exact HB.out.2.2⟩)] at hR3;rw [hR3]
         rfl
        | false =>
         have HB:=Lib.hid (And.intro hbb (And.intro hget (And.intro hb hall)));clear hbb hget hrn hsh hall;have hwi:IntKind.i64.wrap ((i:Int)+1)=(i:Int)+1:=IntWalk.i64_in _ (by have:=reads_len ⟨xop,xa,xb,xc,xl⟩;omega);go_wp2_with fail
         go_roundg ((readsS ⟨xop,xa,xb,xc,xl⟩).length - (i+1))
         case measure=>omega
         case rel =>
          refine ⟨rfl,i+1,by omega,rfl,by simp,?_⟩;intro t ht n hn;rcases Nat.lt_succ_iff_lt_or_eq.1 ht with h|rfl
          · exact HB.out.2.2.2 t h n hn
          · rw [HB.out.2.1] at hn;cases hn
            rw [HB.out.1];intro e;have:=HB.out.2.2.1;rw [e] at this;simp at this
      · have hii:i=(readsS ⟨xop,xa,xb,xc,xl⟩).length:=by omega
        subst hii
        have hany:((readsS ⟨xop,xa,xb,xc,xl⟩).any fun r=>andU now (shlU r) == 0)=false:=by
         rw [List.any_eq_false];intro n hn;obtain ⟨t,ht,rfl⟩:=List.getElem_of_mem hn;have:=hall t ht _ (List.getElem?_eq_getElem ht)
         simpa using this
        have hR3:=HX.out.2.2.2.2.1;rw [hany,if_neg (by simp)] at hR3;have HR3:=Lib.hid hR3;clear hR3 hany hall;obtain ⟨z0,z1,z2,z3,z4,zz⟩:=row5 H1.out.2.2.2.1;go_wp2_with fail
        refine (writes_c _ ⟨xop,xa,xb,xc,xl⟩ la lc).mono ?_;rintro e1 w2 ⟨rfl,hf2⟩;have hw2:=HX.out.2.2.2.2.2.2.2.2.2.1;have H2:=Lib.hid (And.intro hf2 (hf2.row H1.out.2.2.2.1 id));clear z0 z1 z2 z3 z4 zz hf2;have hnS:nowS ⟨xop,xa,xb,xc,xl⟩ now=if (writesS ⟨xop,xa,xb,xc,xl⟩).2 then orU now (shlU (writesS ⟨xop,xa,xb,xc,xl⟩).1) else now:=rfl
        obtain ⟨now',hnn⟩:∃ now',now'=nowS ⟨xop,xa,xb,xc,xl⟩ now:=⟨_,rfl⟩;rw [← hnn] at hnS HR3;clear hnn;generalize writesS ⟨xop,xa,xb,xc,xl⟩=ws at *;obtain ⟨wi,wb⟩:=ws;simp only at hw2 hnS
        have hn32:In32 now':=by
         rw [hnS];split
         · exact orU_in _ _
         · exact HX.out.2.2.2.2.2.2.2.2.2.2.2.2.2
        have HN2:=Lib.hid (And.intro hnS hn32);have HR4:=Lib.hid HR3.out;clear hnS hn32 HR3
        go_upto_if 68 with fail
        go_cut [7] from 26 to 117 (fun s7 wx=>s7=.int .u32 now'∧wx=w2)
        case first =>
         have hnS:=HN2.out.1;cases wb with
         | true =>
          obtain ⟨wm,rfl⟩:=Int.eq_ofNat_of_zero_le (hw2 rfl).1;have hwm:=(hw2 rfl).2;have hwm0:(0:Int)≤(wm:Int):=by omega
          have hsh:shlU (wm:Int)=2 ^ wm % 4294967296:=by unfold shlU;rw [Int.toNat_natCast]
          rw [if_pos rfl,hsh] at hnS;have hnS2:now'=bits .or .u32 now (2 ^ wm % 4294967296):=hnS;have HN:=Lib.hid hnS2;clear hnS hnS2 hsh hw2;go_wp2_with fail
          go_meet
          exact ⟨by rw [HN.out],rfl⟩
         | false =>
          rw [if_neg (by simp)] at hnS;have HN:=Lib.hid hnS;clear hnS hw2;go_wp2_with fail
          go_meet
          exact ⟨by rw [HN.out],rfl⟩
        case rest =>
         obtain ⟨rfl,hwc⟩:=hcut;subst hwc;obtain ⟨z0,z1,z2,z3,z4,zz⟩:=row5 H2.out.2;go_wp2_with fail
         refine (falls_c _ ⟨xop,xa,xb,xc,xl⟩ la lc).mono ?_;rintro e1 w3 ⟨rfl,hf3⟩;have hO3:=(H1.out.2.2.1.trans H2.out.1).trans hf3;have H3:=Lib.hid (And.intro hO3 (hf3.row H2.out.2 id));clear hf3 hO3 z0 z1 z2 z3 z4 zz;have hok4:=HX.out.2.2.2.2.2.2.2.2.2.2.2.1;have hnx:nextS ⟨xop,xa,xb,xc,xl⟩ (j:Int)=if fallsS xop then xl ++ [(j:Int)+1] else xl:=rfl
         obtain ⟨nx,hnxe⟩:∃ nx,nx=nextS ⟨xop,xa,xb,xc,xl⟩ (j:Int):=⟨_,rfl⟩;rw [← hnxe] at hnx HR4;clear hnxe;have HNX:=Lib.hid hnx;clear hnx;have hownX:=Own.pop1 (cs:=ints st.reverse) (v:=.int .i64 j) (by have:=HX.out.2.1;simpa [ints] using this) (by simp [ints]);have HOW:=Lib.hid hownX;clear hownX;obtain ⟨z0,z1,z2,z3,z4,zz⟩:=row5 H3.out.2
         go_upto_if 76 with fail
         go_cut [12] from 26 to 117 (fun s12 wx=>∃ (nya:Option Addr) (nyc nl:Nat),s12=.slice nya nl nyc∧MapAt wx w.heap.size (mapU W)∧Own wx (.slice (some ⟨g,0,none⟩) st.length cap) 3 1 st.length (ints st.reverse)∧Fr Non w wx∧(∀ (i:Nat) (n:Int),nx[i]?=some n→∃ b o,nya=some ⟨b,o,none⟩∧wx.cell? ⟨b,o+i,none⟩=some (.int .i64 n)∧b≠w.heap.size∧b≠g)∧(∀ a∈nx,0≤a∧a<(f.length:Int))∧nx.length=nl)
         case first =>
          cases hfl:fallsS xop with
          | true =>
           rw [hfl] at hok4;have hj2:=hok4 rfl;have hnx:=HNX.out;rw [hfl,if_pos rfl] at hnx;have HNY:=Lib.hid hnx;clear hok4 hfl hnx;have hwj:IntKind.i64.wrap ((j:Int)+1)=(j:Int)+1:=IntWalk.i64_in _ (by have:=HH.out.2.1.big;omega);have hla3:ArgsAt w3 la xl:=(HX.out.2.2.2.2.2.2.2.1.fr HX.out.2.2.2.2.2.1 (fun _ _ _ h=>h)).fr H3.out.1 (fun _ _ _ h=>h)
           have hz3:la=none→xl=[]:=fun e=>by
            cases xl with
            | nil=>rfl
            | cons y l =>
             obtain ⟨b,o,e2,_⟩:=hla3 0 y rfl;rw [e] at e2;cases e2
           have hC:=Lib.hid (clone_c w3 xl la lc hla3 hz3 HX.out.2.2.2.2.2.2.2.2.2.2.2.2.1);clear hla3 hz3;go_wp2_with fail
           refine hC.out.mono ?_;rintro e1 w4 ⟨cv,rfl,ho4,hn4,hf4⟩;obtain ⟨cao,ccap,rfl,hodd1,hodd2,hodd3,hodd4⟩:=ho4.form;clear hodd1 hodd2 hodd3 hodd4;obtain ⟨ng,ncap,w5,hrun,ho5,hf5,hg5,hlt5⟩:=run_app (P:=Tryz.prog) (w:=w4.alloc (.cells #[.int .i64 ((j:Int)+1)] 3)) (ho4.fr ((Fr.refl Non w4).alloc _) (fun _ _ h=>h)) 36 36 q0 _ 8 Tryz.underlying36 hq0 hqa hqb hqc rfl (by omega) w4.heap.size 0 1 1 [.int .i64 ((j:Int)+1)] rfl (by exact (Row.new' rfl).news) (fun u hu=>by simp at hu;subst hu;rfl) (by omega) (by have:=HX.out.2.2.2.2.2.2.2.2.2.2.2.2.1;omega) (by have:=HX.out.2.2.2.2.2.2.2.2.2.2.2.2.1;unfold maxLen;omega)
           have hs3:g<w3.heap.size:=by
            have h1:=HX.out.2.1.lt (g:=g) rfl;have h2:=H3.out.1.size;omega
           have hf35:Fr Non w3 w5:=(hf4.alloc _).then hf5 (fun x hx e=>by have:=hn4 x e;omega)
           have hng:w3.heap.size≤ng:=by
            rcases hg5 with h|h
            · exact hn4 _ h
            · have:=hf4.size;simp at h;omega
           have hOX:=H3.out.1.trans hf35
           have hNX:∀ (i:Nat) (n:Int),nx[i]?=some n→∃ b o,(some ⟨ng,0,none⟩:Option Addr)=some ⟨b,o,none⟩∧w5.cell? ⟨b,o+i,none⟩=some (.int .i64 n)∧b≠w.heap.size∧b≠g:=by
            intro i n hn;refine ⟨ng,0,rfl,?_,?_,by omega⟩
            · rw [Nat.zero_add];refine ho5.cell rfl ?_;have:ints xl ++ [Value.int .i64 ((j:Int)+1)]=ints nx:=by rw [HNY.out];simp [ints]
              rw [this];unfold ints;rw [List.getElem?_map,hn]
              rfl
            · intro e;exact (HX.out.1.fr hOX id).ne_own ho5 (by rw [← e];rfl)
           have hnr:∀ a∈nx,0≤a∧a<(f.length:Int):=by
            intro a ha;rw [HNY.out] at ha;rcases List.mem_append.1 ha with ha|ha
            · exact HX.out.2.2.2.2.2.2.2.2.2.2.1 a ha
            · simp at ha;subst ha;omega
           have hnl:nx.length=xl.length+1:=by rw [HNY.out];simp
           have HL:=Lib.hid (And.intro (HX.out.1.fr hOX id) (And.intro (HOW.out.fr hOX (fun _ _ h=>h)) (And.intro (HX.out.2.2.2.2.2.1.trans hOX) (And.intro hNX (And.intro hnr hnl)))));clear ho4 hn4 hf4 ho5 hf5 hg5 hf35 hNX hnr hOX hnl;go_wp2_with (at_builtin;refine wpList_app rfl (.tmp 79) (.tmp 82) _ rfl rfl rfl _ rfl hrun ?_)
           go_meet
           exact ⟨_,_,_,rfl,HL.out⟩
          | false =>
           have hnx:=HNX.out;rw [hfl,if_neg (by simp)] at hnx;have HNY:=Lib.hid hnx;clear hok4 hfl hnx;have hOX:=H3.out.1
           have hNX:∀ (i:Nat) (n:Int),nx[i]?=some n→∃ b o,la=some ⟨b,o,none⟩∧w3.cell? ⟨b,o+i,none⟩=some (.int .i64 n)∧b≠w.heap.size∧b≠g:=by
            intro i n hn;rw [HNY.out] at hn;obtain ⟨b,o,e,hc⟩:=HX.out.2.2.2.2.2.2.2.1 i n hn;have hbw:=World.block_lt_of_cell? w _ hc;have hgw:=HX.out.2.2.2.2.2.2.1 g rfl;simp only at hbw;exact ⟨b,o,e,(HX.out.2.2.2.2.2.1.trans hOX).cell hc id,by omega,by omega⟩
           have HL:=Lib.hid (And.intro (HX.out.1.fr hOX id) (And.intro (HOW.out.fr hOX (fun _ _ h=>h)) (And.intro (HX.out.2.2.2.2.2.1.trans hOX) (And.intro hNX (And.intro (show ∀ a∈nx,0≤a∧a<(f.length:Int) by rw [HNY.out];exact HX.out.2.2.2.2.2.2.2.2.2.2.1) (show nx.length=xl.length by rw [HNY.out]))))));clear hNX hOX;go_wp2_with fail
           go_meet
           exact ⟨_,_,_,rfl,HL.out⟩
         case rest =>
          obtain ⟨nya,nyc,nl,rfl,hmpX,hownX,hfX,hNX,hnr,hnl⟩:=hcut
          have hnlb:nl≤17592186043905:=by
           rw [← hnl,HNX.out];have:=HX.out.2.2.2.2.2.2.2.2.2.2.2.2.1;split <;> simp <;> omega
          have HL:=Lib.hid (And.intro hfX (And.intro hNX (And.intro hnr (And.intro hnl hnlb))));clear z0 z1 z2 z3 z4 zz hok4 hNX hnr hnl hnlb hfX;go_wp2_with fail
          have hmkX:MarksOk f.length W st:=⟨HX.out.2.2.1.val,fun a ha=>HX.out.2.2.1.st a (List.mem_cons_of_mem _ ha)⟩
          have hpotX:potS f.length W st≤k:=by
           have:=HX.out.2.2.2.1.1;unfold potS at this ⊢;simp only [List.length_cons] at this;omega
          have hkX:k≤waysN f.length:=by have:=HX.out.2.2.2.1.2;omega
          have hsX:g<wc.heap.size∧w.heap.size≤g:=⟨by have h1:=HX.out.2.1.lt (g:=g) rfl;have h2:=hownX.lt (g:=g) rfl;omega,HX.out.2.2.2.2.2.2.1 g rfl⟩;have HK:=Lib.hid (And.intro hmkX (And.intro hpotX (And.intro hkX hsX)));clear hmkX hpotX hkX hsX
          go_loopg [4,86] nx.length (fun q v4 v86 wq=>∃ i:Nat,i≤nx.length∧q=nx.length - i∧v86=.int .i64 i∧MapAt wq w.heap.size (mapU (meetS W st now' (nx.take i)).1)∧Own wq v4 3 1 (meetS W st now' (nx.take i)).2.length (ints (meetS W st now' (nx.take i)).2.reverse)∧Fr (fun x=>x=w.heap.size∨x=g) wc wq∧(∀ q',v4.ownBlock=some q'→q'=g∨wc.heap.size≤q'))
          case atStart=>exact ⟨0,Nat.zero_le _,rfl,rfl,hmpX,hownX,Fr.refl _ _,fun q' e=>by simp [Value.ownBlock] at e;exact Or.inl e.symm⟩
          case round =>
           obtain ⟨i,hi,rfl,rfl,hmq,hoq,hfq,hgq⟩:=hrel;by_cases hil:i<nx.length
           · have hget:=List.getElem?_eq_getElem hil;have hss:meetS W st now' (nx.take (i+1))=meetS (meetS W st now' (nx.take i)).1 (meetS W st now' (nx.take i)).2 now' [nx[i]]:=by rw [List.take_succ_eq_append_getElem hil,meetS_snoc]
             have hpi:=meet_pot HN2.out.2 (nx.take i) W st (fun a ha=>HL.out.2.2.1 a (List.mem_of_mem_take ha)) HK.out.1;have hra:=HL.out.2.2.1 _ (List.getElem_mem hil);obtain ⟨ab,ao',e,hc,hne1,hne2⟩:=HL.out.2.1 i _ hget;generalize meetS W st now' (nx.take i)=Ws at *;obtain ⟨W',st'⟩:=Ws;simp only at hmq hoq hss hpi;generalize nx[i]=a at *;have hcq:=hfq.cell hc (by simp [hne1,hne2])
             (first|subst e|cases e)
             try simp only [Nat.zero_add] at hcq
             have ha0:(0:Int)≤(i:Int):=by omega
             have hll:=HL.out.2.2.2.1;have hia:(i:Int)<(nl:Int):=by omega
             have hst':st'.length+1≤10000000:=by
              have h1:=hpi.1;have h2:=HK.out.2.1;have h3:=HK.out.2.2.1;have h4:=HH.out.2.1.big;unfold potS at h1;unfold potS at h2;unfold waysN at h3;omega
             have hwi:IntKind.i64.wrap ((i:Int)+1)=(i:Int)+1:=IntWalk.i64_in _ (by have:=HL.out.2.2.2.1;have:=HL.out.2.2.2.2;omega);have hlk:=run_lookup_ok (P:=Tryz.prog) hmq Tryz.underlying194 Tryz.underlying3 (.int .u32 0) (by kernel_rfl) a;rw [mfind_U] at hlk;have hmbq:=hmq.lt;have hHQ:=Lib.hid (And.intro hmq (And.intro hoq (And.intro hfq (And.intro hgq (And.intro hpi hra)))));clear hmq hoq hfq hgq hpi hra hc hne1 hne2 hget hll;cases hev:evOf W' a with
             | some was =>
              rw [hev] at hlk;simp only [Option.map_some,Option.getD_some,Option.isSome_some] at hlk
              have hm1:meetS W' st' now' [a]=if andU was now' == was then (W',st') else (setS W' a (andU was now'),a :: st'):=by
               unfold meetS;rw [hev];simp only;split <;> rfl
              cases hb:(bits .and .u32 was now' == was) with
              | true =>
               rw [hm1,if_pos (by exact hb)] at hss;have HS:=Lib.hid hss;clear hss hm1 hev;go_wp2_with fail
               go_roundg (nx.length - (i+1))
               case measure=>omega
               case rel =>
                obtain ⟨hmq,hoq,hfq,hgq,_⟩:=hHQ.out;refine ⟨i+1,by omega,rfl,by simp,?_,?_,hfq,hgq⟩
                · rw [HS.out];exact hmq
                · rw [HS.out];exact hoq
              | false =>
               rw [hm1,if_neg (by rw [show andU was now'=bits .and .u32 was now' from rfl,hb];simp)] at hss;obtain ⟨wu,hup,hmu,hfu⟩:=run_update_map (P:=Tryz.prog) hHQ.out.1 Tryz.underlying194 Tryz.underlying3 a (.int .u32 (bits .and .u32 was now'));rw [mset_U] at hmu;have hou:=hHQ.out.2.1.fr hfu (fun q' hq' e=>hHQ.out.1.ne_own hHQ.out.2.1 (e ▸ hq'));obtain ⟨sg,scap,w7,hrun,ho7,hf7,hg7,hlt7⟩:=run_app (P:=Tryz.prog) (w:=wu.alloc (.cells #[.int .i64 a] 3)) (hou.fr ((Fr.refl Non wu).alloc _) (fun _ _ h=>h)) 36 36 q0 _ 8 Tryz.underlying36 hq0 hqa hqb hqc rfl (by omega) wu.heap.size 0 1 1 [.int .i64 a] rfl (by exact (Row.new' rfl).news) (fun u hu=>by simp at hu;subst hu;rfl) (by omega) (by omega) (by unfold maxLen;omega);have HS:=Lib.hid (And.intro hss (And.intro hmu (And.intro hfu (And.intro ho7 (And.intro hf7 hg7)))));clear hss hm1 hev hou hmu hfu ho7 hf7 hg7 hlt7;go_wp2_with (at_builtin;refine wpList_app rfl (.tmp 113) (.tmp 115) _ rfl rfl rfl _ rfl hrun ?_)
               go_roundg (nx.length - (i+1))
               case measure=>omega
               case rel =>
                obtain ⟨hss,hmu,hfu,ho7,hf7,hg7⟩:=HS.out;obtain ⟨hmq,hoq,hfq,hgq,hpi,hra⟩:=hHQ.out;have hz1:=hfq.size;have hz2:=hfu.size;refine ⟨i+1,by omega,rfl,by simp,?_,?_,?_,?_⟩
                · rw [hss];exact (hmu.fr ((Fr.refl Non wu).alloc _) id).fr hf7 (fun e=>hmq.ne_own hoq e)
                · rw [hss];have hie:ints (a :: st').reverse=ints st'.reverse ++ [Value.int .i64 a]:=by simp [ints]
                  rw [hie];exact ho7
                · exact ((hfq.trans (hfu.mono fun _ _ h=>Or.inl h)).alloc _).then hf7 (fun x hx e=>by
                   rcases hgq x e with h|h
                   · exact Or.inr h
                   · omega)
                · intro q' e;simp [Value.ownBlock] at e;subst e;rcases hg7 with h|h
                  · exact hgq _ h
                  · right
                    simp at h;omega
             | none =>
              rw [hev] at hlk;simp only [Option.map_none,Option.getD_none,Option.isSome_none] at hlk
              have hm1:meetS W' st' now' [a]=(setS W' a now',a :: st'):=by
               unfold meetS;rw [hev]
               rfl
              rw [hm1] at hss;obtain ⟨wu,hup,hmu,hfu⟩:=run_update_map (P:=Tryz.prog) hHQ.out.1 Tryz.underlying194 Tryz.underlying3 a (.int .u32 now');rw [mset_U] at hmu;have hou:=hHQ.out.2.1.fr hfu (fun q' hq' e=>hHQ.out.1.ne_own hHQ.out.2.1 (e ▸ hq'));obtain ⟨sg,scap,w7,hrun,ho7,hf7,hg7,hlt7⟩:=run_app (P:=Tryz.prog) (w:=wu.alloc (.cells #[.int .i64 a] 3)) (hou.fr ((Fr.refl Non wu).alloc _) (fun _ _ h=>h)) 36 36 q0 _ 8 Tryz.underlying36 hq0 hqa hqb hqc rfl (by omega) wu.heap.size 0 1 1 [.int .i64 a] rfl (by exact (Row.new' rfl).news) (fun u hu=>by simp at hu;subst hu;rfl) (by omega) (by omega) (by unfold maxLen;omega);have HS:=Lib.hid (And.intro hss (And.intro hmu (And.intro hfu (And.intro ho7 (And.intro hf7 hg7)))));clear hss hm1 hev hou hmu hfu ho7 hf7 hg7 hlt7;go_wp2_with (at_builtin;refine wpList_app rfl (.tmp 113) (.tmp 115) _ rfl rfl rfl _ rfl hrun ?_)
              go_roundg (nx.length - (i+1))
              case measure=>omega
              case rel =>
               obtain ⟨hss,hmu,hfu,ho7,hf7,hg7⟩:=HS.out;obtain ⟨hmq,hoq,hfq,hgq,hpi,hra⟩:=hHQ.out;have hz1:=hfq.size;have hz2:=hfu.size;refine ⟨i+1,by omega,rfl,by simp,?_,?_,?_,?_⟩
               · rw [hss];exact (hmu.fr ((Fr.refl Non wu).alloc _) id).fr hf7 (fun e=>hmq.ne_own hoq e)
               · rw [hss];have hie:ints (a :: st').reverse=ints st'.reverse ++ [Value.int .i64 a]:=by simp [ints]
                 rw [hie];exact ho7
               · exact ((hfq.trans (hfu.mono fun _ _ h=>Or.inl h)).alloc _).then hf7 (fun x hx e=>by
                  rcases hgq x e with h|h
                  · exact Or.inr h
                  · omega)
               · intro q' e;simp [Value.ownBlock] at e;subst e;rcases hg7 with h|h
                 · exact hgq _ h
                 · right
                   simp at h;omega
           · have hii:i=nx.length:=by omega
             subst hii;rw [List.take_length] at hmq hoq;have hpe:=meet_pot HN2.out.2 nx W st (fun a ha=>HL.out.2.2.1 a ha) HK.out.1;have HE:=Lib.hid (And.intro hmq (And.intro hoq (And.intro hfq (And.intro hgq hpe))));have hll:=HL.out.2.2.2.1;have hnlt:¬ ((nx.length:Int)<(nl:Int)):=by omega
             clear hmq hoq hfq hgq hpe;go_wp2_with fail
             go_roundg k
             case measure=>omega
             case rel =>
              obtain ⟨hmq,hoq,hfq,hgq,hpe⟩:=HE.out;refine ⟨_,_,hmq,hoq,hpe.2,⟨Nat.le_trans hpe.1 HK.out.2.1,HK.out.2.2.1⟩,HR4.out,?_,?_⟩
              · exact (HL.out.1).then hfq (fun x hx e=>by
                 have:=HK.out.2.2.2.2
                 rcases e with e|e <;> omega)
              · intro q' e;have h1:=HK.out.2.2.2.2;have h2:=(HL.out.1).size;rcases hgq q' e with h|h <;> omega
end
theorem withinS_iff {n m:Int}:withinS n m=true ↔ 0≤n∧n<m:=by
 unfold withinS;simp
theorem one_ok {kinds:List Int} {ncos n:Nat} {kind:Int} {x:In} (h:oneS kinds ncos n kind x=true) :
 (∀ r∈readsS x,0≤r∧r<16)∧((writesS x).2=true→0≤(writesS x).1∧(writesS x).1<16)∧(∀ a∈x.l,0≤a∧a<(n:Int)):=by
 unfold oneS at h;split at h
 · cases h
 · rename_i h1;split at h
   · cases h
   · simp only [Bool.or_eq_true,Bool.not_eq_true',not_or,Bool.not_eq_false] at h1;obtain ⟨⟨⟨⟨_,ha⟩,hb⟩,hc⟩,_⟩:=h1
     have hf:∀ (f n:Int),f=1∨f=2→fieldS kinds ncos f n=true→0≤n∧n<16:=by
      intro f n hf h;unfold fieldS at h;rw [if_pos hf] at h;exact withinS_iff.1 h
     refine ⟨?_,?_,?_⟩
     · intro r hr;unfold readsS at hr;rcases List.mem_append.1 hr with hr|hr
       · split at hr
         · rename_i e;simp at hr e;subst hr;exact hf _ _ (Or.inl e) ha
         · cases hr
       · rcases List.mem_append.1 hr with hr|hr
         · split at hr
           · rename_i e;simp at hr e;subst hr;exact hf _ _ (Or.inl e) hb
           · cases hr
         · split at hr
           · rename_i e;simp at hr e;subst hr;exact hf _ _ (Or.inl e) hc
           · cases hr
     · intro hw;unfold writesS at hw ⊢;split at hw
       · rename_i e;simp only [e,if_true];exact hf _ _ (Or.inr (by simpa using e)) ha
       · cases hw
     · intro a hx;have:=List.all_eq_true.1 h a hx;exact withinS_iff.1 this
theorem fn_ok {kinds:List Int} {ncos:Nat} {kind:Int} {f:List In} (h0:0<f.length) (h1:f.length≤65536) (hf:fallsS (f.getD (f.length - 1) In.zero).op=false) (ho:f.all (oneS kinds ncos f.length kind)=true) (hL:∀ x∈f,x.l.length≤17592186043904):FnOk f:=by
 refine ⟨h0,h1,fun j x hx=>?_⟩;have hm:=List.mem_of_getElem? hx;obtain ⟨a1,a2,a3⟩:=one_ok (List.all_eq_true.1 ho x hm);refine ⟨a1,a2,a3,fun hfx=>?_,hL x hm⟩;have hj:=(List.getElem?_eq_some_iff.1 hx).1;by_cases e:j=f.length - 1
 · subst e;rw [List.getD_eq_getElem?_getD,hx] at hf;simp only [Option.getD_some] at hf;rw [hf] at hfx;cases hfx
 · omega
section
variable {base:Nat} {P:Pr} {kinds:List Int} {f:List In} {kind:Int} {w:World} {c:Nat}
theorem right_c (h:Chk base P kinds f kind w c) (hL:∀ x∈f,x.l.length≤17592186043904):Calls Tryz.prog 64 #[.pointer (some ⟨c,0,none⟩)] w fun e w'=>e=.returned (.bool (rightS kinds P.cos.length kind f))∧Fr Non w w':=by
 obtain ⟨R,hR⟩:∃ R,R=rightS kinds P.cos.length kind f:=⟨_,rfl⟩;rw [← hR];unfold rightS at hR;have HH:=Lib.hid (And.intro h (And.intro hL hR));obtain ⟨fo,fc,co,cc,kb,kc,io,ic,h1,hkk,h3⟩:=h;have c3:=h1.cell (o:=3) rfl;have hcl:=h1.lt;have HI:=Lib.hid h3;clear h1 h3 hR hkk hL;by_cases hn:f.length<1
 · have hz:f.length=0:=by omega
   rw [hz] at c3;go_enter Tryz.func64,Tryz.ntmps64
   go_wp2_with fail
   go_ret
   exact ⟨by rw [HH.out.2.2,if_pos (Or.inl hn)];rfl,by exact fx⟩
 · have hn1:¬ (f.length:Int)<1:=by omega
   by_cases hb:65536<f.length
   · have hb1:(65536:Int)<(f.length:Int):=by omega
     go_enter Tryz.func64,Tryz.ntmps64
     go_wp2_with fail
     go_ret
     exact ⟨by rw [HH.out.2.2,if_pos (Or.inr (Or.inl hb))];rfl,by exact fx⟩
   · have hb1:¬ (65536:Int)<(f.length:Int):=by omega
     obtain ⟨m,hm⟩:∃ m,f.length=m+1:=⟨f.length - 1,by omega⟩;obtain ⟨x,hx⟩:∃ x,f[m]?=some x:=⟨f[m],List.getElem?_eq_getElem (by omega)⟩;have hfx:f.getD (f.length - 1) In.zero=x:=by rw [hm,Nat.add_sub_cancel,List.getD_eq_getElem?_getD,hx];rfl
     obtain ⟨ib,iof,la,lc,e0,i0,i1,i2,i3,i4,i5⟩:=HI.out m x hx;subst e0;have y0:=i0.2;have y1:=i1.2;have y2:=i2.2;have y3:=i3.2;have y4:=i4.2;have hR2:=HH.out.2.2;rw [hfx] at hR2;have HR:=Lib.hid hR2;clear hR2 i0 i1 i2 i3 i4 i5 hx;have hw1:IntKind.i64.wrap (m:Int)=(m:Int):=IntWalk.i64_in _ (by omega);have hm0:(0:Int)≤(m:Int):=by omega
     have hm1:(m:Int)<(m:Int)+1:=by omega
     have hm2:¬ (m:Int)+1<1:=by omega
     have hm3:¬ (65536:Int)<(m:Int)+1:=by omega
     rw [hm] at c3;have hF:=Lib.hid fun w1=>falls_c w1 x la lc;have hfo:=@fn_ok kinds P.cos.length kind f (by omega) (by omega);rw [hfx] at hfo;obtain ⟨xop,xa,xb,xc,xl⟩:=x;simp only at y0 y1 y2 y3 y4 hF;have HFO:=Lib.hid hfo;clear hfo hn1 hb1;go_enter Tryz.func64,Tryz.ntmps64
     go_wp2_with fail
     refine (hF.out _).mono ?_;rintro e1 w1 ⟨rfl,hf1⟩;have d3:=hf1.cell c3 id;have HF1:=Lib.hid hf1;cases hfl:fallsS xop with
     | true =>
      clear hf1;go_wp2_with fail
      go_ret
      exact ⟨by rw [HR.out,if_pos (Or.inr (Or.inr hfl))];rfl,HF1.out⟩
     | false =>
      clear hf1 y0 y1 y2 y3 y4;go_wp2_with fail
      have HR2:=Lib.hid (show R=if f.all (oneS kinds P.cos.length f.length kind)=true then waysS f kind else false by
       rw [HR.out,if_neg (fun e=>by
        rcases e with e|e|e
        · exact hn e
        · exact hb e
        · rw [hfl] at e;cases e)])
      clear HR hF
      go_loopw [33] (fun v33 wr=>∃ i:Nat,i≤m+1∧v33=.int .i64 i∧(∀ t,t<i→∀ y,f[t]?=some y→oneS kinds P.cos.length f.length kind y=true)∧Fr Non w1 wr) (fun v33 _=>m+1 - (intOf v33).toNat)
      case atStart=>exact ⟨0,Nat.zero_le _,rfl,fun t ht=>by omega,by exact fx⟩
      case round =>
       obtain ⟨i,hi,rfl,hall,hfr⟩:=hrel;have hi0:(0:Int)≤(i:Int):=by omega
       have hfw:=HF1.out.trans hfr;by_cases hil:i<m+1
       · have hil':(i:Int)<(m:Int)+1:=by omega
         obtain ⟨y,hy⟩:∃ y,f[i]?=some y:=⟨f[i]'(by omega),List.getElem?_eq_getElem _⟩;obtain ⟨ib2,iof2,la2,lc2,e0,i0,i1,i2,i3,i4,i5⟩:=HI.out i y hy;cases e0
         have y0:=hfw.cell i0.2 id;have y1:=hfw.cell i1.2 id;have y2:=hfw.cell i2.2 id;have y3:=hfw.cell i3.2 id;have y4:=hfw.cell i4.2 id
         have hla:ArgsAt w la2 y.l:=fun i n hn=>by
          obtain ⟨b,o,e,hc⟩:=i5 i n hn;exact ⟨b,o,e,hc.2⟩
         have hO:=Lib.hid fun w2 (g:Fr Non w w2)=>one_c (HH.out.1.fr g) y la2 lc2 (hla.fr g (fun _ _ _ h=>h)) (HH.out.2.1 y (List.mem_of_getElem? hy));have hwi:IntKind.i64.wrap ((i:Int)+1)=(i:Int)+1:=IntWalk.i64_in _ (by omega);have HX:=Lib.hid (And.intro hall (And.intro hfr hy));have hwr:=HF1.out.size;have hwr2:=hfr.size;clear hall hfr i0 i1 i2 i3 i4 i5 hla hy;obtain ⟨yop,ya,yb,yc,yl⟩:=y;simp only at y0 y1 y2 y3 y4;have HFW:=Lib.hid hfw;clear hfw;go_wp2_with fail
         refine (hO.out _ (by exact HFW.out.alloc _)).mono ?_;rintro e2 w2 ⟨rfl,hf2⟩;have hf12:Fr Non w1 w2:=Fr.trans (by exact HX.out.2.1.alloc _) hf2;clear hf2;cases hob:oneS kinds P.cos.length f.length kind ⟨yop,ya,yb,yc,yl⟩ with
         | true =>
          go_wp2_with fail
          refine ⟨⟨i+1,by omega,rfl,?_,hf12⟩,by simp [intOf];omega⟩;intro t ht z hz;rcases Nat.lt_succ_iff_lt_or_eq.1 ht with h|rfl
          · exact HX.out.1 t h z hz
          · rw [HX.out.2.2] at hz;cases hz
            exact hob
         | false =>
          go_wp2_with fail
          go_ret
          refine ⟨?_,HF1.out.trans hf12⟩;rw [HR2.out,if_neg]
          · rfl
          · intro e;have:=List.all_eq_true.1 e _ (List.mem_of_getElem? HX.out.2.2);rw [hob] at this;cases this
       · have hii:i=m+1:=by omega
         subst hii
         have hall2:f.all (oneS kinds P.cos.length f.length kind)=true:=by
          rw [List.all_eq_true];intro y hy;obtain ⟨t,ht,rfl⟩:=List.getElem_of_mem hy;exact hall t (by omega) _ (List.getElem?_eq_getElem ht)
         have hnlt:¬ ((m:Int)+1<(m:Int)+1):=by omega
         have hW:=Lib.hid (ways_c (HH.out.1.fr hfw) (HFO.out hfl hall2 HH.out.2.1));have hR3:=HR2.out;rw [if_pos hall2] at hR3;rw [← hR3] at hW;have HFW:=Lib.hid hfw;clear hall hfr hall2 hfw hR3;go_wp2_with fail
         refine hW.out.mono ?_;rintro e2 w2 ⟨rfl,hf2⟩;have HE:=Lib.hid (HFW.out.trans hf2);clear hf2;go_wp2_with fail
         go_ret
         exact ⟨rfl,HE.out⟩
end
theorem mark_len (l:List Int) (a k:Int):(markS l a k).length=l.length:=by
 unfold markS;split <;> simp
section
variable {base:Nat} {P:Pr} {w:World}
theorem kinds1_c {q kb c:Nat} {l:List Int} (hq:w.cell? ⟨q,0,none⟩=some (.slice (some ⟨kb,0,none⟩) l.length c)) (hr:Row w kb 3 (ints l)) (a k:Int) :
 Calls Tryz.prog 92 #[.int .i64 a,.int .i64 k,.pointer (some ⟨q,0,none⟩)] w fun e w'=>e=.returned (.tuple #[])∧Row w' kb 3 (ints (markS l a k))∧Fr (fun x=>x=kb) w w':=by
 have hql:=World.block_lt_of_cell? w _ hq;have HR:=Lib.hid hr;have hz:=hr.frozen;have hkl:=hr.lt;by_cases h0:0≤a
 · obtain ⟨i,rfl⟩:=Int.eq_ofNat_of_zero_le h0;by_cases h1:i<l.length
   · have h1':(i:Int)<(l.length:Int):=by omega
     have hm:markS l (i:Int) k=l.set i k:=by
      unfold markS;rw [if_pos (withinS_iff.2 ⟨h0,h1'⟩),Int.toNat_natCast]
     rw [hm];have hc:=hr.cell (show (ints l)[i]?=some (.int .i64 l[i]) by simp [ints,h1]);clear hr hm;generalize l[i]=li at *;go_enter Tryz.func92,Tryz.ntmps92
     go_wp2_with fail
     refine bodyPost_end (results_none rfl _ _ _) rfl ?_;refine ⟨rfl,?_,Fr.set1 _ _ _ _⟩;have:ints (l.set i k)=(ints l).set i (.int .i64 k):=by simp [ints,List.map_set]
     rw [this];exact HR.out.set_same i _
   · have h1':¬ (i:Int)<(l.length:Int):=by omega
     have hm:markS l (i:Int) k=l:=by
      unfold markS;rw [if_neg (fun e=>h1' (withinS_iff.1 e).2)]
     rw [hm];clear hr hm;go_enter Tryz.func92,Tryz.ntmps92
     go_wp2_with fail
     refine bodyPost_end (results_none rfl _ _ _) rfl ?_;exact ⟨rfl,HR.out,Fr.refl _ _⟩
 · have hm:markS l a k=l:=by
    unfold markS;rw [if_neg (fun e=>h0 (withinS_iff.1 e).1)]
   rw [hm];clear hr hm;go_enter Tryz.func92,Tryz.ntmps92
   go_wp2_with fail
   refine bodyPost_end (results_none rfl _ _ _) rfl ?_;exact ⟨rfl,HR.out,Fr.refl _ _⟩
theorem kinds_c (fo:Option Addr) (fc:Nat) (co:Option Addr) (cc:Nat) (hco:CosB base w co P.cos) (hn:P.funs.length≤65536) (hnc:P.cos.length≤65536) :
 Calls Tryz.prog 62 #[.agg #[.slice fo P.funs.length fc,.slice co P.cos.length cc]] w fun e w'=>∃ g,e=.returned (.slice (some ⟨g,0,none⟩) P.funs.length P.funs.length)∧Row w' g 3 (ints (kindsS P))∧w.heap.size≤g∧Fr Non w w':=by
 obtain ⟨j0,hj,hj0,hj1,hj2⟩:=info_parts Tryz.infoInt;have hmf:∀ (fn:Fn) (first cap:Array Value) (W:World),(Instr.makeFunc fn first cap).run Tryz.prog W=.ok (.func fn first cap) W:=fun _ _ _ _=>rfl;obtain ⟨n,hnn⟩:∃ n,n=P.funs.length:=⟨_,rfl⟩;obtain ⟨R,hR⟩:∃ R,R=kindsS P:=⟨_,rfl⟩;rw [← hR];unfold kindsS at hR;rw [← hnn] at hR hn ⊢
 have hm2:∀ W:World,(Instr.makeSlice 36 (.int .i64 n) (.int .i64 n)).run Tryz.prog W=.ok (.slice (Option.some ⟨W.heap.size,0,none⟩) n n) (W.alloc (.cells (madeCells #[.int .i64 0] (n * 1)) 3)):=by
  intro W;have:=run_make (P:=Tryz.prog) W 36 3 j0 _ Tryz.underlying36 hj hj0 .i64 .i64 (n:Int) (n:Int) (by omega) (by omega) (by rw [hj2];omega) (by omega);rw [hj1] at this
  simpa [Value.cells] using this
 have hZ:=madeCells_int n;generalize madeCells #[.int .i64 0] (n * 1)=zZ at *;have HZ:=Lib.hid (And.intro hZ (And.intro hR (And.intro hco hnc)));clear hZ hR hco hnn hnc;go_enter Tryz.func62,Tryz.ntmps62
 go_wp2_with fail
 have b1:(((w.alloc (.cells #[.slice fo n fc,.slice co P.cos.length cc] 25)).alloc (.cells zZ 3)).alloc (.cells #[.slice (some ⟨w.heap.size+1,0,none⟩) n n] 36)).cell? ⟨w.heap.size,1,none⟩=some (.slice co P.cos.length cc):=(Row.alloc (Row.alloc (Row.new' rfl) _) _).cell (o:=1) rfl;have b2:Row (((w.alloc (.cells #[.slice fo n fc,.slice co P.cos.length cc] 25)).alloc (.cells zZ 3)).alloc (.cells #[.slice (some ⟨w.heap.size+1,0,none⟩) n n] 36)) (w.heap.size+1+1) 36 [.slice (some ⟨w.heap.size+1,0,none⟩) n n]:=Row.new' (by simp)
 have hr:Row (((w.alloc (.cells #[.slice fo n fc,.slice co P.cos.length cc] 25)).alloc (.cells zZ 3)).alloc (.cells #[.slice (some ⟨w.heap.size+1,0,none⟩) n n] 36)) (w.heap.size+1) 3 (ints (List.replicate n 0)):=by
  have:ints (List.replicate n 0)=zZ.toList:=by rw [HZ.out.1];simp [ints]
  rw [this];exact (Row.new' (by simp)).alloc _
 have hf:Fr Non w (((w.alloc (.cells #[.slice fo n fc,.slice co P.cos.length cc] 25)).alloc (.cells zZ 3)).alloc (.cells #[.slice (some ⟨w.heap.size+1,0,none⟩) n n] 36)):=by exact fx
 have hsz:(((w.alloc (.cells #[.slice fo n fc,.slice co P.cos.length cc] 25)).alloc (.cells zZ 3)).alloc (.cells #[.slice (some ⟨w.heap.size+1,0,none⟩) n n] 36)).heap.size=w.heap.size+1+1+1:=by simp
 generalize ((w.alloc (.cells #[.slice fo n fc,.slice co P.cos.length cc] 25)).alloc (.cells zZ 3)).alloc (.cells #[.slice (some ⟨w.heap.size+1,0,none⟩) n n] 36)=W at *;have HR:=Lib.hid (And.intro hr (And.intro hf b2));clear hr hf b2
 go_loopw [17] (fun v wr=>∃ (i:Nat) (l:List Int),i≤P.cos.length∧v=.int .i64 i∧l=List.foldl (fun l c=>markS l c.cancel 2) (List.replicate n 0) (P.cos.take i)∧l.length=n∧Row wr (w.heap.size+1) 3 (ints l)∧Fr (fun x=>x=w.heap.size+1) W wr) (fun v _=>P.cos.length - (intOf v).toNat)
 case atStart=>exact ⟨0,_,Nat.zero_le _,rfl,rfl,by simp,HR.out.1,Fr.refl _ _⟩
 case round =>
  obtain ⟨i,l,hi,rfl,hl,hln,hrow,hfr⟩:=hrel;have hi0:(0:Int)≤(i:Int):=by omega
  have hwr:=hfr.size;have hq:wr.cell? ⟨w.heap.size+1+1,0,none⟩=some (.slice (some ⟨w.heap.size+1,0,none⟩) l.length n):=by rw [hln];exact hfr.cell (HR.out.2.2.cell rfl) (by simp)
  have hb1:=hfr.cell b1 (by simp);by_cases hil:i<P.cos.length
  · have hil':(i:Int)<(P.cos.length:Int):=by omega
    obtain ⟨cb,oo,eco,hcs⟩:=HZ.out.2.2.1 (by omega);subst eco;obtain ⟨x,hx⟩:∃ x,P.cos[i]?=some x:=⟨P.cos[i],List.getElem?_eq_getElem hil⟩;obtain ⟨g0,g1,g2,g3,g4⟩:=crs_get hx;have hcbw:cb<w.heap.size:=World.block_lt_of_cell? w _ (hcs _ _ g0).2;have hcn:¬ cb=w.heap.size+1:=by omega
    have c0:=hfr.cell (HR.out.2.1.cell (hcs _ _ g0).2 id) hcn;have c1:=hfr.cell (HR.out.2.1.cell (hcs _ _ g1).2 id) hcn;have c2:=hfr.cell (HR.out.2.1.cell (hcs _ _ g2).2 id) hcn;have c3:=hfr.cell (HR.out.2.1.cell (hcs _ _ g3).2 id) hcn;have c4:=hfr.cell (HR.out.2.1.cell (hcs _ _ g4).2 id) hcn;rw [← Nat.add_assoc] at c1 c2 c3 c4
    have hnext:List.foldl (fun l c=>markS l c.cancel 2) (List.replicate n 0) (P.cos.take (i+1))=markS l x.cancel 2:=by
     have hx2:P.cos[i]=x:=by have:=List.getElem?_eq_getElem hil;rw [this] at hx;exact Option.some.inj hx
     rw [List.take_succ_eq_append_getElem hil,List.foldl_append,← hl,hx2]
     rfl
    have hwi:IntKind.i64.wrap ((i:Int)+1)=(i:Int)+1:=IntWalk.i64_in _ (by have:=HZ.out.2.2.2;omega);have hKK:=Lib.hid fun w2 (f:Fr Non wr w2) a k=>kinds1_c (f.cell hq id) (f.row hrow id) a k;have HX:=Lib.hid (And.intro hl (And.intro hln (And.intro hfr hnext)));clear hl hrow hfr hcs g0 g1 g2 g3 g4 hnext hx;have hlq:Hid (l.length=n):=Lib.hid hln;rw [hln] at hq;clear hln;obtain ⟨xn,xr,xc,xw,xa⟩:=x;simp only at c0 c1 c2 c3 c4;go_wp2_with fail
    refine (hKK.out _ (by exact fx) _ _).mono ?_;rintro e1 w2 ⟨rfl,hr2,hf2⟩;have HY:=Lib.hid (And.intro hr2 hf2);clear hr2 hf2;go_wp2_with fail
    obtain ⟨hl,hln,hfr,hnext⟩:=HX.out;refine ⟨⟨i+1,_,by omega,rfl,rfl,?_,?_,?_⟩,by simp [intOf];omega⟩
    · rw [hnext,mark_len];exact hln
    · rw [hnext];exact HY.out.1
    · exact Fr.trans (by exact hfr.alloc _) HY.out.2
  · have hii:i=P.cos.length:=by omega
    subst hii;rw [List.take_length] at hl;have hnlt:¬ ((P.cos.length:Int)<(P.cos.length:Int)):=by omega
    clear hil hi hi0;have HX1:=Lib.hid (And.intro hl hln);have HX2:=Lib.hid hrow;have HX3:=Lib.hid hfr;clear hl hln hrow hfr;go_wp2_with fail
    have HR':Hid (Row wr (w.heap.size+1) 3 (ints l)∧Fr Non w wr∧Row wr (w.heap.size+1+1) 36 [.slice (some ⟨w.heap.size+1,0,none⟩) n n]):=Lib.hid ⟨HX2.out,Fr.then HR.out.2.1 HX3.out (fun x h e=>by subst e;omega),HX3.out.row HR.out.2.2 (by simp)⟩;have hs2:w.heap.size+3≤wr.heap.size:=by omega
    clear HR HX2 HX3 hq b1 hwr hsz;have HR:=HR';clear HR'
    rename World=>W
    obtain ⟨l1,hl1⟩:∃ l1,l1=l:=⟨_,rfl⟩;rw [← hl1] at HR HX1;clear hl1;have b1:=hb1;clear hb1
    go_loopw [29] (fun v wr=>∃ (i:Nat) (l:List Int),i≤P.cos.length∧v=.int .i64 i∧l=List.foldl (fun l c=>markS l c.resume 1) l1 (P.cos.take i)∧l.length=n∧Row wr (w.heap.size+1) 3 (ints l)∧Fr (fun x=>x=w.heap.size+1) W wr) (fun v _=>P.cos.length - (intOf v).toNat)
    case atStart=>exact ⟨0,_,Nat.zero_le _,rfl,rfl,HX1.out.2,HR.out.1,Fr.refl _ _⟩
    case round =>
     obtain ⟨i,l,hi,rfl,hl,hln,hrow,hfr⟩:=hrel;have hi0:(0:Int)≤(i:Int):=by omega
     have hwr:=hfr.size;have hq:wr.cell? ⟨w.heap.size+1+1,0,none⟩=some (.slice (some ⟨w.heap.size+1,0,none⟩) l.length n):=by rw [hln];exact hfr.cell (HR.out.2.2.cell rfl) (by simp)
     have hb1:=hfr.cell b1 (by simp);by_cases hil:i<P.cos.length
     · have hil':(i:Int)<(P.cos.length:Int):=by omega
       obtain ⟨cb,oo,eco,hcs⟩:=HZ.out.2.2.1 (by omega);subst eco;obtain ⟨x,hx⟩:∃ x,P.cos[i]?=some x:=⟨P.cos[i],List.getElem?_eq_getElem hil⟩;obtain ⟨g0,g1,g2,g3,g4⟩:=crs_get hx;have hcbw:cb<w.heap.size:=World.block_lt_of_cell? w _ (hcs _ _ g0).2;have hcn:¬ cb=w.heap.size+1:=by omega
       have c0:=hfr.cell (HR.out.2.1.cell (hcs _ _ g0).2 id) hcn;have c1:=hfr.cell (HR.out.2.1.cell (hcs _ _ g1).2 id) hcn;have c2:=hfr.cell (HR.out.2.1.cell (hcs _ _ g2).2 id) hcn;have c3:=hfr.cell (HR.out.2.1.cell (hcs _ _ g3).2 id) hcn;have c4:=hfr.cell (HR.out.2.1.cell (hcs _ _ g4).2 id) hcn;rw [← Nat.add_assoc] at c1 c2 c3 c4
       have hnext:List.foldl (fun l c=>markS l c.resume 1) l1 (P.cos.take (i+1))=markS l x.resume 1:=by
        have hx2:P.cos[i]=x:=by have:=List.getElem?_eq_getElem hil;rw [this] at hx;exact Option.some.inj hx
        rw [List.take_succ_eq_append_getElem hil,List.foldl_append,← hl,hx2]
        rfl
       have hwi:IntKind.i64.wrap ((i:Int)+1)=(i:Int)+1:=IntWalk.i64_in _ (by have:=HZ.out.2.2.2;omega);have hKK:=Lib.hid fun w2 (f:Fr Non wr w2) a k=>kinds1_c (f.cell hq id) (f.row hrow id) a k;have HX:=Lib.hid (And.intro hl (And.intro hln (And.intro hfr hnext)));clear hl hrow hfr hcs g0 g1 g2 g3 g4 hnext hx;have hlq:Hid (l.length=n):=Lib.hid hln;rw [hln] at hq;clear hln;obtain ⟨xn,xr,xc,xw,xa⟩:=x;simp only at c0 c1 c2 c3 c4;go_wp2_with fail
       refine (hKK.out _ (by exact fx) _ _).mono ?_;rintro e1 w2 ⟨rfl,hr2,hf2⟩;have HY:=Lib.hid (And.intro hr2 hf2);clear hr2 hf2;go_wp2_with fail
       obtain ⟨hl,hln,hfr,hnext⟩:=HX.out;refine ⟨⟨i+1,_,by omega,rfl,rfl,?_,?_,?_⟩,by simp [intOf];omega⟩
       · rw [hnext,mark_len];exact hln
       · rw [hnext];exact HY.out.1
       · exact Fr.trans (by exact hfr.alloc _) HY.out.2
     · have hii:i=P.cos.length:=by omega
       subst hii;rw [List.take_length] at hl;have hnlt:¬ ((P.cos.length:Int)<(P.cos.length:Int)):=by omega
       clear hil hi hi0;have q1:=hrow;have HE:Hid (Row wr (w.heap.size+1) 3 (ints R)∧Fr Non w wr):=Lib.hid ⟨by rw [HZ.out.2.1,← HX1.out.1,← hl];exact hrow,Fr.then HR.out.2.1 hfr (fun x h e=>by subst e;omega)⟩;clear hl hrow hfr hb1 q1;rw [hln] at hq;clear hln;go_wp2_with fail
       go_ret
       exact ⟨w.heap.size+1,rfl,HE.out.1,by omega,HE.out.2⟩
end
theorem rights_all (kinds:List Int) (n:Nat):∀ (l:List (List In)) (i:Nat),rightsS kinds n i l=true ↔ ∀ (t:Nat) (f:List In),l[t]?=some f→rightS kinds n (kinds.getD (i+t) 0) f=true
 | [],i=>by simp [rightsS]
 | f :: l,i=>by
  have ih:=rights_all kinds n l (i+1);simp only [rightsS,Bool.and_eq_true,ih];constructor
  · rintro ⟨h1,h2⟩ t g hg;cases t with
    | zero=>cases hg;exact h1
    | succ t=>have:=h2 t g hg;rwa [show i+(t+1)=i+1+t from by omega]
  · intro h;exact ⟨h 0 f rfl,fun t g hg=>by have:=h (t+1) g hg;rwa [show i+1+t=i+(t+1) from by omega]⟩
section
variable {base:Nat} {P:Pr} {w:World}
theorem marks_len (g:Cr→Int) (k:Int):∀ (l:List Cr) (z:List Int),(l.foldl (fun l c=>markS l (g c) k) z).length=z.length
 | [],z=>rfl
 | c :: l,z=>by rw [List.foldl_cons,marks_len g k l,mark_len]
theorem kinds_len (P:Pr):(kindsS P).length=P.funs.length:=by
 unfold kindsS;rw [marks_len,marks_len,List.length_replicate]
theorem valid_c (fo:Option Addr) (fc:Nat) (co:Option Addr) (cc:Nat) (hf:FunsAt base w fo P.funs) (hco:CosB base w co P.cos) (hL:∀ f∈P.funs,∀ x∈f,x.l.length≤17592186043904) :
 Calls Tryz.prog 31 #[.agg #[.slice fo P.funs.length fc,.slice co P.cos.length cc]] w fun e w'=>e=.returned (.bool (validS P))∧Fr Non w w':=by
 obtain ⟨R,hR⟩:∃ R,R=validS P:=⟨_,rfl⟩;rw [← hR];unfold validS at hR;have HH:=Lib.hid (And.intro hf (And.intro hco (And.intro hL hR)));clear hf hco hL hR;by_cases hn:65536<P.funs.length
 · have hn1:(65536:Int)<(P.funs.length:Int):=by omega
   go_enter Tryz.func31,Tryz.ntmps31
   go_wp2_with fail
   go_ret
   exact ⟨by rw [HH.out.2.2.2,if_pos (Or.inl hn)];rfl,by exact fx⟩
 have hn1:¬ (65536:Int)<(P.funs.length:Int):=by omega
 by_cases hc:65536<P.cos.length
 · have hc1:(65536:Int)<(P.cos.length:Int):=by omega
   go_enter Tryz.func31,Tryz.ntmps31
   go_wp2_with fail
   go_ret
   exact ⟨by rw [HH.out.2.2.2,if_pos (Or.inr hc)];rfl,by exact fx⟩
 have hc1:¬ (65536:Int)<(P.cos.length:Int):=by omega
 have hR1:=HH.out.2.2.2;rw [if_neg (by omega)] at hR1;have HK:=Lib.hid fun w1 (g:Fr Non w w1)=>kinds_c fo fc co cc (HH.out.2.1.fr g (fun _ h=>h.elim)) (P:=P) (by omega) (by omega);have HR:=Lib.hid hR1;clear hR1;go_enter Tryz.func31,Tryz.ntmps31
 go_wp2_with fail
 refine (HK.out _ (by exact fx)).mono ?_;rintro e1 w1 ⟨g,rfl,hr,hg,hf⟩;have hgl:=hr.lt;have hs1:=hf.size;have b0:=hf.new_cell (by simp [Non]) (o:=0) rfl;have b1:=hf.new_cell (by simp [Non]) (o:=1) rfl;have HF:Hid (Fr Non w w1):=Lib.hid (Fr.trans (by exact fx) hf);have hkl:=kinds_len P;have HG:=Lib.hid (And.intro hr hkl);generalize kindsS P=kinds at *;simp only [World.size_alloc] at hs1 hg;clear hr hf HK;clear hkl;go_wp2_with fail
 go_loopw [24] (fun v wr=>∃ i:Nat,i≤P.cos.length∧v=.int .i64 i∧(∀ t,t<i→∀ x,P.cos[t]?=some x→coroutineS kinds x=true)∧Fr Non w1 wr) (fun v _=>P.cos.length - (intOf v).toNat)
 case atStart=>exact ⟨0,Nat.zero_le _,rfl,fun t ht=>by omega,Fr.refl _ _⟩
 case round =>
  obtain ⟨i,hi,rfl,hall,hfr⟩:=hrel;have hi0:(0:Int)≤(i:Int):=by omega
  have hwr:=hfr.size;have d0:=hfr.cell b0 id;have d1:=hfr.cell b1 id;by_cases hil:i<P.cos.length
  · have hil':(i:Int)<(P.cos.length:Int):=by omega
    obtain ⟨cb,oo,eco,hcs⟩:=HH.out.2.1 (by omega);subst eco;obtain ⟨x,hx⟩:∃ x,P.cos[i]?=some x:=⟨P.cos[i],List.getElem?_eq_getElem hil⟩;obtain ⟨g0,g1,g2,g3,g4⟩:=crs_get hx;have hfw:=HF.out.trans hfr;have c0:=hfw.cell (hcs _ _ g0).2 id;have c1:=hfw.cell (hcs _ _ g1).2 id;have c2:=hfw.cell (hcs _ _ g2).2 id;have c3:=hfw.cell (hcs _ _ g3).2 id;have c4:=hfw.cell (hcs _ _ g4).2 id;rw [← Nat.add_assoc] at c1 c2 c3 c4;have hwi:IntKind.i64.wrap ((i:Int)+1)=(i:Int)+1:=IntWalk.i64_in _ (by omega);have HC:=Lib.hid fun w2 (f:Fr Non w1 w2)=>coroutine_c (kinds:=kinds) w2 g P.funs.length (fun j hj=>(f.row HG.out.1 id).cell (by simp [ints,hj])) x;rw [HG.out.2] at HC;have HX:=Lib.hid (And.intro hall (And.intro hfr hx));clear hall hfr hcs g0 g1 g2 g3 g4 hx hfw;obtain ⟨xn,xr,xc,xw,xa⟩:=x;simp only at c0 c1 c2 c3 c4;go_wp2_with fail
    refine (HC.out _ (by exact HX.out.2.1.alloc _)).mono ?_;rintro e2 w2 ⟨rfl,hf2⟩;have hf12:Fr Non w1 w2:=Fr.trans (by exact HX.out.2.1.alloc _) hf2;clear hf2;cases hob:coroutineS kinds ⟨xn,xr,xc,xw,xa⟩ with
    | true =>
     go_wp2_with fail
     refine ⟨⟨i+1,by omega,rfl,?_,hf12⟩,by simp [intOf];omega⟩;intro t ht z hz;rcases Nat.lt_succ_iff_lt_or_eq.1 ht with h|rfl
     · exact HX.out.1 t h z hz
     · rw [HX.out.2.2] at hz;cases hz
       exact hob
    | false =>
     go_wp2_with fail
     go_ret
     refine ⟨?_,HF.out.trans hf12⟩;rw [HR.out]
     have:P.cos.all (coroutineS kinds)=false:=by
      rw [List.all_eq_false];exact ⟨_,List.mem_of_getElem? HX.out.2.2,by rw [hob];simp⟩
     rw [this]
     rfl
  · have hii:i=P.cos.length:=by omega
    subst hii
    have hall2:P.cos.all (coroutineS kinds)=true:=by
     rw [List.all_eq_true];intro y hy;obtain ⟨t,ht,rfl⟩:=List.getElem_of_mem hy;exact hall t (by omega) _ (List.getElem?_eq_getElem ht)
    have HR2:Hid (R=rightsS kinds P.cos.length 0 P.funs):=Lib.hid (by rw [HR.out,hall2];rfl);have hnlt:¬ ((P.cos.length:Int)<(P.cos.length:Int)):=by omega
    have HF2:=Lib.hid hfr;clear hall hall2 hfr hil hi hi0 HR;go_wp2_with fail
    go_loopw [36] (fun v wr2=>∃ i:Nat,i≤P.funs.length∧v=.int .i64 i∧(∀ t,t<i→∀ f,P.funs[t]?=some f→rightS kinds P.cos.length (kinds.getD t 0) f=true)∧Fr Non w1 wr2) (fun v _=>P.funs.length - (intOf v).toNat)
    case atStart=>exact ⟨0,Nat.zero_le _,rfl,fun t ht=>by omega,HF2.out⟩
    case round =>
     rename World=>wx
     obtain ⟨i,hi,rfl,hall,hfr⟩:=hrel;have hi0:(0:Int)≤(i:Int):=by omega
     have hwx:=hfr.size;have e0:=hfr.cell b0 id;have e1:=hfr.cell b1 id;clear d0 d1;by_cases hil:i<P.funs.length
     · have hil':(i:Int)<(P.funs.length:Int):=by omega
       obtain ⟨f,hfi⟩:∃ f,P.funs[i]?=some f:=⟨P.funs[i],List.getElem?_eq_getElem hil⟩;obtain ⟨fb,off,io,ic,eco,c0,hin⟩:=HH.out.1 i f hfi;subst eco;have hfw:=HF.out.trans hfr;have c0:=hfw.cell c0.2 id;have hwi:IntKind.i64.wrap ((i:Int)+1)=(i:Int)+1:=IntWalk.i64_in _ (by omega);have r0:=(hfr.row HG.out.1 id).cell (o:=i) (v:=.int .i64 (kinds.getD i 0)) (by simp [ints,HG.out.2,hil]);have hRC:=Lib.hid fun w2 (c:Nat) (f1:Fr Non w1 w2) h=>right_c (base:=base) (P:=P) (kinds:=kinds) (f:=f) (kind:=kinds.getD i 0) (w:=w2) (c:=c) ⟨⟨some ⟨fb,off,none⟩,fc,co,cc,g,P.funs.length,io,ic,h,⟨_,f1.row HG.out.1 id,fun j n hn=>by simp [ints,hn]⟩,hin.fr (HF.out.trans f1) (high_non _)⟩⟩ (HH.out.2.2.1 f (List.mem_of_getElem? hfi));have HX:=Lib.hid (And.intro hall (And.intro hfr hfi));clear hall hfr hin hfi hfw;obtain ⟨kd,hkd⟩:∃ kd,kd=kinds.getD i 0:=⟨_,rfl⟩;rw [← hkd] at r0 hRC;have HKD:=Lib.hid hkd;clear hkd;go_wp2_with fail
       go_still_tail 8,(by kernel_rfl)
       change wpList _ _ _ _ _ wx.drew;have HX2:Hid (Fr Non w1 wx.drew):=Lib.hid HX.out.2.1.drew;have r0':wx.drew.cell? ⟨g,i,none⟩=some (.int .i64 kd):=r0;have x0:wx.drew.cell? _=_:=e0;have x1:wx.drew.cell? _=_:=e1;have hws:wx.drew.heap.size=wx.heap.size:=rfl;generalize wx.drew=w2 at *;clear r0 e0 e1;go_wp2_with fail
       refine (hRC.out _ _ (by exact HX2.out.alloc _) (by rw [HG.out.2,← hws];exact Row.new' rfl)).mono ?_;rintro e3 w3 ⟨rfl,hf3⟩;have hf13:Fr Non w1 w3:=Fr.trans (by exact HX2.out.alloc _) hf3;clear hf3;cases hob:rightS kinds P.cos.length kd f with
       | true =>
        go_wp2_with fail
        refine ⟨⟨i+1,by omega,rfl,?_,hf13⟩,by simp [intOf];omega⟩;intro t ht z hz;rcases Nat.lt_succ_iff_lt_or_eq.1 ht with h|rfl
        · exact HX.out.1 t h z hz
        · rw [HX.out.2.2] at hz;cases hz
          rw [← HKD.out];exact hob
       | false =>
        go_wp2_with fail
        go_ret
        refine ⟨?_,HF.out.trans hf13⟩;rw [HR2.out]
        have:rightsS kinds P.cos.length 0 P.funs=false:=by
         rw [Bool.eq_false_iff];intro h;have:=(rights_all kinds P.cos.length P.funs 0).1 h i f HX.out.2.2;rw [Nat.zero_add,← HKD.out,hob] at this;cases this
        rw [this]
        rfl
     · have hii:i=P.funs.length:=by omega
       subst hii
       have hall2:rightsS kinds P.cos.length 0 P.funs=true:=by
        rw [rights_all];intro t f hf;rw [Nat.zero_add];exact hall t (List.getElem?_eq_some_iff.1 hf).1 f hf
       have hnlt2:¬ ((P.funs.length:Int)<(P.funs.length:Int)):=by omega
       have HF3:=Lib.hid (HF.out.trans hfr);clear hall hfr hi hi0;go_wp2_with fail
       go_ret
       exact ⟨by rw [HR2.out,hall2];rfl,HF3.out⟩
end
end Go.Proofs.YtlbomnbpahmphaaGreat
namespace Go.Proofs.YtlbomnbpahmphaaGreat
theorem shape_op {op:Int} (h:(shapeS op).ok=true):0≤op∧op≤29:=by
 by_cases h0:0≤op∧op≤29
 · exact h0
 · unfold shapeS at h;rw [if_neg (by omega),if_neg (by omega),if_neg (by omega),if_neg (by omega),if_neg (by omega),if_neg (by omega),if_neg (by omega),if_neg (by omega),if_neg (by omega),if_neg (by omega),if_neg (by omega),if_neg (by omega),if_neg (by omega),if_neg (by omega),if_neg (by omega),if_neg (by omega),if_neg (by omega),if_neg (by omega),if_neg (by omega)] at h;cases h
theorem field_reg {kinds:List Int} {nc:Nat} {f n:Int} (hf:f=1∨f=2) (h:fieldS kinds nc f n=true):Reg n:=by
 unfold fieldS at h;rw [if_pos hf] at h;exact withinS_iff.1 h
theorem inOk_of {P:Pr} {kinds:List Int} {n:Nat} {kind:Int} {x:In} (hk:kinds.length=P.funs.length) (h:oneS kinds P.cos.length n kind x=true):InOk P n x∧(x.op=29→kind≠1):=by
 obtain ⟨_,_,hto⟩:=one_ok h;unfold oneS at h;split at h
 · cases h
 · rename_i h1;split at h
   · cases h
   · rename_i h2;simp only [Bool.or_eq_true,Bool.not_eq_true',not_or,Bool.not_eq_false,Bool.and_eq_true,decide_eq_true_eq,bne_iff_ne,beq_iff_eq,ne_eq,not_and,Classical.not_not] at h1 h2;obtain ⟨⟨⟨⟨hok,ha⟩,hb⟩,hc⟩,hal⟩:=h1;obtain ⟨l1,l2⟩:=h2;obtain ⟨o0,o1⟩:=shape_op hok
     have sa:x.op∈[0,1,2,3,4,5,6,7,8,9,10,11,12,14,15,16,17,18,19,20,21,22,23,24,25,(26:Int)]→(shapeS x.op).a=1∨(shapeS x.op).a=2:=by
      intro hm;simp only [List.mem_cons,List.not_mem_nil,or_false] at hm;rcases hm with e|e|e|e|e|e|e|e|e|e|e|e|e|e|e|e|e|e|e|e|e|e|e|e|e|e <;> rw [e] <;> decide
     have sb:x.op∈[2,3,4,5,6,8,9,10,11,12,21,(24:Int)]→(shapeS x.op).b=1∨(shapeS x.op).b=2:=by
      intro hm;simp only [List.mem_cons,List.not_mem_nil,or_false] at hm;rcases hm with e|e|e|e|e|e|e|e|e|e|e|e <;> rw [e] <;> decide
     have sc:x.op∈[8,9,10,11,(12:Int)]→(shapeS x.op).c=1∨(shapeS x.op).c=2:=by
      intro hm;simp only [List.mem_cons,List.not_mem_nil,or_false] at hm;rcases hm with e|e|e|e|e <;> rw [e] <;> decide
     have sl:x.op∈[8,9,10,13,14,15,23,(24:Int)]→(shapeS x.op).l=1∨(shapeS x.op).l = -1:=by
      intro hm;simp only [List.mem_cons,List.not_mem_nil,or_false] at hm;rcases hm with e|e|e|e|e|e|e|e <;> rw [e] <;> decide
     refine ⟨⟨o0,o1,fun m=>field_reg (sa m) ha,fun m=>field_reg (sb m) hb,fun m=>field_reg (sc m) hc,fun m=>?_,hto,fun e=>?_,fun e=>?_⟩,fun e=>?_⟩
     · rcases sl m with e|e
       · have:=l1 (by rw [e];decide);rw [e] at this;omega
       · have:=l2 (by rw [e];decide);omega
     · rw [e] at hb;change fieldS kinds P.cos.length 7 x.b=true at hb;exact withinS_iff.1 (show withinS x.b P.cos.length=true from hb)
     · rw [e] at hb;have hb:(withinS x.b kinds.length && kinds.getD x.b.toNat 0 == 0)=true:=hb;rw [Bool.and_eq_true] at hb;have:=withinS_iff.1 hb.1;rw [hk] at this;exact this
     · rw [e] at hal;have hal:(kind != 1)=true:=hal
       simpa using hal
theorem mark_kept (a k:Int) (l:List Int) (i:Nat) (h:l.getD i 0=k) (hi:i<l.length):(markS l a k).getD i 0=k:=by
 unfold markS;split
 · rw [List.getD_eq_getElem?_getD,List.getElem?_set];split
   · rw [if_pos (by omega)];rfl
   · rw [← h,List.getD_eq_getElem?_getD]
 · exact h
theorem marks_kept (g:Cr→Int) (k:Int) (i:Nat):∀ (cs:List Cr) (l:List Int),l.getD i 0=k→i<l.length→(cs.foldl (fun l c=>markS l (g c) k) l).getD i 0=k
 | [],l,h,_=>h
 | c :: cs,l,h,hi=>marks_kept g k i cs _ (mark_kept _ _ _ _ h hi) (by rw [mark_len];exact hi)
theorem marks_set (g:Cr→Int) (k:Int) (x:Cr):∀ (cs:List Cr) (l:List Int),x∈cs→0≤g x→g x<l.length→(cs.foldl (fun l c=>markS l (g c) k) l).getD (g x).toNat 0=k
 | c :: cs,l,hx,h0,h1=>by
  rw [List.foldl_cons];rcases List.mem_cons.1 hx with rfl|hx
  · refine marks_kept g k _ cs _ ?_ (by rw [mark_len];omega);unfold markS;rw [if_pos (withinS_iff.2 ⟨h0,h1⟩),List.getD_eq_getElem?_getD,List.getElem?_set_self (by omega)]
    rfl
  · exact marks_set g k x cs _ hx h0 (by rw [mark_len];exact h1)
theorem valid_good {P:Pr} (h:validS P=true) (hL:∀ f∈P.funs,∀ x∈f,x.l.length≤17592186043904):PrGood P (kindsS P):=by
 unfold validS at h;split at h
 · cases h
 · rename_i hn;rw [Bool.and_eq_true,List.all_eq_true,rights_all] at h;obtain ⟨hc,hr⟩:=h;have hk:=kinds_len P
   have hcr:∀ x∈P.cos,(0≤x.resume∧x.resume<P.funs.length)∧(0≤x.cancel∧x.cancel<P.funs.length):=by
    intro x hx;have:=hc x hx;unfold coroutineS at this;split at this
    · cases this
    · rename_i h1;simp only [Bool.or_eq_true,Bool.not_eq_true',not_or,Bool.not_eq_false] at h1;rw [← hk];exact ⟨withinS_iff.1 h1.1.1,withinS_iff.1 h1.1.2⟩
   refine ⟨⟨fun x hx=>(hcr x hx).1,fun x hx=>(hcr x hx).2⟩,fun k f hf=>?_,fun x hx=>?_⟩
   · have h1:=hr k f hf;rw [Nat.zero_add] at h1;unfold rightS at h1;split at h1
     · cases h1
     · rename_i h2;simp only [not_or,Nat.not_lt,Bool.not_eq_true] at h2;split at h1
       · rename_i h3;refine ⟨by omega,h2.2.1,fun j x hx=>?_⟩;have hxm:=List.mem_of_getElem? hx;have ho:=inOk_of hk (List.all_eq_true.1 h3 x hxm);refine ⟨ho.1,fun hop=>?_,ho.2⟩;have:=((fn_ok (by omega) h2.2.1 h2.2.2 h3 (hL f (List.mem_of_getElem? hf))).ok j x hx).2.2.2.1;refine this ?_;unfold fallsS;rw [if_neg (by simpa using hop)];have:=List.all_eq_true.1 h3 x hxm;unfold oneS at this;split at this
         · cases this
         · rename_i h4;simp only [Bool.or_eq_true,Bool.not_eq_true',not_or,Bool.not_eq_false] at h4;exact h4.1.1.1.1
       · cases h1
   · have:=(hcr x hx).1;exact marks_set Cr.resume 1 x P.cos _ hx this.1 (by rw [marks_len,List.length_replicate];exact this.2)
def countS (n:Int):Bool:=decide (0≤n) && decide (n≤1048576)
def rFields (nf nc:Nat) (x:In):Bool :=
 if x.op=0 then withinS x.a 16 && x.c == 0 else if x.op=1 then withinS x.a 16 && (countS x.b && x.c == 0)
 else if x.op=2∨x.op=5∨x.op=6 then withinS x.a 16 && (withinS x.b 16 && countS x.c)
 else if x.op=3∨x.op=4∨x.op=21∨x.op=24 then withinS x.a 16 && (withinS x.b 16 && x.c == 0)
 else if x.op=7∨x.op=16 then withinS x.a 16 && (x.b == 0 && countS x.c)
 else if x.op=8∨x.op=9∨x.op=10∨x.op=11∨x.op=12 then withinS x.a 16 && (withinS x.b 16 && withinS x.c 16)
 else if x.op=13∨x.op=27∨x.op=28∨x.op=29 then x.a == 0 && (x.b == 0 && x.c == 0)
 else if x.op=19 then withinS x.a 16 && (decide (0≤x.b) && x.c == 0)
 else if x.op=22 then withinS x.a 16 && (withinS x.b nc && x.c == 0)
 else if x.op=26 then withinS x.a 16 && (withinS x.b nf && x.c == 0)
 else withinS x.a 16 && (x.b == 0 && x.c == 0)
def rLabels (op:Int):Int:=if op=8∨op=9∨op=10∨op=13∨op=14∨op=23∨op=24 then 1 else if op=15 then -1 else 0
def knownS (op:Int):Bool:=decide (0≤op) && decide (op≤29)
def rOne (kinds:List Int) (nf nc n:Nat) (kind:Int) (x:In):Bool :=
 if !knownS x.op || !rFields nf nc x || !allowedS kind x.op || (decide (0≤rLabels x.op) && ((x.l.length:Int) != rLabels x.op)) || (decide (rLabels x.op<0) && decide ((x.l.length:Int)<1)) then false
 else if !(x.l.all fun j=>withinS j n) then false else !((x.op == 26) && (kinds.getD x.b.toNat 0 != 0))
theorem op_30 {op:Int} (h0:0≤op) (h1:op≤29):op=0∨op=1∨op=2∨op=3∨op=4∨op=5∨op=6∨op=7∨op=8∨op=9∨op=10∨op=11∨op=12∨op=13∨op=14∨op=15∨op=16∨op=17∨op=18∨op=19∨op=20∨op=21∨op=22∨op=23∨op=24∨op=25∨op=26∨op=27∨op=28∨op=29:=by omega
theorem count_within (n:Int):countS n=withinS n 1048577:=by
 unfold countS withinS
 congr 1
 rw [decide_eq_decide];omega
theorem len_one (n:Nat):(decide ((n:Int)<1))=((n:Int) == 0):=by
 by_cases h:n=0
 · subst h;rfl
 · rw [decide_eq_false (by omega),beq_false_of_ne (by omega)]
theorem one_eq {kinds:List Int} {nf nc n:Nat} {kind:Int} (hk:kinds.length=nf) (x:In):rOne kinds nf nc n kind x=oneS kinds nc n kind x:=by
 obtain ⟨op,a,b,c,l⟩:=x;by_cases hkn:0≤op∧op≤29
 · unfold rOne oneS;simp only [len_one];generalize (l.all fun j=>withinS j n)=q;rcases op_30 hkn.1 hkn.2 with rfl|rfl|rfl|rfl|rfl|rfl|rfl|rfl|rfl|rfl|rfl|rfl|rfl|rfl|rfl|rfl|rfl|rfl|rfl|rfl|rfl|rfl|rfl|rfl|rfl|rfl|rfl|rfl|rfl|rfl
   all_goals simp [knownS,rFields,rLabels,shapeS,fieldS,count_within,hk,Bool.and_assoc]
   generalize kinds[b.toNat]?.getD 0=kk;by_cases hz:kk=0
   · subst hz;cases withinS a 16 <;> cases withinS b nf <;> cases q <;> simp
   · have:(kk != 0)=true:=by simp [hz]
     rw [this,decide_eq_false hz];cases withinS a 16 <;> cases withinS b nf <;> cases q <;> simp
 · have h1:knownS op=false:=by
    unfold knownS;by_cases h0:0≤op
    · rw [decide_eq_false (show ¬ op≤29 by omega),Bool.and_false]
    · rw [decide_eq_false h0,Bool.false_and]
   have h2:(shapeS op).ok=false:=by
    cases h:(shapeS op).ok with
    | false=>rfl
    | true=>exact absurd (shape_op h) hkn
   unfold rOne oneS;simp only [h1,h2];simp
end Go.Proofs.YtlbomnbpahmphaaGreat
namespace Go.Proofs.YtlbomnbpahmphaaGreat
open Go.RowKit
theorem shape_none {op:Int} (h:¬ (0≤op∧op≤29)):shapeS op=⟨0,0,0,0,false⟩:=by
 unfold shapeS;rw [if_neg (by omega),if_neg (by omega),if_neg (by omega),if_neg (by omega),if_neg (by omega),if_neg (by omega),if_neg (by omega),if_neg (by omega),if_neg (by omega),if_neg (by omega),if_neg (by omega),if_neg (by omega),if_neg (by omega),if_neg (by omega),if_neg (by omega),if_neg (by omega),if_neg (by omega),if_neg (by omega),if_neg (by omega)]
theorem rknown_c (w:World) (x:In) (la:Option Addr) (lc:Nat):Calls Tryz.prog 67 #[.agg #[.int .i64 x.op,.int .i64 x.a,.int .i64 x.b,.int .i64 x.c,.slice la x.l.length lc]] w fun e w'=>e=.returned (.bool (knownS x.op))∧Fr Non w w':=by
 obtain ⟨r,hr⟩:∃ r,r=knownS x.op:=⟨_,rfl⟩;rw [← hr];unfold knownS at hr;have HR:=Lib.hid hr;clear hr;obtain ⟨op,a,b,c,l⟩:=x;simp only at HR ⊢;by_cases h0:0≤op
 · have hd:decide (0≤op)=true:=decide_eq_true h0;go_enter Tryz.func67,Tryz.ntmps67
   go_wp2_with fail
   go_ret
   exact ⟨by rw [HR.out,hd];simp,by exact fx⟩
 · have hd:decide (0≤op)=false:=decide_eq_false h0;go_enter Tryz.func67,Tryz.ntmps67
   go_wp2_with fail
   go_ret
   exact ⟨by rw [HR.out,hd];simp,by exact fx⟩
theorem register_c (w:World) (n:Int):Calls Tryz.prog 97 #[.int .i64 n] w fun e w'=>e=.returned (.bool (withinS n 16))∧w'=w:=by
 obtain ⟨r,hr⟩:∃ r,r=withinS n 16:=⟨_,rfl⟩;rw [← hr];unfold withinS at hr;have HR:=Lib.hid hr;clear hr;by_cases h0:0≤n
 · have hd:decide (0≤n)=true:=decide_eq_true h0;go_enter Tryz.func97,Tryz.ntmps97
   go_wp2_with fail
   go_ret
   exact ⟨by rw [HR.out,hd];simp,rfl⟩
 · have hd:decide (0≤n)=false:=decide_eq_false h0;go_enter Tryz.func97,Tryz.ntmps97
   go_wp2_with fail
   go_ret
   exact ⟨by rw [HR.out,hd];simp,rfl⟩
theorem count_c (w:World) (n:Int):Calls Tryz.prog 98 #[.int .i64 n] w fun e w'=>e=.returned (.bool (countS n))∧w'=w:=by
 obtain ⟨r,hr⟩:∃ r,r=countS n:=⟨_,rfl⟩;rw [← hr];unfold countS at hr;have HR:=Lib.hid hr;clear hr;by_cases h0:0≤n
 · have hd:decide (0≤n)=true:=decide_eq_true h0;go_enter Tryz.func98,Tryz.ntmps98
   go_wp2_with fail
   go_ret
   exact ⟨by rw [HR.out,hd];simp,rfl⟩
 · have hd:decide (0≤n)=false:=decide_eq_false h0;go_enter Tryz.func98,Tryz.ntmps98
   go_wp2_with fail
   go_ret
   exact ⟨by rw [HR.out,hd];simp,rfl⟩
theorem rlabels_c (w:World) (x:In) (la:Option Addr) (lc:Nat):Calls Tryz.prog 66 #[.agg #[.int .i64 x.op,.int .i64 x.a,.int .i64 x.b,.int .i64 x.c,.slice la x.l.length lc]] w fun e w'=>e=.returned (.int .i64 (rLabels x.op))∧Fr Non w w':=by
 obtain ⟨op,a,b,c,l⟩:=x;simp only;obtain ⟨r,hr⟩:∃ r,r=rLabels op:=⟨_,rfl⟩;rw [← hr];by_cases h:0≤op∧op≤29
 · rcases op_30 h.1 h.2 with rfl|rfl|rfl|rfl|rfl|rfl|rfl|rfl|rfl|rfl|rfl|rfl|rfl|rfl|rfl|rfl|rfl|rfl|rfl|rfl|rfl|rfl|rfl|rfl|rfl|rfl|rfl|rfl|rfl|rfl
   all_goals simp [rLabels] at hr
   all_goals subst hr
   all_goals clear h
   all_goals go_enter Tryz.func66,Tryz.ntmps66
   all_goals go_wp2_with fail
   all_goals go_ret
   all_goals exact ⟨rfl,by exact fx⟩
 · rw [show rLabels op=0 from by unfold rLabels;rw [if_neg (by omega),if_neg (by omega)]] at hr;subst hr;have b0:(op == 0)=false:=beq_false_of_ne (by omega);have b1:(op == 1)=false:=beq_false_of_ne (by omega);have b2:(op == 2)=false:=beq_false_of_ne (by omega);have b3:(op == 3)=false:=beq_false_of_ne (by omega);have b4:(op == 4)=false:=beq_false_of_ne (by omega);have b5:(op == 5)=false:=beq_false_of_ne (by omega);have b6:(op == 6)=false:=beq_false_of_ne (by omega);have b7:(op == 7)=false:=beq_false_of_ne (by omega);have b8:(op == 8)=false:=beq_false_of_ne (by omega);have b9:(op == 9)=false:=beq_false_of_ne (by omega);have b10:(op == 10)=false:=beq_false_of_ne (by omega);have b11:(op == 11)=false:=beq_false_of_ne (by omega);have b12:(op == 12)=false:=beq_false_of_ne (by omega);have b13:(op == 13)=false:=beq_false_of_ne (by omega);have b14:(op == 14)=false:=beq_false_of_ne (by omega);have b15:(op == 15)=false:=beq_false_of_ne (by omega);have b16:(op == 16)=false:=beq_false_of_ne (by omega);have b17:(op == 17)=false:=beq_false_of_ne (by omega);have b18:(op == 18)=false:=beq_false_of_ne (by omega);have b19:(op == 19)=false:=beq_false_of_ne (by omega);have b20:(op == 20)=false:=beq_false_of_ne (by omega);have b21:(op == 21)=false:=beq_false_of_ne (by omega);have b22:(op == 22)=false:=beq_false_of_ne (by omega);have b23:(op == 23)=false:=beq_false_of_ne (by omega);have b24:(op == 24)=false:=beq_false_of_ne (by omega);have b25:(op == 25)=false:=beq_false_of_ne (by omega);have b26:(op == 26)=false:=beq_false_of_ne (by omega);have b27:(op == 27)=false:=beq_false_of_ne (by omega);have b28:(op == 28)=false:=beq_false_of_ne (by omega);have b29:(op == 29)=false:=beq_false_of_ne (by omega);clear h;go_enter Tryz.func66,Tryz.ntmps66
   go_wp2_with fail
   go_ret
   exact ⟨rfl,by exact fx⟩
theorem rallowed_c (w:World) (kind:Int) (x:In) (la:Option Addr) (lc:Nat):Calls Tryz.prog 69 #[.int .i64 kind,.agg #[.int .i64 x.op,.int .i64 x.a,.int .i64 x.b,.int .i64 x.c,.slice la x.l.length lc]] w fun e w'=>e=.returned (.bool (allowedS kind x.op))∧Fr Non w w':=by
 obtain ⟨op,a,b,c,l⟩:=x;simp only;obtain ⟨r,hr⟩:∃ r,r=allowedS kind op:=⟨_,rfl⟩;rw [← hr];unfold allowedS at hr;have HR:=Lib.hid hr;clear hr;by_cases h1:op=1
 · subst h1;go_enter Tryz.func69,Tryz.ntmps69
   go_wp2_with fail
   go_ret
   exact ⟨by rw [HR.out];rfl,by exact fx⟩
 by_cases h2:op=20∨op=21∨op=23∨op=24∨op=27∨op=28
 · rcases h2 with rfl|rfl|rfl|rfl|rfl|rfl
   all_goals go_enter Tryz.func69,Tryz.ntmps69
   all_goals go_wp2_with fail
   all_goals go_ret
   all_goals exact ⟨by rw [HR.out];rfl,by exact fx⟩
 by_cases h3:op=29
 · subst h3;go_enter Tryz.func69,Tryz.ntmps69
   go_wp2_with fail
   go_ret
   exact ⟨by rw [HR.out];rfl,by exact fx⟩
 have b1:(op == 1)=false:=beq_false_of_ne (by omega);have b20:(op == 20)=false:=beq_false_of_ne (by omega);have b21:(op == 21)=false:=beq_false_of_ne (by omega);have b23:(op == 23)=false:=beq_false_of_ne (by omega);have b24:(op == 24)=false:=beq_false_of_ne (by omega);have b27:(op == 27)=false:=beq_false_of_ne (by omega);have b28:(op == 28)=false:=beq_false_of_ne (by omega);have b29:(op == 29)=false:=beq_false_of_ne (by omega);have HE:=Lib.hid (And.intro h1 (And.intro h2 h3));clear h1 h2 h3;go_enter Tryz.func69,Tryz.ntmps69
 go_wp2_with fail
 go_ret
 exact ⟨by rw [HR.out,if_neg HE.out.1,if_neg HE.out.2.1,if_neg HE.out.2.2];rfl,by exact fx⟩
theorem rwrites_c (w:World) (x:In) (la:Option Addr) (lc:Nat):Calls Tryz.prog 70 #[.agg #[.int .i64 x.op,.int .i64 x.a,.int .i64 x.b,.int .i64 x.c,.slice la x.l.length lc]] w fun e w' =>
 e=.returned (.tuple #[.int .i64 (writesS x).1,.bool (writesS x).2])∧Fr Non w w':=by
 obtain ⟨op,a,b,c,l⟩:=x;obtain ⟨r,hr⟩:∃ r,r=writesS ⟨op,a,b,c,l⟩:=⟨_,rfl⟩;rw [← hr];simp only;by_cases h:0≤op∧op≤29
 · rcases op_30 h.1 h.2 with rfl|rfl|rfl|rfl|rfl|rfl|rfl|rfl|rfl|rfl|rfl|rfl|rfl|rfl|rfl|rfl|rfl|rfl|rfl|rfl|rfl|rfl|rfl|rfl|rfl|rfl|rfl|rfl|rfl|rfl
   all_goals simp [writesS,shapeS] at hr
   all_goals subst hr
   all_goals clear h
   all_goals go_enter Tryz.func70,Tryz.ntmps70
   all_goals go_wp2_with fail
   all_goals go_ret2
   all_goals exact ⟨rfl,by exact fx⟩
 · rw [show writesS ⟨op,a,b,c,l⟩=(0,false) from by unfold writesS;rw [shape_none h];rfl] at hr;subst hr;have b0:(op == 0)=false:=beq_false_of_ne (by omega);have b1:(op == 1)=false:=beq_false_of_ne (by omega);have b2:(op == 2)=false:=beq_false_of_ne (by omega);have b3:(op == 3)=false:=beq_false_of_ne (by omega);have b4:(op == 4)=false:=beq_false_of_ne (by omega);have b5:(op == 5)=false:=beq_false_of_ne (by omega);have b6:(op == 6)=false:=beq_false_of_ne (by omega);have b7:(op == 7)=false:=beq_false_of_ne (by omega);have b8:(op == 8)=false:=beq_false_of_ne (by omega);have b9:(op == 9)=false:=beq_false_of_ne (by omega);have b10:(op == 10)=false:=beq_false_of_ne (by omega);have b11:(op == 11)=false:=beq_false_of_ne (by omega);have b12:(op == 12)=false:=beq_false_of_ne (by omega);have b13:(op == 13)=false:=beq_false_of_ne (by omega);have b14:(op == 14)=false:=beq_false_of_ne (by omega);have b15:(op == 15)=false:=beq_false_of_ne (by omega);have b16:(op == 16)=false:=beq_false_of_ne (by omega);have b17:(op == 17)=false:=beq_false_of_ne (by omega);have b18:(op == 18)=false:=beq_false_of_ne (by omega);have b19:(op == 19)=false:=beq_false_of_ne (by omega);have b20:(op == 20)=false:=beq_false_of_ne (by omega);have b21:(op == 21)=false:=beq_false_of_ne (by omega);have b22:(op == 22)=false:=beq_false_of_ne (by omega);have b23:(op == 23)=false:=beq_false_of_ne (by omega);have b24:(op == 24)=false:=beq_false_of_ne (by omega);have b25:(op == 25)=false:=beq_false_of_ne (by omega);have b26:(op == 26)=false:=beq_false_of_ne (by omega);have b27:(op == 27)=false:=beq_false_of_ne (by omega);have b28:(op == 28)=false:=beq_false_of_ne (by omega);have b29:(op == 29)=false:=beq_false_of_ne (by omega);clear h;go_enter Tryz.func70,Tryz.ntmps70
   go_wp2_with fail
   go_ret2
   exact ⟨rfl,by exact fx⟩
theorem rfields_c (w:World) (fo co:Option Addr) (nf fc nc cc:Nat) (x:In) (hx:0≤x.op∧x.op≤29) (la:Option Addr) (lc:Nat):Calls Tryz.prog 68 #[.agg #[.slice fo nf fc,.slice co nc cc],.agg #[.int .i64 x.op,.int .i64 x.a,.int .i64 x.b,.int .i64 x.c,.slice la x.l.length lc]] w fun e w' =>
 e=.returned (.bool (rFields nf nc x))∧Fr Non w w':=by
 obtain ⟨op,a,b,c,l⟩:=x;simp only at hx ⊢;obtain ⟨r,hr⟩:∃ r,r=rFields nf nc ⟨op,a,b,c,l⟩:=⟨_,rfl⟩;rw [← hr];have hx:op=0∨op=1∨(op=2∨op=5∨op=6∨op=3∨op=4∨op=21∨op=24∨op=8∨op=9∨op=10∨op=11∨op=12)∨(op=7∨op=16∨op=14∨op=15∨op=17∨op=18∨op=20∨op=23∨op=25)∨(op=13∨op=27∨op=28∨op=29)∨op=19∨op=22∨op=26:=by omega
 rcases hx with hx|hx|hx|hx|hx|hx|hx|hx
 · subst hx;simp [rFields] at hr;have HR:=Lib.hid hr;clear hr
   all_goals go_enter Tryz.func68,Tryz.ntmps68
   all_goals go_wp2_with fail
   all_goals go_quiet (first|(go_at_call 97;refine Calls.quiet_of_same (register_c _ _))|(go_at_call 98;refine Calls.quiet_of_same (count_c _ _)))
   all_goals go_wp2_with fail
   all_goals go_ret
   all_goals exact ⟨by rw [HR.out];simp [*] <;> omega,by exact fx⟩
 · subst hx;simp [rFields] at hr;have HR:=Lib.hid hr;clear hr
   all_goals go_enter Tryz.func68,Tryz.ntmps68
   all_goals go_wp2_with fail
   all_goals go_quiet (first|(go_at_call 97;refine Calls.quiet_of_same (register_c _ _))|(go_at_call 98;refine Calls.quiet_of_same (count_c _ _)))
   all_goals go_wp2_with fail
   all_goals go_ret
   all_goals exact ⟨by rw [HR.out];simp [*] <;> omega,by exact fx⟩
 · rcases hx with rfl|rfl|rfl|rfl|rfl|rfl|rfl|rfl|rfl|rfl|rfl|rfl
   all_goals simp [rFields] at hr
   all_goals have HR:=Lib.hid hr
   all_goals clear hr
   all_goals go_enter Tryz.func68,Tryz.ntmps68
   all_goals go_wp2_with fail
   all_goals go_quiet (first|(go_at_call 97;refine Calls.quiet_of_same (register_c _ _))|(go_at_call 98;refine Calls.quiet_of_same (count_c _ _)))
   all_goals go_wp2_with fail
   all_goals go_ret
   all_goals exact ⟨by rw [HR.out];simp [*] <;> omega,by exact fx⟩
 · rcases hx with rfl|rfl|rfl|rfl|rfl|rfl|rfl|rfl|rfl
   all_goals simp [rFields] at hr
   all_goals have HR:=Lib.hid hr
   all_goals clear hr
   all_goals go_enter Tryz.func68,Tryz.ntmps68
   all_goals go_wp2_with fail
   all_goals go_quiet (first|(go_at_call 97;refine Calls.quiet_of_same (register_c _ _))|(go_at_call 98;refine Calls.quiet_of_same (count_c _ _)))
   all_goals go_wp2_with fail
   all_goals go_ret
   all_goals exact ⟨by rw [HR.out];simp [*] <;> omega,by exact fx⟩
 · rcases hx with rfl|rfl|rfl|rfl
   all_goals simp [rFields] at hr
   all_goals have HR:=Lib.hid hr
   all_goals clear hr
   all_goals go_enter Tryz.func68,Tryz.ntmps68
   all_goals go_wp2_with fail
   all_goals go_quiet (fail)
   all_goals go_wp2_with fail
   all_goals go_ret
   all_goals exact ⟨by rw [HR.out];simp [*] <;> omega,by exact fx⟩
 · subst hx;simp [rFields] at hr;have HR:=Lib.hid hr;clear hr
   all_goals go_enter Tryz.func68,Tryz.ntmps68
   all_goals go_wp2_with fail
   all_goals go_quiet (first|(go_at_call 97;refine Calls.quiet_of_same (register_c _ _))|(go_at_call 98;refine Calls.quiet_of_same (count_c _ _)))
   all_goals go_wp2_with fail
   all_goals go_ret
   all_goals exact ⟨by rw [HR.out];simp [*] <;> omega,by exact fx⟩
 · subst hx;simp [rFields] at hr;have HR:=Lib.hid hr;clear hr;by_cases hb0:0≤b
   · have d0:decide (0≤b)=true:=decide_eq_true hb0;by_cases hb1:b<(nc:Int)
     · have d1:decide (b<(nc:Int))=true:=decide_eq_true hb1;have HB:=Lib.hid (show withinS b nc=true by unfold withinS;rw [d0,d1];rfl);go_enter Tryz.func68,Tryz.ntmps68
       go_wp2_with fail
       go_quiet (first|(go_at_call 97;refine Calls.quiet_of_same (register_c _ _))|(go_at_call 98;refine Calls.quiet_of_same (count_c _ _)))
       all_goals go_wp2_with fail
       all_goals go_ret
       all_goals exact ⟨by rw [HR.out,HB.out];simp [*],by exact fx⟩
     · have d1:decide (b<(nc:Int))=false:=decide_eq_false hb1;have HB:=Lib.hid (show withinS b nc=false by unfold withinS;rw [d0,d1];rfl);go_enter Tryz.func68,Tryz.ntmps68
       go_wp2_with fail
       go_quiet (first|(go_at_call 97;refine Calls.quiet_of_same (register_c _ _))|(go_at_call 98;refine Calls.quiet_of_same (count_c _ _)))
       all_goals go_wp2_with fail
       all_goals go_ret
       all_goals exact ⟨by rw [HR.out,HB.out];simp [*],by exact fx⟩
   · have d0:decide (0≤b)=false:=decide_eq_false hb0;have HB:=Lib.hid (show withinS b nc=false by unfold withinS;rw [d0];rfl);go_enter Tryz.func68,Tryz.ntmps68
     go_wp2_with fail
     go_quiet (first|(go_at_call 97;refine Calls.quiet_of_same (register_c _ _))|(go_at_call 98;refine Calls.quiet_of_same (count_c _ _)))
     all_goals go_wp2_with fail
     all_goals go_ret
     all_goals exact ⟨by rw [HR.out,HB.out];simp [*],by exact fx⟩
 · subst hx;simp [rFields] at hr;have HR:=Lib.hid hr;clear hr;by_cases hb0:0≤b
   · have d0:decide (0≤b)=true:=decide_eq_true hb0;by_cases hb1:b<(nf:Int)
     · have d1:decide (b<(nf:Int))=true:=decide_eq_true hb1;have HB:=Lib.hid (show withinS b nf=true by unfold withinS;rw [d0,d1];rfl);go_enter Tryz.func68,Tryz.ntmps68
       go_wp2_with fail
       go_quiet (first|(go_at_call 97;refine Calls.quiet_of_same (register_c _ _))|(go_at_call 98;refine Calls.quiet_of_same (count_c _ _)))
       all_goals go_wp2_with fail
       all_goals go_ret
       all_goals exact ⟨by rw [HR.out,HB.out];simp [*],by exact fx⟩
     · have d1:decide (b<(nf:Int))=false:=decide_eq_false hb1;have HB:=Lib.hid (show withinS b nf=false by unfold withinS;rw [d0,d1];rfl);go_enter Tryz.func68,Tryz.ntmps68
       go_wp2_with fail
       go_quiet (first|(go_at_call 97;refine Calls.quiet_of_same (register_c _ _))|(go_at_call 98;refine Calls.quiet_of_same (count_c _ _)))
       all_goals go_wp2_with fail
       all_goals go_ret
       all_goals exact ⟨by rw [HR.out,HB.out];simp [*],by exact fx⟩
   · have d0:decide (0≤b)=false:=decide_eq_false hb0;have HB:=Lib.hid (show withinS b nf=false by unfold withinS;rw [d0];rfl);go_enter Tryz.func68,Tryz.ntmps68
     go_wp2_with fail
     go_quiet (first|(go_at_call 97;refine Calls.quiet_of_same (register_c _ _))|(go_at_call 98;refine Calls.quiet_of_same (count_c _ _)))
     all_goals go_wp2_with fail
     all_goals go_ret
     all_goals exact ⟨by rw [HR.out,HB.out];simp [*],by exact fx⟩
end Go.Proofs.YtlbomnbpahmphaaGreat
