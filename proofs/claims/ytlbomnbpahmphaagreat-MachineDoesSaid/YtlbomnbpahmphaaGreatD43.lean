/- The plain law: what the checker takes does as the document says. Condition: the numbers are of 64 bits. -/
import Derived.Test.YtlbomnbpahmphaaGreatD18
import Derived.Test.YtlbomnbpahmphaaGreatD27
import Derived.Test.YtlbomnbpahmphaaGreatD42
import Derived.Test.YtlbomnbpahmphaaGreatD31
import Derived.Test.YtlbomnbpahmphaaGreatD29
import Derived.Test.YtlbomnbpahmphaaGreatD28
import Derived.Test.YtlbomnbpahmphaaGreatD20
set_option maxRecDepth 100000
set_option maxHeartbeats 1000000
namespace Go.Proofs.YtlbomnbpahmphaaGreat
theorem valid_parts {P:Pr} (h:validS P=true):(∀ x∈P.cos,coroutineS (kindsS P) x=true)∧∀ (k:Nat) (f:List In),P.funs[k]?=some f→∀ x∈f,oneS (kindsS P) P.cos.length f.length ((kindsS P).getD k 0) x=true:=by
 unfold validS at h;split at h
 · cases h
 · rw [Bool.and_eq_true,List.all_eq_true,rights_all] at h;refine ⟨h.1,fun k f hf x hx=>?_⟩;have h1:=h.2 k f hf;rw [Nat.zero_add] at h1;unfold rightS at h1;split at h1
   · cases h1
   · split at h1
     · rename_i h3;exact List.all_eq_true.1 h3 x hx
     · cases h1
theorem one_parts {kinds:List Int} {nc n:Nat} {kind:Int} {x:In} (h:oneS kinds nc n kind x=true):fieldS kinds nc (shapeS x.op).b x.b=true∧fieldS kinds nc (shapeS x.op).c x.c=true∧allowedS kind x.op=true:=by
 unfold oneS at h;split at h
 · cases h
 · rename_i h1;simp only [Bool.or_eq_true,Bool.not_eq_true',not_or,Bool.not_eq_false] at h1;exact ⟨h1.1.1.2,h1.1.2,h1.2⟩
theorem valid_does {P:Pr} (h:validS P=true) (hL:∀ f∈P.funs,∀ x∈f,x.l.length≤17592186043904) (hfit:∀ f∈P.funs,∀ x∈f,I64 x.b):PrDoes P (kindsS P):=by
 obtain ⟨hc,hf⟩:=valid_parts h
 have hfx:∀ f∈P.funs,∃ k:Nat,∀ x∈f,oneS (kindsS P) P.cos.length f.length ((kindsS P).getD k 0) x=true:=fun f hm=>by
  obtain ⟨k,hk,e⟩:=List.getElem_of_mem hm;exact ⟨k,hf k f (by rw [List.getElem?_eq_getElem hk,e])⟩
 refine ⟨valid_good h hL,fun k f hk hn x hx hop=>?_,fun k f hk hn x hx hop=>?_,fun x hx=>?_,fun f hm x hx hop=>?_,hfit,fun f hm x hx hop=>?_⟩
 · have ha:=(one_parts (hf k f hk x hx)).2.2;simp only [List.mem_cons,List.not_mem_nil,or_false] at hop;unfold allowedS at ha;rw [if_neg (by omega),if_pos (by omega)] at ha;exact hn (beq_iff_eq.1 ha)
 · have ha:=(one_parts (hf k f hk x hx)).2.2;unfold allowedS at ha;rw [if_pos hop,hn] at ha;cases ha
 · have:=hc x hx;unfold coroutineS at this;split at this
   · cases this
   · rename_i h1;simp only [Bool.or_eq_true,Bool.not_eq_true',not_or,Bool.not_eq_false,bne_iff_ne,ne_eq,Classical.not_not] at h1;exact h1.2
 · obtain ⟨k,ho⟩:=hfx f hm;have hb:=(one_parts (ho x hx)).1;rw [hop] at hb;have hb:(withinS x.b (kindsS P).length && (kindsS P).getD x.b.toNat 0 == 0)=true:=hb;rw [Bool.and_eq_true] at hb;exact beq_iff_eq.1 hb.2
 · obtain ⟨k,ho⟩:=hfx f hm;have hb:=(one_parts (ho x hx)).2.1
   have hs:(shapeS x.op).c=4:=by
    simp only [List.mem_cons,List.not_mem_nil,or_false] at hop;rcases hop with e|e|e|e <;> rw [e] <;> decide
   rw [hs] at hb;have:=withinS_iff.1 (show withinS x.c 1048577=true from hb);omega
end Go.Proofs.YtlbomnbpahmphaaGreat
namespace Go.Proofs.YtlbomnbpahmphaaGreat
open Go.RowKit
def Alike (S S2:St):Prop:=S2.mem=S.mem∧S2.ev=S.ev∧S2.told=S.told
def St.fits (S:St):Prop:=S.mem.fits∧∀ y∈S.ev,I64 y.2
theorem Alike.begin {S S2:St} (h:Alike S S2) (t f:Int):S2.begin t f=S.begin t f:=by
 obtain ⟨h1,h2,h3⟩:=h;unfold St.begin;rw [h1,h2,h3]
theorem alike_on {S S2:St} (h:S.on []=S2.on []):Alike S S2:=by
 have h1:(S.on []).mem=(S2.on []).mem:=by rw [h]
 have h2:(S.on []).ev=(S2.on []).ev:=by rw [h]
 have h3:(S.on []).told=(S2.on []).told:=by rw [h]
 exact ⟨h1.symm,h2.symm,h3.symm⟩
theorem Alike.start {S S2:St} (h:Alike S S2) (P:Pr) (co:Int) (l:List Int):(startS P S2 co l).2=(startS P S co l).2∧Alike (startS P S co l).1 (startS P S2 co l).1:=by
 obtain ⟨h1,h2,h3⟩:=h;unfold startS;rw [h1];split
 · exact ⟨rfl,h1,h2,h3⟩
 · split
   · exact ⟨rfl,rfl,h2,h3⟩
   · exact ⟨rfl,rfl,h2,h3⟩
theorem Alike.complete {S S2:St} (h:Alike S S2) (k n:Int):Alike (completeS S k n) (completeS S2 k n):=by
 obtain ⟨h1,h2,h3⟩:=h;unfold completeS;rw [h2];split
 · exact ⟨h1,h2,h3⟩
 · exact ⟨h1,rfl,h3⟩
theorem start_fits {P:Pr} {S:St} (h:S.fits) {co:Int} (hc:I64 co) {l:List Int} (hl:∀ n∈l,I64 n):(startS P S co l).1.fits∧(startS P S co l).2.1.ok:=by
 have hf:=frame_fits (P:=P) h.1 hc;unfold startS;split
 · exact ⟨h,zero_ok⟩
 · split
   · exact ⟨⟨hf.1,h.2⟩,zero_ok⟩
   · exact ⟨⟨args_fits _ l 0 _ hf.1 hl,h.2⟩,hf.2⟩
theorem start_ev (P:Pr) (S:St) (co:Int) (l:List Int):(startS P S co l).1.ev=S.ev∧(startS P S co l).1.told=S.told:=by
 unfold startS;split
 · exact ⟨rfl,rfl⟩
 · split <;> exact ⟨rfl,rfl⟩
theorem complete_fits {S:St} (h:S.fits) (k:Int) {n:Int} (hn:I64 n):(completeS S k n).fits:=by
 unfold completeS;split
 · exact h
 · refine ⟨h.1,fun y hy=>?_⟩;rcases List.mem_append.1 hy with hy|hy
   · exact h.2 y hy
   · rw [List.mem_singleton.1 hy];exact hn
theorem complete_ev (S:St) (k n:Int):(completeS S k n).ev.length≤S.ev.length+1∧(completeS S k n).told=S.told:=by
 unfold completeS;split
 · exact ⟨Nat.le_succ _,rfl⟩
 · exact ⟨by simp,rfl⟩
theorem valid_cos {P:Pr} (h:validS P=true):∀ x∈P.cos,x.args≤2097152∧0≤x.words:=fun x hx=>by
 have:=(valid_parts h).1 x hx;unfold coroutineS at this;split at this
 · cases this
 · simp only [Bool.and_eq_true,decide_eq_true_eq] at this;obtain ⟨⟨h1,h2⟩,h3⟩:=this;have:=(withinS_iff.1 h3).2;omega
section
variable {base:Nat} {P:Pr} {kinds:List Int} {A:Nat→Prop} {w:World} {r T T':Nat} {S S2:St}
theorem npoll_m (hP:PrDoes P kinds) (h:NInv base P A T w r S2) (ha:Alike S S2) (hf:S.fits) (p:Wd) (hp:p.ok) (task fuel:Int) (hT:T+2 * fuel.toNat≤T') (hmax:T'≤400000) :
 Calls Tryz.prog 16 #[.pointer (some ⟨r,0,none⟩),.agg #[.bool p.p,.int .i64 p.a,.int .i64 p.n],.int .i64 task,.int .i64 fuel] w fun e w' =>
  ∃ S2',(e=.returned (.tuple #[.int .i64 (pollS P S p task fuel).1.1,.int .i64 (pollS P S p task fuel).1.2,.int .i64 (pollS P S p task fuel).2.fuel])∧Alike (pollS P S p task fuel).2 S2'∧(pollS P S p task fuel).2.fits∧(pollS P S p task fuel).2.ev=S.ev)∧NAft base P A T' w w' r S2':=by
 obtain ⟨h1,h2,h3⟩:=ha;refine (npoll_c hP (run_c hP) h (by rw [h1];exact hf.1) (by rw [h2];exact hf.2) p hp task fuel hT hmax).mono ?_;rintro e w' ⟨q,S',rfl,hg,hA⟩;rw [Alike.begin ⟨h1,h2,h3⟩] at hg;obtain ⟨e1,e2⟩:=poll_is hP hg;have hal:=alike_on e2;have hfu:(pollS P S p task fuel).2.fuel=S'.fuel:=show ((pollS P S p task fuel).2.on []).fuel=(S'.on []).fuel by rw [e2]
 have hev:(pollS P S p task fuel).2.ev=S.ev:=hal.2.1.symm.trans hg.lv.ev;refine ⟨S',⟨by rw [e1,hfu],hal,⟨by rw [← hal.1];exact hg.lv.mem,by rw [hev];exact hf.2⟩,hev⟩,hA⟩
theorem ncancel_m (hP:PrDoes P kinds) (h:NInv base P A T w r S2) (ha:Alike S S2) (hf:S.fits) (p:Wd) (hp:p.ok) (task fuel:Int) (hT:T+2 * fuel.toNat≤T') (hmax:T'≤400000) :
 Calls Tryz.prog 18 #[.pointer (some ⟨r,0,none⟩),.agg #[.bool p.p,.int .i64 p.a,.int .i64 p.n],.int .i64 task,.int .i64 fuel] w fun e w' =>
  ∃ S2',(e=.returned (.tuple #[.int .i64 (cancelS P S p task fuel).1.1,.int .i64 (cancelS P S p task fuel).1.2,.int .i64 (cancelS P S p task fuel).2.fuel])∧Alike (cancelS P S p task fuel).2 S2'∧(cancelS P S p task fuel).2.fits∧(cancelS P S p task fuel).2.ev=S.ev)∧NAft base P A T' w w' r S2':=by
 obtain ⟨h1,h2,h3⟩:=ha;refine (ncancel_c hP (run_c hP) h (by rw [h1];exact hf.1) (by rw [h2];exact hf.2) p hp task fuel hT hmax).mono ?_;rintro e w' ⟨q,S',rfl,hg,hA⟩;rw [Alike.begin ⟨h1,h2,h3⟩] at hg;obtain ⟨e1,e2⟩:=cancel_is hP hg;have hal:=alike_on e2;have hfu:(cancelS P S p task fuel).2.fuel=S'.fuel:=show ((cancelS P S p task fuel).2.on []).fuel=(S'.on []).fuel by rw [e2]
 have hev:(cancelS P S p task fuel).2.ev=S.ev:=hal.2.1.symm.trans hg.lv.ev;refine ⟨S',⟨by rw [e1,hfu],hal,⟨by rw [← hal.1];exact hg.lv.mem,by rw [hev];exact hf.2⟩,hev⟩,hA⟩
theorem nstart_m (h:NInv base P A T w r S2) (ha:Alike S S2) (hT:T+2≤400000) (hcs:∀ x∈P.cos,x.args≤2097152∧0≤x.words) (co:Int) (l:List Int) (ao:Option Addr) (cap:Nat) (hc:IntsAt base w ao l) :
 Calls Tryz.prog 13 #[.pointer (some ⟨r,0,none⟩),.int .i64 co,.slice ao l.length cap] w fun e w' =>
  ∃ S2',(e=.returned (.tuple #[.agg #[.bool (startS P S co l).2.1.p,.int .i64 (startS P S co l).2.1.a,.int .i64 (startS P S co l).2.1.n],.int .i64 (startS P S co l).2.2.1,.int .i64 (startS P S co l).2.2.2])∧Alike (startS P S co l).1 S2')∧NAft base P A (T+2) w w' r S2':=by
 refine (nstart_c h hT hcs co l ao cap hc).mono ?_;rintro e w' ⟨rfl,hA⟩;obtain ⟨e1,e2⟩:=ha.start P co l;exact ⟨_,⟨by rw [e1],e2⟩,hA⟩
theorem ncomplete_m (h:NInv base P A T w r S2) (ha:Alike S S2) (hl:S.ev.length<1000000) (k n:Int):Calls Tryz.prog 20 #[.pointer (some ⟨r,0,none⟩),.int .i64 k,.int .i64 n] w fun e w' =>
 ∃ S2',(e=.returned (.tuple #[])∧Alike (completeS S k n) S2')∧NAft base P A T w w' r S2':=by
 obtain ⟨Y,hY⟩:=h;refine (ncomplete_c hY (by rw [ha.2.1];exact hl) k n).mono ?_;rintro e w' ⟨rfl,hA⟩;exact ⟨_,⟨rfl,ha.complete k n⟩,hA⟩
end
theorem lsame_c (w:World) (k n:Int):Calls Tryz.prog 14 #[.agg #[.int .i64 k,.int .i64 n],.int .i64 k,.int .i64 n] w fun e w'=>e=.returned (.bool true)∧Fr Non w w':=by
 have hk:(k == k)=true:=beq_self_eq_true k;have hn:(n == n)=true:=beq_self_eq_true n;go_enter Tryz.func14,Tryz.ntmps14
 go_wp2_with fail
 go_ret
 exact ⟨rfl,by exact fx⟩
section
variable {base:Nat} {P:Pr} {w:World} {v:Value}
theorem nnew_c (h:PrAt base P w v) (hb:base≤w.heap.size) (words:Int) :
 Calls Tryz.prog 10 #[v,.int .i64 words] w fun e w'=>∃ m A,e=.returned (.pointer (some ⟨m,0,none⟩))∧Fr Non w w'∧NInv base P A 0 w' m (St.new words)∧∀ x,A x→w.heap.size≤x:=by
 obtain ⟨fo,fc,co,cc,rfl,hfu,hco⟩:=h.val;have HH:=Lib.hid (And.intro hfu hco);clear h hfu hco;go_enter Tryz.func10,Tryz.ntmps10
 go_wp2_with fail
 obtain ⟨W,hW⟩:∃ W,W=w.alloc (.cells #[.slice fo P.funs.length fc,.slice co P.cos.length cc] 25):=⟨_,rfl⟩;rw [← hW];have hfW:Fr Non w W:=by rw [hW];exact fx
 have hrW:Row W w.heap.size 25 [.slice fo P.funs.length fc,.slice co P.cos.length cc]:=by rw [hW];exact Row.new' rfl
 clear hW;have HW:=Lib.hid (And.intro hfW hrW);have hsW:=hfW.size;have hlW:=hrW.lt;obtain ⟨p0,p1,pz⟩:=row2 hrW;clear hfW hrW;have cW:=@Mix.cls_drew W [w.heap.size];refine Mix.wp_region_mix [0] [(1,0),(0,1),(2,2),(0,3),(2,4),(0,5)] (fun V=>∃ g,V=Mix.upon W [w.heap.size] g) (by kernel_rfl) (by kernel_rfl) cW ?_;clear cW;repeat (first|((first|refine Mix.qa ?_|refine Mix.qb ?_);intro K hK;simp only [nA,nB,nC];go_big_quiet_op;go_big_quiet_on)|refine Mix.qc ?_|refine Mix.qd ?_)
 refine Mix.S_eff rfl rfl ?_;intro K hK;simp only [nA,nB,nC];go_simp;refine (qnew_c _ words).mono ?_;rintro e1 w1 ⟨rfl,hJ,hf⟩;refine hK _ _ ⟨Mix.cls_fr (D:=Non) hf (by simp [Non];omega),?_⟩;clear hK K;have hf1:Fr Non W w1:=Fr.trans (by exact (Fr.refl _ _).drew) hf;have hs1:=hf1.size;have hlt:=hJ.1 _ rfl;simp only [World.size_drew] at hlt hJ;have HJ:=Lib.hid (And.intro hJ hf1);clear hf hf1 hJ;repeat (first|((first|refine Mix.qa ?_|refine Mix.qb ?_);intro K hK;simp only [nA,nB,nC];go_big_quiet_op;go_big_quiet_on)|refine Mix.qc ?_|refine Mix.qd ?_)
 refine Mix.S_eff rfl rfl ?_;intro K hK;simp only [nA,nB,nC];go_simp;refine hK _ _ ⟨Mix.cls_fr (D:=Non) (by exact fx) (by simp [Non];omega),?_⟩;clear hK K;repeat (first|((first|refine Mix.qa ?_|refine Mix.qb ?_);intro K hK;simp only [nA,nB,nC];go_big_quiet_op;go_big_quiet_on)|refine Mix.qc ?_|refine Mix.qd ?_)
 refine Mix.S_done ?_;go_wp2
 go_ret
 have hfa:Fr Non w1 (w1.alloc (.cells #[.slice fo P.funs.length fc,.slice co P.cos.length cc,.pointer (some ⟨W.heap.size,0,none⟩),.slice none 0 0,.slice none 0 0,.int .i64 0,.int .i64 0] 61)):=(Fr.refl _ _).alloc _;have hfw:=(HW.out.1.trans HJ.out.2).trans hfa;have hsz:(w1.alloc (.cells #[.slice fo P.funs.length fc,.slice co P.cos.length cc,.pointer (some ⟨W.heap.size,0,none⟩),.slice none 0 0,.slice none 0 0,.int .i64 0,.int .i64 0] 61)).heap.size=w1.heap.size+1:=by simp
 refine ⟨w1.heap.size,fun x=>x=w1.heap.size∨x=W.heap.size,rfl,hfw,⟨⟨fo,co,fc,cc,W.heap.size,.slice none 0 0,.slice none 0 0,fun x=>x=W.heap.size,0⟩,?_⟩,?_⟩
 · refine { high:=?_,lt:=?_,row:=Row.new' rfl,funs:=HH.out.1.fr hfw (high_non _),cos:=HH.out.2.fr hfw (high_non _),mem:=HJ.out.1.non hfa,evo:=Own.nil _ _ _,told:=Own.nil _ _ _,am:=Or.inl rfl,ae:=fun x hx=>(by cases hx),at_:=fun x hx=>(by cases hx),aq:=fun x hx=>Or.inr hx,sep:=?_,cells:=Nat.le_refl 0,few:=Nat.le_refl 0,evn:=Nat.zero_le _,max:=Nat.zero_le _ }
   · rintro x (rfl|rfl) <;> omega
   · rintro x (rfl|rfl) <;> omega
   · intro x hx;exact ⟨by omega,fun e=>(by cases e),fun e=>(by cases e)⟩
 · rintro x (rfl|rfl) <;> omega
end
end Go.Proofs.YtlbomnbpahmphaaGreat
