/- Arguments of numbers, bools, and slices and structs of these: they read the same where no cell of theirs has changed. Condition: a slice's element has a cell. -/
import Derived.ChangeArms
import Derived.OpenShut
import Derived.Deep.Slices
import Derived.ProofKit
import Derived.SizedLaws
import Derived.Test.YtlbomnbpahmphaaGreatD08
import Derived.Test.YtlbomnbpahmphaaGreatD20
import Derived.Test.YtlbomnbpahmphaaGreatD25
set_option maxRecDepth 100000
namespace Go.Proofs.YtlbomnbpahmphaaGreat
open Go.ChangeShapes Go.WideShapes Go.RowKit
def plainT (P:Program):Nat→TypeId→Bool
 | 0,_=>false
 | k+1,t=>match P.underlying t with
  | some .bool=>true
  | some (.int _)=>true
  | some .string=>true
  | some (.slice e)=>decide (0<P.cellsOf e) && plainT P k e
  | some (.struct fs)=>fs.toList.all fun f=>plainT P k f.type
  | _=>false
theorem mapM_again {α β:Type} {f g:α→Option β}:∀ {l:List α} {r:List β},l.mapM f=some r→(∀ a∈l,∀ y∈r,f a=some y→g a=some y)→l.mapM g=some r
 | [],r,h,_=>by simpa using h
 | a :: l,r,h,k=>by
  simp only [List.mapM_cons,Option.bind_eq_bind,Option.bind_eq_some_iff,Option.pure_def,Option.some.injEq] at h ⊢;obtain ⟨y,h1,ys,h2,rfl⟩:=h;exact ⟨y,k a (by simp) y (by simp) h1,ys,mapM_again h2 fun b hb z hz=>k b (by simp [hb]) z (by simp [hz]),rfl⟩
section
variable {H:Type} {enc:TypeId × Value→H} {P:Program} {w w':World} {base:Nat} {held:Bool} {sp:Nat→Bool}
theorem trod_again (hc:∀ a n cs,w.cells? base a n=some cs→w'.cells? base a n=some cs):∀ (k:Nat) (t:TypeId),plainT P k t=true→∀ (fuel:Nat) (cs:List Value) (x:DataW H × List MemPlace),
 DataW.trod enc P w base (fun _=>true) held fuel t cs=some x→(∀ p∈x.2,sp p.block=true)→DataW.trod enc P w' base sp held fuel t cs=some x
 | 0,_,hp,_,_,_,_,_=>by simp [plainT] at hp
 | k+1,t,hp,0,_,_,h,_=>by simp [DataW.trod] at h
 | k+1,t,hp,fuel+1,cs,x,h,hs=>by
  unfold plainT at hp;split at hp
  · rename_i ht;unfold DataW.trod at h ⊢;rw [ht] at h ⊢;split at h <;> simp_all
  · rename_i kk ht;unfold DataW.trod at h ⊢;rw [ht] at h ⊢;split at h <;> simp_all
  · rename_i ht;unfold DataW.trod at h ⊢;rw [ht] at h ⊢;split at h <;> simp_all
  · rename_i e ht;simp only [Bool.and_eq_true,decide_eq_true_eq] at hp;rcases DataW.trod_slice ht h with ⟨rfl,rfl⟩|⟨a,len,cap,_,_,_,_,rfl,_,hb,hl,hm,_⟩
    · unfold DataW.trod;rw [ht]
      rfl
    · unfold DataW.trod at h ⊢;rw [ht] at h ⊢;simp only [if_true] at h ⊢;rw [if_pos ⟨hb,hl,hm⟩] at h ⊢;simp only [Option.bind_eq_some_iff,Option.map_eq_some_iff] at h ⊢;obtain ⟨es,h1,rs,h2,rfl⟩:=h
      have el:∀ (i:Nat) (y:DataW H × List MemPlace),y∈es ++ rs→((w.cells? base (a.add (i * P.cellsOf e)) (P.cellsOf e)).bind (DataW.trod enc P w base (fun _=>true) held fuel e))=some y→((w'.cells? base (a.add (i * P.cellsOf e)) (P.cellsOf e)).bind (DataW.trod enc P w' base sp held fuel e))=some y:=by
       intro i y hy hf;obtain ⟨cs',c1,c2⟩:=Option.bind_eq_some_iff.1 hf;refine Option.bind_eq_some_iff.2 ⟨cs',hc _ _ _ c1,trod_again hc k e hp.2 fuel cs' y c2 fun p hpy=>hs p ?_⟩;exact List.mem_append_right _ (List.mem_flatMap.2 ⟨y,hy,hpy⟩)
      refine ⟨es,mapM_again h1 fun i _ y hy hf=>el i y (List.mem_append_left _ hy) hf,rs,?_,rfl⟩;have l2:=mapM_some_length h2;have h2':=mapM_again h2 fun j _ y hy hf=>el (len+j) y (List.mem_append_right _ hy) hf;by_cases hcl:cap - len=0
      · rw [hcl] at h2' ⊢;rw [h2'];simp only [List.range_zero,List.mapM_nil,Option.pure_def,Option.some.injEq] at h2';subst h2';split <;> rfl
      · have hb1:sp a.block=true:=hs (.cell a.block (a.off+0)) (List.mem_append_left _ (by
         have:0<(es.length+rs.length) * P.cellsOf e:=Nat.mul_pos (by rw [l2];simp;omega) hp.1;simp only [MemPlace.row,List.mem_map,List.mem_range]
         exact ⟨0,this,rfl⟩))
        rw [if_pos hb1];exact h2'
  · rename_i fs ht;unfold DataW.trod at h ⊢;rw [ht] at h ⊢;simp only at h ⊢;split at h
    · rename_i hlen;rw [if_pos hlen];simp only [Option.map_eq_some_iff] at h ⊢;obtain ⟨xs,h1,rfl⟩:=h;refine ⟨xs,mapM_again h1 fun f hf y hy hfy=>?_,rfl⟩;exact trod_again hc k f.type (List.all_eq_true.1 hp f hf) fuel _ y hfy fun p hpy=>hs p (List.mem_flatMap.2 ⟨y,hy,hpy⟩)
    · cases h
  · cases hp
theorem trodAll_again (hc:∀ a n cs,w.cells? base a n=some cs→w'.cells? base a n=some cs) (k:Nat):∀ {ts:List TypeId} {vs:List Value} {ds:List (DataW H)} {ps:List MemPlace},ts.all (plainT P k)=true →
 DataW.TrodAll enc P w base (fun _=>true) held ts vs ds ps→(∀ p∈ps,sp p.block=true)→DataW.TrodAll enc P w' base sp held ts vs ds ps
 | [],_,_,_,_,h,_=>by
  obtain ⟨rfl,rfl,rfl⟩:=trodAll_nil h;exact trodAll_mk0
 | t :: ts,_,_,_,hp,h,hs=>by
  obtain ⟨v,vs1,d,ds1,a,b,rfl,rfl,rfl,⟨n,h1⟩,h2⟩:=trodAll_cons h;simp only [List.all_cons,Bool.and_eq_true] at hp;exact ⟨a,b,⟨n,trod_again hc k t hp.1 n _ _ h1 fun p hq=>hs p (List.mem_append_left _ hq)⟩,trodAll_again hc k hp.2 h2 (fun p hq=>hs p (List.mem_append_right _ hq)),rfl⟩
end
theorem Fr.cells {w w':World} (f:Fr Non w w') (base:Nat) (a:Addr) (n:Nat) (cs:List Value) (h:w.cells? base a n=some cs):w'.cells? base a n=some cs:=by
 unfold World.cells? at h ⊢;split at h
 · rename_i hb;rw [if_pos hb];refine mapM_again h fun i _ y _ hy=>?_;have hlt:=World.block_lt_of_cell? w _ hy;rw [← hy];simp only [World.cell?,f.keep _ hlt id]
 · cases h
theorem law_post {H:Type} {enc:TypeId × Value→H} {P:Program} {f:Func} {s:ChangeSpec} {W W':World} {args:Array Value} {ds gs:List (DataW H)} {before:List MemPlace} {tb:TypeId} (hf:Fr Non W W')
 (hW:DataW.Whole enc P f.params.toList s.vars false W args.toList ds gs before) (k:Nat) (hts:f.params.toList.all (plainT P k)=true) (hv:s.vars=[]) (hr:f.resultTypes=#[tb]) (htb:P.underlying tb=some .bool)
 (hsr:(s.fn H (ds ++ gs)).results=[.lit (.bool true)]) (hsa:(s.fn H (ds ++ gs)).args=ds) (hsv:(s.fn H (ds ++ gs)).vars=[]):s.post enc P f false true false false W args (.bool true) W':=by
 have hWW:=hW;obtain ⟨p,q,hA,hV,rfl,_,_⟩:=hW;rw [hv] at hV;obtain ⟨rfl,rfl⟩:=trodVars_none hV;refine ⟨ds,[],p ++ [],[],p,[],hWW,?_,?_,?_,⟨hf.os,hf.output,fun i hi=>?_⟩,fun h=>by cases h⟩
 · rw [hsr,hr];exact trodAll_cons_mk (shut_bool htb _) trodAll_mk0
 · rw [hsa];exact trodAll_again (hf.cells 0) k hts hA fun x hx=>by simpa using hWW.lt x (by simpa using hx)
 · rw [hsv,hv];exact rfl
 · rw [hf.keep i hi id];cases hh:W.heap[i]? with
   | none=>rfl
   | some o=>cases o <;> simp
end Go.Proofs.YtlbomnbpahmphaaGreat
namespace Go.Proofs.YtlbomnbpahmphaaGreat
open Go.ChangeShapes Go.WideShapes Go.ChangeAt Go.RowKit
structure Ax where
 k:Int
 a:Int
 n:Int
 args:List Int
theorem crs_len (l:List Cr):(crs l).length=l.length * 5:=by
 induction l with
 | nil=>rfl
 | cons x l ih=>rw [crs_cons];simp only [List.length_cons,ih];omega
instance:Inhabited In:=⟨In.zero⟩
instance:Inhabited Cr:=⟨Cr.zero⟩
instance:Inhabited Ax:=⟨⟨0,0,0,[]⟩⟩
def AxAt (base:Nat) (w:World) (ao:Option Addr) (l:List Ax):Prop:=∀ (i:Nat) (x:Ax),l[i]?=some x→∃ b o la lc,ao=some ⟨b,o,none⟩∧CB base w b (o+i * 4) (.int .i64 x.k)∧CB base w b (o+i * 4+1) (.int .i64 x.a) ∧
 CB base w b (o+i * 4+2) (.int .i64 x.n)∧CB base w b (o+i * 4+3) (.slice la x.args.length lc)∧IntsAt base w la x.args
theorem i64_wf {n:Int} (h:(Lit.int .i64 n).wf=true):I64 n:=by
 unfold Lit.wf at h;rw [Bool.and_eq_true,decide_eq_true_eq,decide_eq_true_eq] at h;exact h
def Ax.fits (x:Ax):Prop:=I64 x.a∧I64 x.n∧∀ n∈x.args,I64 n
section
variable {H:Type} {enc:TypeId × Value→H} {w:World} {held:Bool}
def Light (t:TypeId) (d:DataW H):Prop:=∀ n∈d.weights Tryz.prog t,n≤reachBytes
theorem weights_all {e:TypeId} {d:DataW H}:∀ {l:List (DataW H)},d∈l→∀ n∈d.weights Tryz.prog e,n∈DataW.weightsAll Tryz.prog e l
 | x :: l,hm,n,hn=>by
  simp only [DataW.weightsAll,List.mem_append];rcases List.mem_cons.1 hm with rfl|hm
  · exact Or.inl hn
  · exact Or.inr (weights_all hm n hn)
theorem Light.field {t:TypeId} {fs:Array Field} (ht:Tryz.prog.underlying t=some (.struct fs)) {ds:List (DataW H)} (h:Light t (.agg ds)) {i:Nat} {f:Field} (hf:fs[i]?=some f) {d:DataW H} (hd:ds[i]?=some d):Light f.type d:=fun n hn=>by
 refine h n ?_;simp only [DataW.weights,ht];exact DataW.weights_mem_each (j:=i) (t:=f.type) (by simp [hf]) hd n hn
theorem open_row {α:Type} [Inhabited α] {t e:TypeId} (ht:Tryz.prog.underlying t=some (.slice e)) {k:Nat} (hk:Tryz.prog.cellsOf e=k) (hk0:0<k) (R:List Value→α→Prop)
 (hR:∀ (fuel:Nat) (cs:List Value) (x:DataW H × List MemPlace),DataW.trod enc Tryz.prog w 0 (fun _=>true) held fuel e cs=some x→Light e x.1→∃ y,R cs y)
 {fuel:Nat} {cs:List Value} {x:DataW H × List MemPlace} (h:DataW.trod enc Tryz.prog w 0 (fun _=>true) held fuel t cs=some x) (hx1:Light t x.1) :
 ∃ ao l cap,cs=[.slice ao (List.length l) cap]∧l.length * Tryz.prog.bytesOf e≤reachBytes∧∀ (i:Nat) (y:α),l[i]?=some y→∃ b o cs',ao=some ⟨b,o,none⟩∧R cs' y∧∀ (j:Nat) (u:Value),cs'[j]?=some u→b<w.heap.size∧w.cell? ⟨b,o+i * k+j,none⟩=some u:=by
 rcases Deep.open_slice ht h with ⟨ee,_⟩|⟨a,len',cap',m,n,D,Pl,ee,_,hl,hm,hmm,hxx,hx⟩
 · exact ⟨none,[],0,ee,by simp,fun i y hy=>by simp at hy⟩
 · simp only [if_true] at hmm;subst hmm;rw [hk] at hx;rw [hxx] at hx1
   have hw1:len' * Tryz.prog.bytesOf e≤reachBytes:=by
    have:=hx1 ((((List.range len').map D).length+((List.range (m - len')).map fun j=>D (len'+j)).length) * Tryz.prog.bytesOf e) (by simp only [DataW.weights,ht];exact List.mem_cons_self);refine Nat.le_trans (Nat.mul_le_mul_right _ ?_) this;simp
   have each:∀ i,i<len'→∃ y:α,∃ cs',w.cells? 0 (a.add (i * k)) k=some cs'∧R cs' y:=fun i hi=>by
    obtain ⟨cs',h1,h2⟩:=hx i (by omega)
    obtain ⟨y,hy⟩:=hR _ _ _ h2 (fun n hn=>hx1 n (by
     simp only [DataW.weights,ht]
     exact List.mem_cons_of_mem _ (List.mem_append_left _ (weights_all (d:=D i) (List.mem_map.2 ⟨i,List.mem_range.2 hi,rfl⟩) n hn))))
    exact ⟨y,cs',h1,hy⟩
   obtain ⟨Y,hY⟩:=Deep.choose_lt (α:=α) each;refine ⟨some a,(List.range len').map Y,m,by rw [ee];simp,by simpa using hw1,fun i y hy=>?_⟩;have hi:i<len':=by have:=(List.getElem?_eq_some_iff.1 hy).1;simpa using this
   have hyy:Y i=y:=by simpa [hi] using hy
   subst hyy;obtain ⟨cs',h1,h2⟩:=hY i hi;obtain ⟨_,hlk,hc⟩:=World.cells?_some h1
   have cell:∀ j u,cs'[j]?=some u→w.cell? (a.add (i * k+j))=some u:=fun j u hu=>by
    have hj:j<k:=by have:=(List.getElem?_eq_some_iff.1 hu).1;omega
    have:=hc j hj;rw [Deep.add_add,hu] at this;exact this
   obtain ⟨b,o,spot⟩:=a
   have hspot:spot=none:=by
    obtain ⟨cs0,g1,_⟩:=hY 0 (by omega);obtain ⟨_,gk,gc⟩:=World.cells?_some g1;have g0:=gc 0 hk0;rw [List.getElem?_eq_getElem (by omega)] at g0;have:=World.cell?_spot g0
    simpa [Addr.add] using this
   subst hspot;refine ⟨b,o,cs',rfl,h2,fun j u hu=>?_⟩;have:=cell j u hu;rw [add_plain] at this;have hb:=World.block_lt_of_cell? w _ this;exact ⟨hb,by rw [Nat.add_assoc];exact this⟩
theorem open_ints {t:TypeId} (ht:Tryz.prog.underlying t=some (.slice 3)) {fuel:Nat} {cs:List Value} {x:DataW H × List MemPlace} (h:DataW.trod enc Tryz.prog w 0 (fun _=>true) held fuel t cs=some x) (hx1:Light t x.1) :
 ∃ ao l cap,cs=[.slice ao (List.length l) cap]∧l.length≤17592186043904∧IntsAt w.heap.size w ao l∧∀ n∈l,I64 n:=by
 obtain ⟨ao,l,cap,e,hl,hh⟩:=open_row (α:=Int) ht (k:=1) (by kernel_rfl) (by decide) (fun cs n=>cs=[.int .i64 n]∧I64 n) (fun f c y hy _=>by
  obtain ⟨n,e,_,hw⟩:=DataW.trod_int Tryz.underlying3 hy
  exact ⟨n,e,i64_wf hw⟩) h hx1
 have hb8:Tryz.prog.bytesOf 3=8:=by kernel_rfl
 rw [hb8] at hl;refine ⟨ao,l,cap,e,by unfold reachBytes at hl;omega,fun i n hn=>?_,fun n hn=>?_⟩
 · obtain ⟨b,o,cs',e1,⟨e2,_⟩,hc⟩:=hh i n hn;subst e2;have:=hc 0 _ rfl;simp only [Nat.mul_one,Nat.add_zero] at this;exact ⟨b,o,e1,this⟩
 · obtain ⟨i,hi,rfl⟩:=List.getElem_of_mem hn;obtain ⟨_,_,_,_,⟨_,h⟩,_⟩:=hh i _ (List.getElem?_eq_getElem hi);exact h
theorem open_ins {fuel:Nat} {cs:List Value} {x:DataW H × List MemPlace} (h:DataW.trod enc Tryz.prog w 0 (fun _=>true) held fuel 128 cs=some x) (hx1:Light 128 x.1) :
 ∃ (y:In) (la:Option Addr) (lc:Nat),cs=[.int .i64 y.op,.int .i64 y.a,.int .i64 y.b,.int .i64 y.c,.slice la y.l.length lc]∧(y.l.length≤17592186043904∧I64 y.b)∧IntsAt w.heap.size w la y.l:=by
 obtain ⟨xs,n,_,hxx,hl,hxl,hf⟩:=DataW.trod_struct Tryz.underlying128 h;rw [hxx] at hx1;have hl':cs.length=5:=hl.trans (by kernel_rfl)
 match cs,hl' with
 | [c0,c1,c2,c3,c4],_ =>
 have k0:Tryz.prog.cellsOf 126=1:=by kernel_rfl
 have k1:Tryz.prog.cellsOf 3=1:=by kernel_rfl
 have k3:Tryz.prog.cellsOf 36=1:=by kernel_rfl
 have f0:=(hf 0 _ rfl).trans (List.getElem?_eq_getElem (by rw [hxl];decide));have f1:=(hf 1 _ rfl).trans (List.getElem?_eq_getElem (by rw [hxl];decide));have f2:=(hf 2 _ rfl).trans (List.getElem?_eq_getElem (by rw [hxl];decide));have f3:=(hf 3 _ rfl).trans (List.getElem?_eq_getElem (by rw [hxl];decide));have f4:=(hf 4 _ rfl).trans (List.getElem?_eq_getElem (by rw [hxl];decide));simp only [List.getElem_toArray,List.getElem_cons_zero,List.getElem_cons_succ,k0,k1,k3,List.drop_zero,List.drop_succ_cons,List.take_succ_cons,List.take_zero] at f0 f1 f2 f3 f4;obtain ⟨n0,e0,_⟩:=DataW.trod_int Tryz.underlying126 f0;obtain ⟨n1,e1,_⟩:=DataW.trod_int Tryz.underlying3 f1;obtain ⟨n2,e2,_,hw2⟩:=DataW.trod_int Tryz.underlying3 f2;obtain ⟨n3,e3,_⟩:=DataW.trod_int Tryz.underlying3 f3;obtain ⟨ao,l,cap,e4,hl4,hi,_⟩:=open_ints Tryz.underlying36 f4 (hx1.field Tryz.underlying128 (i:=4) rfl (by rw [List.getElem?_map,List.getElem?_eq_getElem (by rw [hxl];decide)];rfl));simp only [List.cons.injEq,and_true] at e0 e1 e2 e3 e4;subst e0 e1 e2 e3 e4;exact ⟨⟨n0,n1,n2,n3,l⟩,ao,cap,rfl,⟨hl4,i64_wf hw2⟩,hi⟩
theorem open_co {fuel:Nat} {cs:List Value} {x:DataW H × List MemPlace} (h:DataW.trod enc Tryz.prog w 0 (fun _=>true) held fuel 87 cs=some x):∃ y:Cr,cs=y.cs:=by
 obtain ⟨xs,n,_,_,hl,hxl,hf⟩:=DataW.trod_struct Tryz.underlying87 h;have hl':cs.length=5:=hl.trans (by kernel_rfl)
 match cs,hl' with
 | [c0,c1,c2,c3,c4],_ =>
 have k0:Tryz.prog.cellsOf 9=1:=by kernel_rfl
 have k1:Tryz.prog.cellsOf 3=1:=by kernel_rfl
 have f0:=(hf 0 _ rfl).trans (List.getElem?_eq_getElem (by rw [hxl];decide));have f1:=(hf 1 _ rfl).trans (List.getElem?_eq_getElem (by rw [hxl];decide));have f2:=(hf 2 _ rfl).trans (List.getElem?_eq_getElem (by rw [hxl];decide));have f3:=(hf 3 _ rfl).trans (List.getElem?_eq_getElem (by rw [hxl];decide));have f4:=(hf 4 _ rfl).trans (List.getElem?_eq_getElem (by rw [hxl];decide));simp only [List.getElem_toArray,List.getElem_cons_zero,List.getElem_cons_succ,k0,k1,List.drop_zero,List.drop_succ_cons,List.take_succ_cons,List.take_zero] at f0 f1 f2 f3 f4;obtain ⟨s,e0,_⟩:=DataW.trod_string Tryz.underlying9 f0;obtain ⟨n1,e1,_⟩:=DataW.trod_int Tryz.underlying3 f1;obtain ⟨n2,e2,_⟩:=DataW.trod_int Tryz.underlying3 f2;obtain ⟨n3,e3,_⟩:=DataW.trod_int Tryz.underlying3 f3;obtain ⟨n4,e4,_⟩:=DataW.trod_int Tryz.underlying3 f4;simp only [List.cons.injEq,and_true] at e0 e1 e2 e3 e4;subst e0 e1 e2 e3 e4;exact ⟨⟨s,n1,n2,n3,n4⟩,rfl⟩
theorem open_fun {fuel:Nat} {cs:List Value} {x:DataW H × List MemPlace} (h:DataW.trod enc Tryz.prog w 0 (fun _=>true) held fuel 78 cs=some x) (hx1:Light 78 x.1) :
 ∃ (f:List In) (io:Option Addr) (ic:Nat),cs=[.slice io f.length ic]∧InsAt w.heap.size w io f∧∀ x∈f,x.l.length≤17592186043904∧I64 x.b:=by
 obtain ⟨ao,l,cap,e,hl,hh⟩:=open_row (α:=In) Tryz.underlying78 (k:=5) (by kernel_rfl) (by decide)
  (fun cs y=>∃ (la:Option Addr) (lc:Nat),cs=[.int .i64 y.op,.int .i64 y.a,.int .i64 y.b,.int .i64 y.c,.slice la y.l.length lc]∧(y.l.length≤17592186043904∧I64 y.b)∧IntsAt w.heap.size w la y.l) (fun f c y hy hz=>open_ins hy hz) h hx1
 refine ⟨l,ao,cap,e,fun i x hx=>?_,fun x hx=>?_⟩
 · obtain ⟨b,o,cs',e1,⟨la,lc,rfl,_,h4⟩,hc⟩:=hh i x hx;exact ⟨b,o,la,lc,e1,hc 0 _ rfl,hc 1 _ rfl,hc 2 _ rfl,hc 3 _ rfl,hc 4 _ rfl,h4⟩
 · obtain ⟨i,hi,rfl⟩:=List.getElem_of_mem hx;obtain ⟨b,o,cs',e1,⟨la,lc,_,h3,_⟩,_⟩:=hh i _ (List.getElem?_eq_getElem hi);exact h3
theorem open_prog {v:Value} {d:DataW H} {ps:List MemPlace} (h:DataW.Trod enc Tryz.prog w 0 (fun _=>true) held 25 v d ps) (hx1:Light 25 d) (hv:∃ cs,v=.agg cs∧v.cells=cs):∃ P,PrAt w.heap.size P w v∧∀ f∈P.funs,∀ x∈f,I64 x.b:=by
 obtain ⟨fuel,hf0⟩:=h;obtain ⟨cs,rfl,hcs⟩:=hv;rw [hcs] at hf0;obtain ⟨xs,n,_,hxx,hl,hxl,hf⟩:=DataW.trod_struct Tryz.underlying25 hf0;obtain ⟨rfl,_⟩:=Prod.mk.inj hxx;have hl':cs.toList.length=2:=hl.trans (by kernel_rfl);obtain ⟨cs⟩:=cs
 match cs,hl' with
 | [c0,c1],_ =>
 have k0:Tryz.prog.cellsOf 22=1:=by kernel_rfl
 have k1:Tryz.prog.cellsOf 23=1:=by kernel_rfl
 have f0:=(hf 0 _ rfl).trans (List.getElem?_eq_getElem (by rw [hxl];decide));have f1:=(hf 1 _ rfl).trans (List.getElem?_eq_getElem (by rw [hxl];decide));simp only [List.getElem_toArray,List.getElem_cons_zero,List.getElem_cons_succ,k0,k1,List.drop_zero,List.drop_succ_cons,List.take_succ_cons,List.take_zero] at f0 f1
 obtain ⟨fo,fs,fc,e0,hl0,h0⟩:=open_row (α:=List In) Tryz.underlying22 (k:=1) (by kernel_rfl) (by decide)
  (fun cs f=>∃ (io:Option Addr) (ic:Nat),cs=[.slice io f.length ic]∧InsAt w.heap.size w io f∧∀ x∈f,x.l.length≤17592186043904∧I64 x.b) (fun f c y hy hz=>open_fun hy hz) f0 (hx1.field Tryz.underlying25 (i:=0) rfl (by rw [List.getElem?_map,List.getElem?_eq_getElem (by rw [hxl];decide)];rfl))
 obtain ⟨co,cl,cc,e1,hl1,h1⟩:=open_row (α:=Cr) Tryz.underlying23 (k:=5) (by kernel_rfl) (by decide) (fun cs y=>cs=y.cs) (fun f c y hy _=>open_co hy) f1 (hx1.field Tryz.underlying25 (i:=1) rfl (by rw [List.getElem?_map,List.getElem?_eq_getElem (by rw [hxl];decide)];rfl));simp only [List.cons.injEq,and_true] at e0 e1;subst e0 e1
 have hfs:∀ f∈fs,∀ x∈f,x.l.length≤17592186043904∧I64 x.b:=fun f hf' x hx=>by
  obtain ⟨i,hi,rfl⟩:=List.getElem_of_mem hf';obtain ⟨b,o,cs',e1,⟨io,ic,_,_,h5⟩,hc⟩:=h0 i _ (List.getElem?_eq_getElem hi);exact h5 x hx
 refine ⟨⟨fs,cl⟩,⟨⟨fo,fc,co,cc,rfl,fun i f hi=>?_,fun hpos=>?_⟩,fun f hf' x hx=>(hfs f hf' x hx).1⟩,fun f hf' x hx=>(hfs f hf' x hx).2⟩
 · obtain ⟨b,o,cs',e1,⟨io,ic,rfl,h4,_⟩,hc⟩:=h0 i f hi;have:=hc 0 _ rfl;simp only [Nat.mul_one,Nat.add_zero] at this;exact ⟨b,o,io,ic,e1,this,h4⟩
 · obtain ⟨b,o,cs',e1,e2,hc⟩:=h1 0 _ (List.getElem?_eq_getElem hpos);refine ⟨b,o,e1,fun j u hu=>?_⟩;obtain ⟨q,r,rfl,hr⟩:∃ q r,j=q * 5+r∧r<5:=⟨j / 5,j % 5,by omega,by omega⟩;have hjl:q * 5+r<(crs cl).length:=(List.getElem?_eq_some_iff.1 hu).1
   have hql:q<cl.length:=by
    have:=crs_len cl;omega
   obtain ⟨b2,o2,cs2,e3,e4,hc2⟩:=h1 q _ (List.getElem?_eq_getElem hql);rw [e1] at e3;cases e3
   obtain ⟨g0,g1,g2,g3,g4⟩:=crs_get (List.getElem?_eq_getElem hql)
   have key:(cl[q]'hql).cs[r]?=some u:=by
    match r,hr with
    | 0,_=>rw [Nat.add_zero,g0] at hu;exact hu
    | 1,_=>rw [g1] at hu;exact hu
    | 2,_=>rw [g2] at hu;exact hu
    | 3,_=>rw [g3] at hu;exact hu
    | 4,_=>rw [g4] at hu;exact hu
   have:=hc2 r u (by rw [e4];exact key);rw [Nat.add_assoc] at this;exact this
theorem open_axs {t e k0t:TypeId} (ht:Tryz.prog.underlying t=some (.slice e)) {f0 f1 f2 f3:Field} (he:Tryz.prog.underlying e=some (.struct #[f0,f1,f2,f3])) (ht0:f0.type=k0t∧f0.offset=0) (ht1:f1.type=3∧f1.offset=1) (ht2:f2.type=3∧f2.offset=2) (ht3:f3.type=36∧f3.offset=3) (hk0:Tryz.prog.underlying k0t=some (.int .i64)) (hk1:Tryz.prog.cellsOf k0t=1) (hk4:Tryz.prog.cellsOf e=4)
 {fuel:Nat} {cs:List Value} {x:DataW H × List MemPlace} (h:DataW.trod enc Tryz.prog w 0 (fun _=>true) held fuel t cs=some x) (hx1:Light t x.1) :
 ∃ ao l cap,cs=[.slice ao (List.length l) cap]∧l.length * Tryz.prog.bytesOf e≤reachBytes∧AxAt w.heap.size w ao l∧∀ y∈l,y.fits:=by
 obtain ⟨ao,l,cap,e,hl,hh⟩:=open_row (α:=Ax) ht (k:=4) hk4 (by decide)
  (fun cs y=>∃ (la:Option Addr) (lc:Nat),cs=[.int .i64 y.k,.int .i64 y.a,.int .i64 y.n,.slice la y.args.length lc]∧IntsAt w.heap.size w la y.args∧y.fits) (fun f c y hy hz=>by
   obtain ⟨xs,n,_,hxx,hl,hxl,hf⟩:=DataW.trod_struct he hy;rw [hxx] at hz;have hl':c.length=4:=hl.trans hk4
   match c,hl' with
   | [c0,c1,c2,c3],_ =>
   have k1:Tryz.prog.cellsOf 3=1:=by kernel_rfl
   have k3:Tryz.prog.cellsOf 36=1:=by kernel_rfl
   have f0:=(hf 0 _ rfl).trans (List.getElem?_eq_getElem (by rw [hxl];exact of_decide_eq_true rfl));have f1:=(hf 1 _ rfl).trans (List.getElem?_eq_getElem (by rw [hxl];exact of_decide_eq_true rfl));have f2:=(hf 2 _ rfl).trans (List.getElem?_eq_getElem (by rw [hxl];exact of_decide_eq_true rfl));have f3:=(hf 3 _ rfl).trans (List.getElem?_eq_getElem (by rw [hxl];exact of_decide_eq_true rfl));simp only [List.getElem_toArray,List.getElem_cons_zero,List.getElem_cons_succ,ht0.1,ht0.2,ht1.1,ht1.2,ht2.1,ht2.2,ht3.1,ht3.2,hk1,k1,k3,List.drop_zero,List.drop_succ_cons,List.take_succ_cons,List.take_zero] at f0 f1 f2 f3;obtain ⟨n0,e0,_⟩:=DataW.trod_int hk0 f0;obtain ⟨n1,e1,_,hw1⟩:=DataW.trod_int Tryz.underlying3 f1;obtain ⟨n2,e2,_,hw2⟩:=DataW.trod_int Tryz.underlying3 f2;obtain ⟨ao,l,cap,e4,hl4,hi,hn⟩:=open_ints Tryz.underlying36 f3 (ht3.1 ▸ hz.field he (i:=3) rfl (by rw [List.getElem?_map,List.getElem?_eq_getElem (by rw [hxl];exact of_decide_eq_true rfl)];rfl));simp only [List.cons.injEq,and_true] at e0 e1 e2 e4;subst e0 e1 e2 e4
   exact ⟨⟨n0,n1,n2,l⟩,ao,cap,rfl,hi,i64_wf hw1,i64_wf hw2,hn⟩) h hx1
 refine ⟨ao,l,cap,e,hl,fun i x hx=>?_,fun y hy=>?_⟩
 · obtain ⟨b,o,cs',e1,⟨la,lc,rfl,h4,_⟩,hc⟩:=hh i x hx;exact ⟨b,o,la,lc,e1,hc 0 _ rfl,hc 1 _ rfl,hc 2 _ rfl,hc 3 _ rfl,h4⟩
 · obtain ⟨i,hi,rfl⟩:=List.getElem_of_mem hy;obtain ⟨b,o,cs',e1,⟨la,lc,_,_,h5⟩,_⟩:=hh i _ (List.getElem?_eq_getElem hi);exact h5
end
theorem law_own:ownKnob Tryz.prog.godebug=none:=by kernel_rfl
section
variable {H:Type} {enc:TypeId × Value→H} {W:World} {r:Reach} {b0:Nat}
theorem light_arg {ts:List TypeId} {ds:List (DataW H)} (h:(DataW.weightsEach Tryz.prog ts ds).all (·≤reachBytes)=true) {j:Nat} {t:TypeId} {d:DataW H} (ht:ts[j]?=some t) (hd:ds[j]?=some d):Light t d:=fun n hn=>by
 have:=List.all_eq_true.1 h n (DataW.weights_mem_each ht hd n hn)
 simpa using this
theorem arg_progD {v:Value} {d:DataW H} {ps:List MemPlace} (hval:Value.okWide Tryz.prog W r b0 25 v) (h:DataW.Trod enc Tryz.prog W 0 (fun _=>true) true 25 v d ps) (hl:Light 25 d):∃ P,PrAt W.heap.size P W v∧∀ f∈P.funs,∀ x∈f,I64 x.b:=by
 refine open_prog h hl ?_;unfold Value.okWide at hval;rw [Tryz.underlying25] at hval;obtain ⟨cs,rfl,_⟩:=hval;exact ⟨cs,rfl,rfl⟩
theorem arg_actsD {v:Value} {d:DataW H} {ps:List MemPlace} (hval:Value.okWide Tryz.prog W r b0 26 v) (h:DataW.Trod enc Tryz.prog W 0 (fun _=>true) true 26 v d ps) (hl:Light 26 d) :
 ∃ ao l cap,v=.slice ao (List.length l) cap∧AxAt W.heap.size W ao l∧∀ y∈l,y.fits:=by
 obtain ⟨fuel,hf⟩:=h;obtain ⟨ao,len,cap,rfl⟩:=okWide_slice Tryz.underlying26 hval;obtain ⟨ao',l,cap',e,_,hx⟩:=open_axs Tryz.underlying26 Tryz.underlying38 ⟨rfl,rfl⟩ ⟨rfl,rfl⟩ ⟨rfl,rfl⟩ ⟨rfl,rfl⟩ Tryz.underlying3 (by kernel_rfl) (by kernel_rfl) hf hl;simp [Value.cells] at e;obtain ⟨rfl,rfl,rfl⟩:=e;exact ⟨_,l,_,rfl,hx⟩
end
end Go.Proofs.YtlbomnbpahmphaaGreat
