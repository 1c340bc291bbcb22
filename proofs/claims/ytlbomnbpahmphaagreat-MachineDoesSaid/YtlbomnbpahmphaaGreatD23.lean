/- Rows of marks in memory, for the document's walk over what is written. Conditions: those of each lemma. -/
import Derived.Deep.LoopGhost
import Derived.Deep.CutRange
import Derived.Test.YtlbomnbpahmphaaGreatD22
import Derived.Test.YtlbomnbpahmphaaGreatD18
set_option maxRecDepth 100000
set_option maxHeartbeats 4000000
namespace Go.Proofs.YtlbomnbpahmphaaGreat
open Go.RowKit
def bools (l:List Bool):List Value:=l.map Value.bool
theorem bools_set (l:List Bool) (i:Nat) (b:Bool):bools (l.set i b)=(bools l).set i (.bool b):=by simp [bools,List.map_set]
theorem bools_get {l:List Bool} {i:Nat} {b:Bool} (h:l[i]?=some b):(bools l)[i]?=some (.bool b):=by simp [bools,h]
theorem bools_one (l:List Bool):∀ u∈bools l,u.oneCell'=true:=by
 intro u hu;obtain ⟨b,_,rfl⟩:=List.mem_map.1 hu
 rfl
theorem ints_one' (l:List Int):∀ u∈ints l,u.oneCell'=true:=by
 intro u hu;obtain ⟨b,_,rfl⟩:=List.mem_map.1 hu
 rfl
theorem Own.frozen {w:World} {T:TypeId} {n c g k:Nat} {cs:List Value} (h:Own w (.slice (some ⟨g,0,none⟩) n c) T k n cs) (o:Nat):w.frozen? ⟨g,o,none⟩=false:=by
 obtain ⟨arr,ha⟩:=h.row (g:=g) rfl;exact ha.frozen o
theorem Own.set1 {w:World} {T:TypeId} {n c g:Nat} {cs:List Value} (h:Own w (.slice (some ⟨g,0,none⟩) n c) T 1 n cs) (i:Nat) (v:Value):Own (w.setCell ⟨g,i,none⟩ v) (.slice (some ⟨g,0,none⟩) n c) T 1 n (cs.set i v):=by
 obtain ⟨_,h2⟩:=h;rcases h2 with ⟨e,_⟩|⟨g',cap,cur,e,_,h3,h4,h5,h6,h7⟩
 · cases e
 · cases e
   have hr:Row w g T cur.toList:=h3;have:=Own.mk (hr.set_same i v) (k:=1) (len:=n) (cap:=c) (by simpa using h6) h4 h5;rw [List.take_set,h7] at this;exact this
theorem run_app_none {P:Program} (w:World) (t ty e:TypeId) (i:TypeInfo) (ht:P.underlying t=some (.slice e)) (hi:P.info? e=some i) (base tO:Option Addr) (sLen sCap c:Nat) (hle:sLen≤sCap) :
 (Builtin.append_ #[t,t] ty #[.slice base sLen sCap,.slice tO 0 c]).run P w=.ok (.slice base sLen sCap) w:=by
 cases base <;> cases tO <;> simp [Builtin.append_,run_underlying ht,sizeOf,typeInfo,hi,hle,Builtin.lenOf,Builtin.firstCells,storeCells,loadCells,loadCellsFrom]
theorem own_app {P:Program} {w:World} {T:TypeId} {v:Value} {k n:Nat} {cs:List Value} (h:Own w v T k n cs) (t:TypeId) (i:TypeInfo) (z:Value) (bytes:Nat) (ht:P.underlying t=some (.slice T)) (hi:P.info? T=some i)
 (hz:i.zero=some z) (hk:i.size=k) (hby:i.bytes=bytes) (hzs:z.cells.size=k) (hk0:0<k) (so:Option Addr) (m c:Nat) (news:List Value) (hl:news.length=m * k)
 (hs:0<m→∃ b o,so=some ⟨b,o,none⟩∧∀ (j:Nat) (u:Value),news[j]?=some u→w.cell? ⟨b,o+j,none⟩=some u) (h1:∀ u∈news,u.oneCell'=true) (hb:(n+m) * bytes≤140737488355328) (hmax:n+m≤maxLen) :
 ∃ x c' w',(Builtin.append_ #[t,t] t #[v,.slice so m c]).run P w=.ok (.slice x (n+m) c') w'∧Own w' (.slice x (n+m) c') T k (n+m) (cs ++ news)∧Fr (fun x=>v.ownBlock=some x) w w'∧(∀ g,(Value.slice x (n+m) c').ownBlock=some g→v.ownBlock=some g∨w.heap.size≤g):=by
 by_cases h0:0<m
 · obtain ⟨b,o,rfl,hc⟩:=hs h0;obtain ⟨g,cap,w',hr,ho,hf,hg,_⟩:=run_app (P:=P) h t t i z bytes ht hi hz hk hby hzs hk0 b o m c news hl hc h1 h0 hb hmax;refine ⟨_,cap,w',hr,ho,hf,fun g' hg'=>?_⟩;cases hg'
   rcases hg with q|q
   · exact Or.inl q
   · right;rw [q];exact Nat.le_refl _
 · obtain rfl:m=0:=by omega
   obtain rfl:news=[]:=List.eq_nil_of_length_eq_zero (by simpa using hl);obtain ⟨xo,xc,rfl,hx,_,_,_⟩:=h.form;refine ⟨xo,xc,w,?_,?_,Fr.refl _ _,fun g hg=>Or.inl hg⟩
   · exact run_app_none w t t T i ht hi xo so n xc c hx
   · rw [List.append_nil];exact h
structure WM (base:Nat) (w:World) (ab mb:Nat) (V:List Value) (S:List Mk):Prop where
 ra:Row w ab 64 V
 rm:Row w mb 4 (S.map fun o=>.bool o.isSome)
 len:V.length=S.length
 ba:base≤ab
 bm:base≤mb
 row:∀ (k:Nat) (l:List Bool),S[k]?=some (some l)→∃ g cap,V[k]?=some (.slice (some ⟨g,0,none⟩) 16 cap)∧Own w (.slice (some ⟨g,0,none⟩) 16 cap) 4 1 16 (bools l)∧g≠mb∧base≤g
 one:∀ (j k:Nat) (lj lk:List Bool) (g c c':Nat),S[j]?=some (some lj)→S[k]?=some (some lk)→V[j]?=some (.slice (some ⟨g,0,none⟩) 16 c)→V[k]?=some (.slice (some ⟨g,0,none⟩) 16 c')→j=k
def Apart (V:List Value) (S:List Mk) (mb b:Nat):Prop:=b≠mb∧∀ (k:Nat) (l:List Bool) (g c:Nat),S[k]?=some (some l)→V[k]?=some (.slice (some ⟨g,0,none⟩) 16 c)→g≠b
section
variable {base:Nat} {w w':World} {ab mb:Nat} {V:List Value} {S:List Mk}
theorem WM.fr {D:Nat→Prop} (h:WM base w ab mb V S) (f:Fr D w w') (hD:∀ b,D b→b<w.heap.size→b≠ab∧Apart V S mb b):WM base w' ab mb V S:=by
 refine ⟨f.row h.ra fun e=>(hD _ e h.ra.lt).1 rfl,f.row h.rm fun e=>(hD _ e h.rm.lt).2.1 rfl,h.len,h.ba,h.bm,fun k l hk=>?_,h.one⟩;obtain ⟨g,cap,h1,h2,h3,h4⟩:=h.row k l hk;refine ⟨g,cap,h1,h2.fr f fun g' hg' e=>?_,h3,h4⟩;cases hg'
 exact (hD _ e (h2.lt rfl)).2.2 k l g cap hk h1 rfl
theorem WM.non (h:WM base w ab mb V S) (f:Fr Non w w'):WM base w' ab mb V S:=h.fr f fun _b e=>e.elim
theorem WM.ne (h:WM base w ab mb V S):ab≠mb:=h.ra.ne h.rm (by decide)
theorem WM.fresh (h:WM base w ab mb V S) {b:Nat} (hb:w.heap.size≤b):Apart V S mb b:=by
 refine ⟨fun e=>by have:=h.rm.lt;omega,fun k l g c hk hv e=>?_⟩;obtain ⟨g',cap,h1,h2,_⟩:=h.row k l hk;rw [h1] at hv;cases hv
 have:=h2.lt (g:=g) rfl;omega
theorem WM.at_none (h:WM base w ab mb V S) {k:Nat} (hk:k<S.length):w.cell? ⟨mb,k,none⟩=some (.bool (S.getD k none).isSome) :=
 h.rm.cell (by rw [List.getElem?_map,List.getElem?_eq_getElem hk,List.getD_eq_getElem?_getD,List.getElem?_eq_getElem hk];rfl)
theorem WM.put (h:WM base w ab mb V S) (f:Fr (fun x=>x=ab∨x=mb) w w') {k g c:Nat} {o:List Bool} (ra:Row w' ab 64 (V.set k (.slice (some ⟨g,0,none⟩) 16 c))) (rm:Row w' mb 4 ((S.map fun o=>Value.bool o.isSome).set k (.bool true)))
 (ho:Own w' (.slice (some ⟨g,0,none⟩) 16 c) 4 1 16 (bools o)) (hg:Apart V S mb g) (hb:base≤g) (hk:S[k]?=some none):WM base w' ab mb (V.set k (.slice (some ⟨g,0,none⟩) 16 c)) (S.set k (some o)):=by
 have hkl:k<S.length:=(List.getElem?_eq_some_iff.1 hk).1;have hvl:k<V.length:=by rw [h.len];exact hkl
 refine ⟨ra,?_,by rw [List.length_set,List.length_set,h.len],h.ba,h.bm,fun j l hj=>?_,fun i j li lj b c1 c2 hi hj hvi hvj=>?_⟩
 · rw [List.map_set];exact rm
 · rw [List.getElem?_set] at hj ⊢;by_cases e:k=j
   · subst e;rw [if_pos rfl,if_pos hkl] at hj;rw [if_pos rfl,if_pos hvl];cases hj
     exact ⟨g,c,rfl,ho,hg.1,hb⟩
   · rw [if_neg e] at hj ⊢;obtain ⟨g',cap,h1,h2,h3,h4⟩:=h.row j l hj;refine ⟨g',cap,h1,h2.fr f fun x hx e=>?_,h3,h4⟩;cases hx
     rcases e with e|e
     · exact h2.ne h.ra (by decide) (congrArg some e)
     · exact h3 e
 · rw [List.getElem?_set] at hi hj hvi hvj;by_cases e1:k=i
   · by_cases e2:k=j
     · omega
     · exfalso;rw [if_pos e1,if_pos (by omega)] at hvi;rw [if_neg e2] at hj hvj;cases hvi
       exact hg.2 j lj g c2 hj hvj rfl
   · by_cases e2:k=j
     · exfalso;rw [if_pos e2,if_pos (by omega)] at hvj;rw [if_neg e1] at hi hvi;cases hvj
       exact hg.2 i li g c1 hi hvi rfl
     · rw [if_neg e1] at hi hvi;rw [if_neg e2] at hj hvj;exact h.one i j li lj b c1 c2 hi hj hvi hvj
theorem WM.strike (h:WM base w ab mb V S) {k g c:Nat} {l:List Bool} (hk:S[k]?=some (some l)) (hv:V[k]?=some (.slice (some ⟨g,0,none⟩) 16 c)) (r:Nat) (b:Bool):WM base (w.setCell ⟨g,r,none⟩ (.bool b)) ab mb V (S.set k (some (l.set r b))):=by
 have hkl:k<S.length:=(List.getElem?_eq_some_iff.1 hk).1;obtain ⟨g0,cap,h1,h2,h3,h4⟩:=h.row k l hk;rw [hv] at h1;cases h1
 have hga:g≠ab:=fun e=>h2.ne h.ra (by decide) (congrArg some e);refine ⟨h.ra.set_ne hga.symm _,?_,by rw [List.length_set,h.len],h.ba,h.bm,fun j l' hj=>?_,fun i j li lj x c1 c2 hi hj hvi hvj=>?_⟩
 · have:(S.set k (some (l.set r b))).map (fun o:Mk=>Value.bool o.isSome)=S.map fun o=>Value.bool o.isSome:=by
    rw [List.map_set];refine set_self ?_;rw [List.getElem?_map,hk]
    rfl
   rw [this];exact h.rm.set_ne (Ne.symm h3) _
 · rw [List.getElem?_set] at hj;by_cases e:k=j
   · subst e;rw [if_pos rfl,if_pos hkl] at hj;cases hj
     refine ⟨g,c,hv,?_,h3,h4⟩;rw [bools_set];exact h2.set1 r _
   · rw [if_neg e] at hj;obtain ⟨g',cap',q1,q2,q3,q4⟩:=h.row j l' hj;refine ⟨g',cap',q1,q2.fr (Fr.set1 _ _ _ _) fun x hx ex=>?_,q3,q4⟩;cases hx
     subst ex;exact e (h.one k j l l' _ _ _ hk hj hv q1)
 · have old:∀ (t:Nat) (lt:List Bool),(S.set k (some (l.set r b)))[t]?=some (some lt)→∃ l0,S[t]?=some (some l0):=fun t lt ht=>by
    rw [List.getElem?_set] at ht;by_cases e:k=t
    · subst e;exact ⟨l,hk⟩
    · rw [if_neg e] at ht;exact ⟨lt,ht⟩
   obtain ⟨l1,q1⟩:=old i li hi;obtain ⟨l2,q2⟩:=old j lj hj;exact h.one i j l1 l2 x c1 c2 q1 q2 hvi hvj
theorem Apart.set {b k:Nat} {l l':List Bool} (h:Apart V S mb b) (hk:S[k]?=some (some l)):Apart V (S.set k (some l')) mb b:=by
 refine ⟨h.1,fun j lj g c hj hv=>?_⟩;rw [List.getElem?_set] at hj;by_cases e:k=j
 · subst e;exact h.2 k l g c hk hv
 · rw [if_neg e] at hj;exact h.2 j lj g c hj hv
theorem Apart.put {b k g c:Nat} {o:List Bool} (h:Apart V S mb b) (_hkl:k<S.length) (hvl:k<V.length) (hne:g≠b):Apart (V.set k (.slice (some ⟨g,0,none⟩) 16 c)) (S.set k (some o)) mb b:=by
 refine ⟨h.1,fun j lj g' c' hj hv=>?_⟩;rw [List.getElem?_set] at hj hv;by_cases e:k=j
 · rw [if_pos e,if_pos (by omega)] at hv;cases hv
   exact hne
 · rw [if_neg e] at hj hv;exact h.2 j lj g' c' hj hv
end
theorem labF_len (o:List Bool) (s:List Mk × Bool) (m:Int):(labF o s m).1.length=s.1.length:=by
 unfold labF;split <;> simp
theorem labs_len (o:List Bool):∀ (l:List Int) (s:List Mk × Bool),(l.foldl (labF o) s).1.length=s.1.length
 | [],_=>rfl
 | m :: l,s=>by rw [List.foldl_cons,labs_len o l,labF_len]
theorem rfalls_c (w:World) (x:In) (la:Option Addr) (lc:Nat):Calls Tryz.prog 65 #[.agg #[.int .i64 x.op,.int .i64 x.a,.int .i64 x.b,.int .i64 x.c,.slice la x.l.length lc]] w fun e w'=>e=.returned (.bool (fallsS x.op))∧Fr Non w w':=by
 have hK:=Lib.hid fun w1=>rknown_c w1 x la lc;obtain ⟨op,a,b,c,l⟩:=x;simp only at hK ⊢;obtain ⟨r,hr⟩:∃ r,r=fallsS op:=⟨_,rfl⟩;rw [← hr];by_cases h:0≤op∧op≤29
 · rcases op_30 h.1 h.2 with rfl|rfl|rfl|rfl|rfl|rfl|rfl|rfl|rfl|rfl|rfl|rfl|rfl|rfl|rfl|rfl|rfl|rfl|rfl|rfl|rfl|rfl|rfl|rfl|rfl|rfl|rfl|rfl|rfl|rfl
   all_goals simp [fallsS,shapeS] at hr
   all_goals subst hr
   all_goals clear h
   all_goals go_enter Tryz.func65,Tryz.ntmps65
   all_goals go_wp2_with fail
   all_goals refine (hK.out _).mono ?_
   all_goals rintro e1 w1 ⟨rfl,hf⟩
   all_goals simp only [knownS]
   all_goals have hf1:Fr Non w w1:=Fr.trans (by exact fx) hf
   all_goals have b0:=(hf.new_row id).cell (o:=0) rfl
   all_goals have hz:=(hf.new_row id).frozen
   all_goals have hlt:=(hf.new_row id).lt
   all_goals clear hf hK
   all_goals go_wp2_with fail
   all_goals go_ret
   all_goals exact ⟨rfl,by exact fx⟩
 · rw [show fallsS op=false from by unfold fallsS;rw [shape_none h,if_neg (by omega)]] at hr;subst hr
   have hk0:knownS op=false:=by
    unfold knownS;by_cases h0:0≤op
    · rw [decide_eq_false (show ¬ op≤29 by omega),Bool.and_false]
    · rw [decide_eq_false h0,Bool.false_and]
   clear h;go_enter Tryz.func65,Tryz.ntmps65
   go_wp2_with fail
   refine (hK.out _).mono ?_;rintro e1 w1 ⟨rfl,hf⟩;rw [hk0];have hf1:Fr Non w w1:=Fr.trans (by exact fx) hf;clear hf;go_wp2_with fail
   go_ret
   exact ⟨rfl,by exact fx⟩
theorem own_one {w:World} {T:TypeId} {x:List Value} {g n:Nat} (h:Row w g T x) (hn:x.length=n) (hm:n≤10):Own w (.slice (some ⟨g,0,none⟩) n n) T 1 n x:=by
 have:=Own.mk h (k:=1) (len:=n) (cap:=n) (by omega) (Nat.le_refl _) (by unfold maxLen;omega)
 rwa [List.take_of_length_le (by omega)] at this
theorem rreads_c (w:World) (x:In) (la:Option Addr) (lc:Nat):Calls Tryz.prog 71 #[.agg #[.int .i64 x.op,.int .i64 x.a,.int .i64 x.b,.int .i64 x.c,.slice la x.l.length lc]] w fun e w' =>
 ∃ v,e=.returned v∧Own w' v 3 1 (readsS x).length (ints (readsS x))∧Fr Non w w':=by
 obtain ⟨op,a,b,c,l⟩:=x;simp only;obtain ⟨r,hr⟩:∃ r,r=readsS ⟨op,a,b,c,l⟩:=⟨_,rfl⟩;rw [← hr];by_cases h:0≤op∧op≤29
 · rcases op_30 h.1 h.2 with rfl|rfl|rfl|rfl|rfl|rfl|rfl|rfl|rfl|rfl|rfl|rfl|rfl|rfl|rfl|rfl|rfl|rfl|rfl|rfl|rfl|rfl|rfl|rfl|rfl|rfl|rfl|rfl|rfl|rfl
   all_goals simp [readsS,shapeS] at hr
   all_goals subst hr
   all_goals clear h
   all_goals go_enter Tryz.func71,Tryz.ntmps71
   all_goals go_wp2_with fail
   all_goals go_ret
   all_goals first
    | exact ⟨_,rfl,Own.nil _ _ _,by exact fx⟩
    | exact ⟨_,rfl,own_one (by exact Row.new' (by simp)) rfl (by omega),by exact fx⟩
 · rw [show readsS ⟨op,a,b,c,l⟩=[] from by unfold readsS;rw [shape_none h];rfl] at hr;subst hr;have b0:(op == 0)=false:=beq_false_of_ne (by omega);have b1:(op == 1)=false:=beq_false_of_ne (by omega);have b2:(op == 2)=false:=beq_false_of_ne (by omega);have b3:(op == 3)=false:=beq_false_of_ne (by omega);have b4:(op == 4)=false:=beq_false_of_ne (by omega);have b5:(op == 5)=false:=beq_false_of_ne (by omega);have b6:(op == 6)=false:=beq_false_of_ne (by omega);have b7:(op == 7)=false:=beq_false_of_ne (by omega);have b8:(op == 8)=false:=beq_false_of_ne (by omega);have b9:(op == 9)=false:=beq_false_of_ne (by omega);have b10:(op == 10)=false:=beq_false_of_ne (by omega);have b11:(op == 11)=false:=beq_false_of_ne (by omega);have b12:(op == 12)=false:=beq_false_of_ne (by omega);have b13:(op == 13)=false:=beq_false_of_ne (by omega);have b14:(op == 14)=false:=beq_false_of_ne (by omega);have b15:(op == 15)=false:=beq_false_of_ne (by omega);have b16:(op == 16)=false:=beq_false_of_ne (by omega);have b17:(op == 17)=false:=beq_false_of_ne (by omega);have b18:(op == 18)=false:=beq_false_of_ne (by omega);have b19:(op == 19)=false:=beq_false_of_ne (by omega);have b20:(op == 20)=false:=beq_false_of_ne (by omega);have b21:(op == 21)=false:=beq_false_of_ne (by omega);have b22:(op == 22)=false:=beq_false_of_ne (by omega);have b23:(op == 23)=false:=beq_false_of_ne (by omega);have b24:(op == 24)=false:=beq_false_of_ne (by omega);have b25:(op == 25)=false:=beq_false_of_ne (by omega);have b26:(op == 26)=false:=beq_false_of_ne (by omega);have b27:(op == 27)=false:=beq_false_of_ne (by omega);have b28:(op == 28)=false:=beq_false_of_ne (by omega);have b29:(op == 29)=false:=beq_false_of_ne (by omega);clear h;go_enter Tryz.func71,Tryz.ntmps71
   go_wp2_with fail
   go_ret
   exact ⟨_,rfl,Own.nil _ _ _,by exact fx⟩
theorem Tryz.infoRow:(Tryz.prog.info? 64).map (fun i=>(i.zero,i.size,i.bytes))=some (some (.slice none 0 0),1,24):=by kernel_rfl
theorem Tryz.infoBool2:(Tryz.prog.info? 4).map (fun i=>(i.zero,i.size,i.bytes))=some (some (.bool false),1,1):=by kernel_rfl
theorem madeCells_slice (k:Nat):(madeCells #[.slice none 0 0] (k * 1)).toList=List.replicate k (.slice none 0 0):=by
 refine List.eq_replicate_iff.2 ⟨by simp [madeCells],?_⟩;simp [madeCells,Nat.mod_one]
theorem ints_src {base:Nat} {w w':World} {ao:Option Addr} {l:List Int} (h:IntsAt base w ao l) (f:Fr Non w w') (h0:0<l.length):∃ b o,ao=some ⟨b,o,none⟩∧∀ (j:Nat) (u:Value),(ints l)[j]?=some u→w'.cell? ⟨b,o+j,none⟩=some u:=by
 obtain ⟨b,o,e,_⟩:=h 0 _ (List.getElem?_eq_getElem h0);refine ⟨b,o,e,fun j u hu=>?_⟩;unfold ints at hu;rw [List.getElem?_map] at hu;cases hj:l[j]? with
 | none=>rw [hj] at hu;cases hu
 | some n =>
  rw [hj] at hu;cases hu
  obtain ⟨b',o',e',hc⟩:=h j n hj;rw [e] at e';cases e'
  exact f.cell hc.2 id
section
variable {base:Nat} {w:World} {f:List In} {kind:Int}
theorem written_c (io:Option Addr) (ic:Nat) (hI:InsAt base w io f) (_hbw:base≤w.heap.size) (hf:FnOk f):Calls Tryz.prog 35 #[.slice io f.length ic,.int .i64 kind] w fun e w'=>e=.returned (.bool (waysS f kind))∧Fr Non w w':=by
 obtain ⟨i0,hi0,hi1,hi2,hi3⟩:=info_parts Tryz.infoRow;obtain ⟨j0,hj0,hj1,hj2,hj3⟩:=info_parts Tryz.infoBool2;obtain ⟨q0,hq0,hq1,hq2,hq3⟩:=info_parts Tryz.infoInt;obtain ⟨R,hR⟩:∃ R,R=waysS f kind:=⟨_,rfl⟩;rw [← hR];have hbig:=hf.big;have hpos:=hf.pos
 have hm1:∀ W:World,(Instr.makeSlice 140 (.int .i64 f.length) (.int .i64 f.length)).run Tryz.prog W=.ok (.slice (Option.some ⟨W.heap.size,0,none⟩) f.length f.length) (W.alloc (.cells (madeCells #[.slice none 0 0] (f.length * 1)) 64)):=by
  intro W;have:=run_make (P:=Tryz.prog) W 140 64 i0 _ Tryz.underlying140 hi0 hi1 .i64 .i64 (f.length:Int) (f.length:Int) (by omega) (by omega) (by rw [hi3];omega) (by omega);rw [hi2] at this
  simpa [Value.cells] using this
 have hm2:∀ W:World,(Instr.makeSlice 64 (.int .i64 f.length) (.int .i64 f.length)).run Tryz.prog W=.ok (.slice (Option.some ⟨W.heap.size,0,none⟩) f.length f.length) (W.alloc (.cells (madeCells #[.bool false] (f.length * 1)) 4)):=by
  intro W;have:=run_make (P:=Tryz.prog) W 64 4 j0 _ Tryz.underlying64 hj0 hj1 .i64 .i64 (f.length:Int) (f.length:Int) (by omega) (by omega) (by rw [hj3];omega) (by omega);rw [hj2] at this
  simpa [Value.cells] using this
 have hm3:∀ W:World,(Instr.makeSlice 64 (.int .i64 16) (.int .i64 16)).run Tryz.prog W=.ok (.slice (Option.some ⟨W.heap.size,0,none⟩) 16 16) (W.alloc (.cells (madeCells #[.bool false] (16 * 1)) 4)):=by
  intro W;have:=run_make (P:=Tryz.prog) W 64 4 j0 _ Tryz.underlying64 hj0 hj1 .i64 .i64 (16:Int) (16:Int) (by omega) (by omega) (by rw [hj3];omega) (by omega);rw [hj2] at this
  simpa [Value.cells] using this
 have hA:=madeCells_slice f.length;have hB:=madeCells_bool f.length;have hC:=madeCells_bool 16;generalize madeCells #[.slice none 0 0] (f.length * 1)=zA at *;generalize madeCells #[.bool false] (f.length * 1)=zB at *;generalize madeCells #[.bool false] (16 * 1)=zC at *;have a0:zA[0]?=some (.slice none 0 0):=by rw [← Array.getElem?_toList,hA];simp [hpos]
 have b0:zB[0]?=some (.bool false):=by rw [← Array.getElem?_toList,hB];simp [hpos]
 have c0:zC[0]?=some (.bool false):=by rw [← Array.getElem?_toList,hC];simp
 have a1:∀ v,(zA.setIfInBounds 0 v)[0]?=some v:=fun v=>by rw [Array.getElem?_setIfInBounds,if_pos rfl,if_pos (Array.getElem?_eq_some_iff.1 a0).1]
 have hf0:(0:Int)<(f.length:Int):=by omega
 have HH:=Lib.hid (And.intro hI (And.intro hf (And.intro hR (And.intro hA (And.intro hB hC)))));clear hI hf hR hA hB hC hi0 hi1 hi2 hi3;go_enter Tryz.func35,Tryz.ntmps35
 go_wp2_with fail
 have hzA:(zA.setIfInBounds 0 (.slice (some ⟨w.heap.size+1+1,0,none⟩) 16 16)).toList=(List.replicate f.length (.slice none 0 0)).set 0 (.slice (some ⟨w.heap.size+1+1,0,none⟩) 16 16):=by rw [Array.toList_setIfInBounds,HH.out.2.2.2.1]
 have hzB:(zB.setIfInBounds 0 (.bool true)).toList=(markB f.length kind).map fun o=>Value.bool o.isSome:=by
  rw [Array.toList_setIfInBounds,HH.out.2.2.2.2.1];obtain ⟨m,hm⟩:∃ m,f.length=m+1:=⟨f.length - 1,by omega⟩;rw [hm];simp [markB,List.replicate_succ]
 have hzC:(zC.setIfInBounds 0 (.bool (kind == 0))).toList=bools (decide (kind=0) :: List.replicate 15 false):=by
  rw [Array.toList_setIfInBounds,HH.out.2.2.2.2.2]
  rfl
 generalize zA.setIfInBounds 0 (.slice (some ⟨w.heap.size+1+1,0,none⟩) 16 16)=yA at *;generalize zB.setIfInBounds 0 (.bool true)=yB at *;generalize zC.setIfInBounds 0 (.bool (kind == 0))=yC at *
 have hW:WM w.heap.size (((w.alloc (.cells yA 64)).alloc (.cells yB 4)).alloc (.cells yC 4)) w.heap.size (w.heap.size+1) yA.toList (markB f.length kind):=by
  have rA:Row (((w.alloc (.cells yA 64)).alloc (.cells yB 4)).alloc (.cells yC 4)) w.heap.size 64 yA.toList:=Row.alloc (Row.alloc (Row.new' rfl) _) _;have rB:Row (((w.alloc (.cells yA 64)).alloc (.cells yB 4)).alloc (.cells yC 4)) (w.heap.size+1) 4 yB.toList:=Row.alloc (Row.new' (by simp)) _;have rC:Row (((w.alloc (.cells yA 64)).alloc (.cells yB 4)).alloc (.cells yC 4)) (w.heap.size+1+1) 4 yC.toList:=Row.new' (by simp)
  have only:∀ (k:Nat) (l:List Bool),(markB f.length kind)[k]?=some (some l)→k=0∧l=decide (kind=0) :: List.replicate 15 false:=fun k l h=>by
   unfold markB at h;cases k with
   | zero=>cases h;exact ⟨rfl,rfl⟩
   | succ k =>
    rw [List.getElem?_cons_succ,List.getElem?_replicate] at h;split at h <;> cases h
  refine ⟨rA,?_,by rw [hzA];simp [markB];omega,Nat.le_refl _,by omega,fun k l hk=>?_,fun j k lj lk g c c' hj hk _ _=>?_⟩
  · rw [← hzB];exact rB
  · obtain ⟨rfl,rfl⟩:=only k l hk;refine ⟨w.heap.size+1+1,16,?_,?_,by omega,by omega⟩
    · rw [hzA,List.getElem?_set,if_pos rfl,if_pos (by simpa using hpos)]
    · have:=Own.mk rC (k:=1) (len:=16) (cap:=16) (by rw [hzC];simp [bools]) (Nat.le_refl _) (by unfold maxLen;omega);rw [hzC] at this
      rwa [List.take_of_length_le (by simp [bools])] at this
  · rw [(only j lj hj).1,(only k lk hk).1]
 have hfW:Fr Non w (((w.alloc (.cells yA 64)).alloc (.cells yB 4)).alloc (.cells yC 4)):=by exact fx
 have HW:=Lib.hid (And.intro hW hfW);clear hW hfW hzA hzB hzC a0 a1 b0 c0 hm1 hm2 hm3;generalize ((w.alloc (.cells yA 64)).alloc (.cells yB 4)).alloc (.cells yC 4)=W at *;generalize yA.toList=V0 at *;obtain ⟨mb,hmb⟩:∃ mb,mb=w.heap.size+1:=⟨_,rfl⟩;obtain ⟨ab,hab⟩:∃ ab,ab=w.heap.size:=⟨_,rfl⟩;rw [← hmb] at HW;rw [← hmb];rw [← hab] at HW hmb;rw [← hab];have HAB:=Lib.hid (And.intro hab hmb);clear hab hmb
 go_loopg [7] (potM (markB f.length kind)+1) (fun k v7 wr=>∃ (ch:Bool) (S:List Mk) (V:List Value),v7=.bool ch∧WM ab wr ab mb V S∧MarkM f kind S∧(if ch then potM S+1 else 0)≤k∧(ch=false→∀ t,t<f.length→ClosedM f S t)∧Fr Non w wr)
 case atStart=>exact ⟨true,_,_,rfl,HW.out.1,markB_ok HH.out.2.1,by simp,fun h=>(by cases h),HW.out.2⟩
 case round =>
  obtain ⟨ch,S,V,rfl,hw,hmk,hk,hcl,hfr⟩:=hrel;clear HW;cases ch with
  | false =>
   have HC:=Lib.hid (And.intro hw (And.intro hmk (And.intro (hcl rfl) hfr)));clear hw hmk hcl hfr hk;go_wp2_with fail
   go_loopg [16] f.length (fun q v16 wq=>∃ i:Nat,i≤f.length∧q=f.length - i∧v16=.int .i64 i∧(∀ t,t<i→GoodM f S t)∧WM ab wq ab mb V S∧Fr Non w wq)
   case atStart=>exact ⟨0,Nat.zero_le _,rfl,rfl,fun t ht=>(by omega),HC.out.1,HC.out.2.2.2⟩
   case round =>
    obtain ⟨i,hi,rfl,rfl,hall,hw5,hf5⟩:=hrel;by_cases hil:i<f.length
    · have hi0:(0:Int)≤(i:Int):=by omega
      have hi1:(i:Int)<(f.length:Int):=by omega
      have hwi:IntKind.i64.wrap ((i:Int)+1)=(i:Int)+1:=IntWalk.i64_in _ (by omega);obtain ⟨x,hx⟩:∃ x,f[i]?=some x:=⟨f[i],List.getElem?_eq_getElem hil⟩;have hfx:f.getD i In.zero=x:=by rw [List.getD_eq_getElem?_getD,hx];rfl
      obtain ⟨hok1,hok2⟩:=HH.out.2.1.ok i x hx;clear hok2;obtain ⟨ib,iof,la,lc,eio,i0',i1',i2',i3',i4',i5'⟩:=HH.out.1 i x hx;subst eio;have y0:=hf5.cell i0'.2 id;have y1:=hf5.cell i1'.2 id;have y2:=hf5.cell i2'.2 id;have y3:=hf5.cell i3'.2 id;have y4:=hf5.cell i4'.2 id;have hibl:=World.block_lt_of_cell? wr _ y0;have hrd:=Lib.hid fun w2=>rreads_c w2 x la lc;have hrl:=reads_len x;have HX:=Lib.hid (And.intro hall (And.intro hw5 (And.intro hf5 (And.intro hfx hok1))));clear hall hw5 hf5 hfx hok1 hx i0' i1' i2' i3' i4' i5';obtain ⟨rs,hrs⟩:∃ rs,rs=readsS x:=⟨_,rfl⟩;obtain ⟨xop,xa,xb,xc,xl⟩:=x;simp only at y0 y1 y2 y3 y4 hrd;rw [← hrs] at hrd hrl;have HRS:=Lib.hid hrs;clear hrs;go_wp2_with fail
      refine (hrd.out _).mono ?_;rintro e1 w1 ⟨v,rfl,ho1,hf1⟩;obtain ⟨rao,rcap,rfl,hz1,hz2,hrp,hz3⟩:=ho1.form;clear hz1 hz2 hz3 hrd y0 y1 y2 y3 y4;have hf1':=HX.out.2.2.1.trans hf1;have H1:=Lib.hid (And.intro ho1 (And.intro (HX.out.2.1.non hf1) (And.intro hf1' hrp)));clear ho1 hf1 hf1' hrp;go_wp2_with fail
      have hSl:i<S.length:=by rw [HC.out.2.1.len];exact hil
      go_loopg [18] rs.length (fun q v18 wq=>∃ t:Nat,t≤rs.length∧q=rs.length - t∧v18=.int .i64 t∧(∀ u,u<t→∀ n,rs[u]?=some n→∀ l,S[i]?=some (some l)→l.getD n.toNat false=true)∧Fr Non w1 wq)
      case atStart=>exact ⟨0,Nat.zero_le _,rfl,rfl,fun t ht=>(by omega),Fr.refl _ _⟩
      case round =>
       obtain ⟨t,ht,rfl,rfl,hall2,hf2⟩:=hrel;have ht0:(0:Int)≤(t:Int):=by omega
       have hw6:=H1.out.2.1.non hf2;have hmet:=hw6.at_none hSl;have hml:=hw6.rm.lt;by_cases htl:t<rs.length
       · have ht1:(t:Int)<(rs.length:Int):=by omega
         cases hS:S.getD i none with
         | none =>
          rw [hS] at hmet;simp only [Option.isSome_none] at hmet;have HS:=Lib.hid (And.intro hS (And.intro hw6 hf2));clear hS hw6 hf2 hall2;go_wp2_with fail
          go_roundg (f.length - (i+1))
          case measure=>omega
          case rel =>
           refine ⟨i+1,by omega,rfl,by simp,fun u hu=>?_,HS.out.2.1,H1.out.2.2.1.trans HS.out.2.2⟩;rcases Nat.lt_succ_iff_lt_or_eq.1 hu with h|rfl
           · exact HX.out.1 u h
           · intro l hl;have:=HS.out.1;rw [List.getD_eq_getElem?_getD,hl] at this;cases this
         | some l =>
          rw [hS] at hmet;simp only [Option.isSome_some] at hmet;have e1:S[i]?=some (some l):=by rw [List.getD_eq_getElem?_getD,List.getElem?_eq_getElem hSl] at hS;rw [List.getElem?_eq_getElem hSl];exact congrArg some hS
          obtain ⟨g,cap,hv,ho,hgm,hgb⟩:=hw6.row i l e1;have hl16:l.length=16:=by have:=ho.length;simpa [bools] using this
          obtain ⟨rg,rfl⟩:=H1.out.2.2.2 (by omega);have hget:=List.getElem?_eq_getElem htl;have hcr:=(H1.out.1.fr hf2 (fun _ _=>id)).cell rfl (show (ints rs)[t]?=some (.int .i64 rs[t]) by unfold ints;rw [List.getElem?_map,hget];rfl);have hrr:0≤rs[t]∧rs[t]<16:=HX.out.2.2.2.2 _ (by rw [← HRS.out];exact List.getElem_mem htl);generalize rs[t]=rn at *;obtain ⟨rm,rfl⟩:=Int.eq_ofNat_of_zero_le hrr.1;have hrm0:(0:Int)≤(rm:Int):=by omega
          have hrm1:(rm:Int)<16:=hrr.2;have hrm2:rm<16:=by omega
          have hca:=hw6.ra.cell hv;have ql:l[rm]?=some (l.getD rm false):=by rw [List.getD_eq_getElem?_getD,List.getElem?_eq_getElem (by omega)];rfl
          have hcl:=ho.cell rfl (bools_get ql);have k5:=hw6.ra.lt;have k6:=ho.lt (g:=g) rfl;have HS:=Lib.hid (And.intro e1 (And.intro hw6 (And.intro hf2 (And.intro hall2 hget))));clear e1 hw6 hf2 hall2 hget ho hv hgm hgb hS ql hl16;have hwt:IntKind.i64.wrap ((t:Int)+1)=(t:Int)+1:=IntWalk.i64_in _ (by omega);cases hb:l.getD rm false with
          | true =>
           rw [hb] at hcl;have HB:=Lib.hid hb;clear hb;go_wp2_with fail
           go_quiet (fail)
           go_wp2_with fail
           go_roundg (rs.length - (t+1))
           case measure=>omega
           case rel =>
            refine ⟨t+1,by omega,rfl,by simp,fun u hu n hn l' hl'=>?_,by exact HS.out.2.2.1.drewN _⟩;rcases Nat.lt_succ_iff_lt_or_eq.1 hu with h|rfl
            · exact HS.out.2.2.2.1 u h n hn l' hl'
            · rw [HS.out.2.2.2.2] at hn;cases hn
              rw [HS.out.1] at hl';cases hl'
              rw [Int.toNat_natCast];exact HB.out
          | false =>
           rw [hb] at hcl;have HB:=Lib.hid hb;clear hb;go_wp2_with fail
           go_quiet (fail)
           go_wp2_with fail
           go_ret
           refine ⟨?_,(H1.out.2.2.1.trans HS.out.2.2.1).drewN _⟩
           have hns:¬ waysS f kind=true:=fun hsafe=>by
            have:=(good_law HH.out.2.1 HC.out.2.1 HC.out.2.2.1).2 ((ways_safe HH.out.2.1 kind).1 hsafe) i hil l HS.out.1 (rm:Int) (by rw [HX.out.2.2.2.1,← HRS.out];exact List.mem_of_getElem? HS.out.2.2.2.2);rw [Int.toNat_natCast,HB.out] at this;cases this
           have hRf:R=false:=by rw [HH.out.2.2.1];simpa using hns
           rw [hRf]
           rfl
       · have htt:t=rs.length:=by omega
         subst htt;have hnlt:¬ ((rs.length:Int)<(rs.length:Int)):=by omega
         have HS:=Lib.hid (And.intro hw6 (And.intro hf2 hall2));clear hw6 hf2 hall2 hmet hml;go_wp2_with fail
         go_roundg (f.length - (i+1))
         case measure=>omega
         case rel =>
          refine ⟨i+1,by omega,rfl,by simp,fun u hu=>?_,HS.out.1,H1.out.2.2.1.trans HS.out.2.1⟩;rcases Nat.lt_succ_iff_lt_or_eq.1 hu with h|rfl
          · exact HX.out.1 u h
          · intro l hl n hn;rw [HX.out.2.2.2.1,← HRS.out] at hn;obtain ⟨q,hq,rfl⟩:=List.getElem_of_mem hn;exact HS.out.2.2 q hq _ (List.getElem?_eq_getElem hq) l hl
    · have hii:i=f.length:=by omega
      subst hii;have hnlt:¬ ((f.length:Int)<(f.length:Int)):=by omega
      have hRt:R=true:=by rw [HH.out.2.2.1];exact (ways_safe HH.out.2.1 kind).2 ((good_law HH.out.2.1 HC.out.2.1 HC.out.2.2.1).1 hall)
      have HE:=Lib.hid (And.intro hRt hf5);clear hall hw5 hf5 hRt;go_wp2_with fail
      go_ret
      exact ⟨by rw [HE.out.1];rfl,HE.out.2⟩
  | true =>
   have HC:=Lib.hid (And.intro hw (And.intro hmk (And.intro hk hfr)));clear hw hmk hcl hfr hk;go_wp2_with fail
   go_loopg [7,8] f.length (fun q v7 v8 wq=>∃ (i:Nat) (V':List Value) (S':List Mk) (c':Bool),i≤f.length∧q=f.length - i∧v8=.int .i64 i∧v7=.bool c'∧(List.range i).foldl (rowF f) (S,false)=(S',c')∧WM ab wq ab mb V' S'∧Fr Non w wq)
   case atStart=>exact ⟨0,_,_,_,Nat.zero_le _,rfl,rfl,rfl,rfl,HC.out.1,HC.out.2.2.2⟩
   case round =>
    obtain ⟨i,V',S',c',hi,rfl,rfl,rfl,heq,hw',hfq⟩:=hrel
    have hmk':MarkM f kind S':=by
     have:=(rows_law HH.out.2.1 (List.range i) S false (fun k hk=>by have:=List.mem_range.1 hk;omega) HC.out.2.1).1
     rwa [heq] at this
    by_cases hil:i<f.length
    · have hi0:(0:Int)≤(i:Int):=by omega
      have hi1:(i:Int)<(f.length:Int):=by omega
      have hwi:IntKind.i64.wrap ((i:Int)+1)=(i:Int)+1:=IntWalk.i64_in _ (by omega);have hSl:i<S'.length:=by rw [hmk'.len];exact hil
      have hnext:(List.range (i+1)).foldl (rowF f) (S,false)=rowF f (S',c') i:=by rw [List.range_succ,List.foldl_append,heq];rfl
      have hmet:=hw'.at_none hSl;cases hS:S'.getD i none with
      | none =>
       rw [hS] at hmet;simp only [Option.isSome_none] at hmet;have hrow:rowF f (S',c') i=(S',c'):=by unfold rowF;simp only [hS]
       have HX:=Lib.hid (And.intro hw' (And.intro hfq (hnext.trans hrow)));clear hw' hfq hnext hrow heq hmk' hS;go_wp2_with fail
       go_roundg (f.length - (i+1))
       case measure=>omega
       case rel=>exact ⟨i+1,_,_,_,by omega,rfl,by simp,rfl,HX.out.2.2,HX.out.1,HX.out.2.1⟩
      | some l =>
       rw [hS] at hmet;simp only [Option.isSome_some] at hmet;have e1:S'[i]?=some (some l):=by rw [List.getD_eq_getElem?_getD,List.getElem?_eq_getElem hSl] at hS;rw [List.getElem?_eq_getElem hSl];exact congrArg some hS
       obtain ⟨hl16,hpr⟩:=hmk'.ok i l e1;have hrow:rowF f (S',c') i=(nextS (f.getD i In.zero) i).foldl (labF (outF (f.getD i In.zero) l)) (S',c'):=by unfold rowF;simp only [hS]
       obtain ⟨x,hx⟩:∃ x,f[i]?=some x:=⟨f[i],List.getElem?_eq_getElem hil⟩;have hfx:f.getD i In.zero=x:=by rw [List.getD_eq_getElem?_getD,hx];rfl
       obtain ⟨hok1,hok2,hok3,hok4,hok5⟩:=HH.out.2.1.ok i x hx;obtain ⟨ib,iof,la,lc,eio,y0,y1,y2,y3,y4,y5⟩:=HH.out.1 i x hx;subst eio;have HY:=Lib.hid (And.intro y0 (And.intro y1 (And.intro y2 (And.intro y3 y4))));have y0:=hfq.cell y0.2 id;have y1:=hfq.cell y1.2 id;have y2:=hfq.cell y2.2 id;have y3:=hfq.cell y3.2 id;have y4:=hfq.cell y4.2 id;have hibl:=World.block_lt_of_cell? wr _ y0;obtain ⟨g,cap,hv,ho,hgm,hgb⟩:=hw'.row i l e1;have hcat:=hw'.ra.cell hv;obtain ⟨ox,oc,w1,hrun1,ho1,hf1,hg1⟩:=own_app (P:=Tryz.prog) (Own.nil wr 4 1) 64 j0 _ 1 Tryz.underlying64 hj0 hj1 hj2 hj3 rfl (by omega) (some ⟨g,0,none⟩) 16 cap (bools l) (by simp [bools,hl16]) (fun _=>⟨g,0,rfl,fun j u hu=>by rw [Nat.zero_add];exact ho.cell rfl hu⟩) (bools_one l) (by omega) (by unfold maxLen;omega);have hf1':Fr Non wr w1:=hf1.mono fun b hb e=>by cases e
       obtain ⟨oxx,occ,eox,hz1,hz2,hox,hz3⟩:=ho1.form;clear hz1 hz2 hz3;cases eox
       obtain ⟨og,rfl⟩:=hox (by omega);have hog:wr.heap.size≤og:=by rcases hg1 og rfl with e|e;exact (by cases e);exact e
       have hogl:=ho1.lt (g:=og) rfl;have hap:Apart V' S' mb og:=hw'.fresh hog;rw [List.nil_append] at ho1;simp only [Nat.zero_add] at hrun1 ho1;have hob:ab≤og:=by have:=hfq.size;have:=HAB.out.1;omega
       have hnx:=row_pr HH.out.2.1 hil hl16 hpr;rw [hfx] at hnx hrow;have y0:=hf1'.cell y0 id;have y1:=hf1'.cell y1 id;have y2:=hf1'.cell y2 id;have y3:=hf1'.cell y3 id;have y4:=hf1'.cell y4 id;have HX:=Lib.hid (And.intro (hw'.non hf1') (And.intro (hfq.trans hf1') (And.intro (hnext.trans hrow) (And.intro ho1 (And.intro hap (And.intro hok2 (And.intro hok3 (And.intro hok4 (And.intro hok5 (And.intro y5 (And.intro hx hmk')))))))))));have HL16:=Lib.hid hl16;clear hw' hfq hnext hrow heq hmk' hS e1 hpr hfx hok1 hok2 hok3 hok4 hok5 y5 ho hgm hgb hv ho1 hf1 hf1' hg1 hox hap hnx hx hl16;have hw2:=Lib.hid fun w2=>rwrites_c w2 x la lc;have hfl:=Lib.hid fun w2=>rfalls_c w2 x la lc;obtain ⟨xop,xa,xb,xc,xl⟩:=x;simp only at y0 y1 y2 y3 y4 hw2 hfl;go_wp2_with (at_builtin;refine wpList_app rfl (.tmp 48) (.tmp 52) _ rfl rfl rfl _ rfl hrun1 ?_)
       clear hrun1 hcat hmet;refine (hw2.out _).mono ?_;rintro e2 w2 ⟨rfl,hf2⟩;clear hw2;have hoF:outF ⟨xop,xa,xb,xc,xl⟩ l=if (writesS ⟨xop,xa,xb,xc,xl⟩).2 then l.set (writesS ⟨xop,xa,xb,xc,xl⟩).1.toNat true else l:=rfl
       obtain ⟨o,hoo⟩:∃ o,o=outF ⟨xop,xa,xb,xc,xl⟩ l:=⟨_,rfl⟩;rw [← hoo] at hoF HX;have ho16:o.length=16:=by rw [hoo];exact outF_len HL16.out
       have HO16:=Lib.hid ho16;clear ho16 hoo;generalize writesS ⟨xop,xa,xb,xc,xl⟩=ws at *;obtain ⟨wi,wb⟩:=ws;simp only at hoF;clear y0 y1 y2 y3 y4;have hwm:=HX.out.1.non hf2;have hfm:=HX.out.2.1.trans hf2;have hom:=HX.out.2.2.2.1.fr hf2 (fun _ _=>id);have hogl2:=hom.lt (g:=og) rfl;have y0:=hfm.cell HY.out.1.2 id;have y1:=hfm.cell HY.out.2.1.2 id;have y2:=hfm.cell HY.out.2.2.1.2 id;have y3:=hfm.cell HY.out.2.2.2.1.2 id;have y4:=hfm.cell HY.out.2.2.2.2.2 id;have HM:=Lib.hid (And.intro hwm (And.intro hfm hom));have HOF:=Lib.hid hoF;clear hf2 hoF y0 y1 y2 y3 y4
       go_upto_if 62 with fail
       go_cut [] from 37 to 130 (fun wx=>WM ab wx ab mb V' S'∧Fr Non w wx∧Own wx (.slice (some ⟨og,0,none⟩) 16 oc) 4 1 16 (bools o))
       case first =>
        cases wb with
        | true =>
         obtain ⟨wm,rfl⟩:=Int.eq_ofNat_of_zero_le (HX.out.2.2.2.2.2.1 rfl).1;have hwm16:=(HX.out.2.2.2.2.2.1 rfl).2;have hwm0:(0:Int)≤(wm:Int):=by omega
         have hwm1:wm<16:=by omega
         have hoF:=HOF.out;rw [if_pos rfl,Int.toNat_natCast] at hoF;have hcw:=hom.cell rfl (bools_get (show l[wm]?=some (l[wm]'(by rw [HL16.out];exact hwm1)) from List.getElem?_eq_getElem _));have hcz:=hom.frozen;clear hwm hfm hom;generalize (l[wm]'(by rw [HL16.out];exact hwm1))=lb at *;have HOS:=Lib.hid hoF;clear hoF;go_wp2_with fail
         go_meet
         have hog3:ab≠og:=fun e=>by
          have h3:=HM.out.2.2;rw [← e] at h3;exact h3.ne HM.out.1.ra (by decide) rfl
         refine ⟨HM.out.1.fr (Fr.set1 _ og _ _) (fun b e _=>by subst e;exact ⟨hog3.symm,HX.out.2.2.2.2.1⟩),HM.out.2.1.set_new (by have:=HAB.out.1;omega),?_⟩;rw [HOS.out,bools_set];exact HM.out.2.2.set1 _ _
        | false =>
         have hoF:=HOF.out;rw [if_neg (by simp)] at hoF;have HOS:=Lib.hid hoF;clear hwm hfm hom hoF;go_wp2_with fail
         go_meet
         exact ⟨HM.out.1,HM.out.2.1,by rw [HOS.out];exact HM.out.2.2⟩
       case rest =>
        have HM3:=Lib.hid hcut;clear hcut hwm hfm hom;have y0:=HM3.out.2.1.cell HY.out.1.2 id;have y1:=HM3.out.2.1.cell HY.out.2.1.2 id;have y2:=HM3.out.2.1.cell HY.out.2.2.1.2 id;have y3:=HM3.out.2.1.cell HY.out.2.2.2.1.2 id;have y4:=HM3.out.2.1.cell HY.out.2.2.2.2.2 id;have hibc:=World.block_lt_of_cell? _ _ y0;obtain ⟨nxa,nxc,w4,hrun2,ho4,hf4,hg4⟩:=own_app (P:=Tryz.prog) (Own.nil wc 3 1) 36 q0 _ 8 Tryz.underlying36 hq0 hq1 hq2 hq3 rfl (by omega) la xl.length lc (ints xl) (by simp [ints]) (ints_src HX.out.2.2.2.2.2.2.2.2.2.1 HM3.out.2.1) (ints_one' xl) (by have:=HX.out.2.2.2.2.2.2.2.2.1;omega) (by have:=HX.out.2.2.2.2.2.2.2.2.1;unfold maxLen;omega);have hf4':Fr Non wc w4:=hf4.mono fun b hb e=>by cases e
        simp only [Nat.zero_add] at hrun2 ho4 hg4;rw [List.nil_append] at ho4
        have HLOW:=Lib.hid (show ∀ g,(Value.slice nxa xl.length nxc).ownBlock=some g→g≠ab∧Apart V' S' mb g∧g≠og∧w.heap.size≤g from fun g hg=>by
         have h1:wc.heap.size≤g:=(hg4 g hg).elim (fun e=>by cases e) id;have h2:=HM3.out.1.ra.lt;have h3:=HM3.out.2.2.lt (g:=og) rfl;have h4:=HM3.out.2.1.size
         exact ⟨by omega,HM3.out.1.fresh h1,by omega,by omega⟩)
        have z0:=hf4'.cell y0 id;have z1:=hf4'.cell y1 id;have z2:=hf4'.cell y2 id;have z3:=hf4'.cell y3 id;have z4:=hf4'.cell y4 id;have H4:=Lib.hid (And.intro (HM3.out.1.non hf4') (And.intro (HM3.out.2.1.trans hf4') (And.intro (HM3.out.2.2.fr hf4' (fun _ _=>id)) ho4)));clear hf4 hf4' ho4 hg4;go_wp2_with (at_builtin;refine wpList_app rfl (.tmp 66) (.tmp 71) _ rfl rfl rfl _ rfl hrun2 ?_)
        clear hrun2 y0 y1 y2 y3 y4;refine (hfl.out _).mono ?_;rintro e3 w5 ⟨rfl,hf5⟩;clear z0 z1 z2 z3 z4;have H5:=Lib.hid (And.intro (H4.out.1.non hf5) (And.intro (H4.out.2.1.trans hf5) (And.intro (H4.out.2.2.1.fr hf5 (fun _ _=>id)) (H4.out.2.2.2.fr hf5 (fun _ _=>id)))));clear hf5;have hnxS:nextS ⟨xop,xa,xb,xc,xl⟩ (i:Int)=if fallsS xop then xl ++ [(i:Int)+1] else xl:=rfl
        have hok3:=HX.out.2.2.2.2.2.2.1;have hok4:=HX.out.2.2.2.2.2.2.2.1;have hxn:=HX.out.2.2.2.2.2.2.2.2.1;obtain ⟨nx,hnx⟩:∃ nx,nx=nextS ⟨xop,xa,xb,xc,xl⟩ (i:Int):=⟨_,rfl⟩;rw [← hnx] at HX hnxS;clear hnx;have HNX:=Lib.hid (And.intro hnxS (And.intro hok3 (And.intro hok4 hxn)));clear hnxS hok3 hok4 hxn
        go_upto_if 77 with fail
        go_cut [12] from 37 to 130 (fun s12 wx=>∃ (nya:Option Addr) (nyc nl:Nat),s12=.slice nya nl nyc∧WM ab wx ab mb V' S'∧Fr Non w wx∧Own wx (.slice (some ⟨og,0,none⟩) 16 oc) 4 1 16 (bools o)∧Own wx (.slice nya nl nyc) 3 1 nl (ints nx)∧nx.length=nl∧(∀ a∈nx,0≤a∧a<(f.length:Int))∧nl≤17592186043905)
        case first =>
         cases hfx:fallsS xop with
         | true =>
          have hfold:=HNX.out.1;rw [hfx,if_pos rfl] at hfold;have hxn:=HNX.out.2.2.2;have hi2:=HNX.out.2.2.1 hfx;obtain ⟨nya,nyc,w6,hrun3,ho6,hf6,hg6⟩:=own_app (P:=Tryz.prog) (w:=w5.alloc (.cells #[.int .i64 ((i:Int)+1)] 3)) (H5.out.2.2.2.fr ((Fr.refl Non w5).alloc _) (fun _ _ h=>h)) 36 q0 _ 8 Tryz.underlying36 hq0 hq1 hq2 hq3 rfl (by omega) (some ⟨w5.heap.size,0,none⟩) 1 1 [.int .i64 ((i:Int)+1)] rfl (fun _=>⟨_,0,rfl,(by exact (Row.new' rfl).news)⟩) (fun u hu=>by simp at hu;subst hu;rfl) (by omega) (by unfold maxLen;omega);have hf56:Fr (fun x=>(Value.slice nxa xl.length nxc).ownBlock=some x) w5 w6:=Fr.then (by exact ((Fr.refl _ w5).alloc _)) hf6 (fun x _ h=>h);have hnl:nx.length=xl.length+1:=by rw [hfold];simp
          have hnr:∀ a∈nx,0≤a∧a<(f.length:Int):=by
           rw [hfold];intro a ha;rcases List.mem_append.1 ha with ha|ha
           · exact HNX.out.2.1 a ha
           · simp at ha;subst ha;omega
          have hie:ints xl ++ [Value.int .i64 ((i:Int)+1)]=ints nx:=by rw [hfold];simp [ints]
          rw [hie] at ho6;have HZ:=Lib.hid (And.intro (H5.out.1.fr hf56 (fun b hb _=>⟨(HLOW.out b hb).1,(HLOW.out b hb).2.1⟩)) (And.intro (H5.out.2.1.then hf56 (fun x hx e=>by have:=(HLOW.out x e).2.2.2;omega)) (And.intro (H5.out.2.2.1.fr hf56 (fun g' hg' e=>by cases hg';exact (HLOW.out _ e).2.2.1 rfl)) (And.intro ho6 (And.intro hnl (And.intro hnr (show xl.length+1≤17592186043905 by omega)))))));clear ho6 hf6 hg6 hf56 hnl hnr hie hfold hxn;go_wp2_with (at_builtin;refine wpList_app rfl (.tmp 78) (.tmp 81) _ rfl rfl rfl _ rfl hrun3 ?_)
          go_meet
          exact ⟨_,_,_,rfl,HZ.out⟩
         | false =>
          have hfold:=HNX.out.1;rw [hfx,if_neg (by simp)] at hfold;have HF:=Lib.hid hfold;clear hfold;go_wp2_with fail
          go_meet
          exact ⟨_,_,_,rfl,H5.out.1,H5.out.2.1,H5.out.2.2.1,by rw [HF.out];exact H5.out.2.2.2,by rw [HF.out],by rw [HF.out];exact HNX.out.2.1,by have:=HNX.out.2.2.2;omega⟩
        case rest =>
         obtain ⟨nya,nyc,nl,rfl,hz1,hz2,hz3,hz4,hz5,hz6,hz7⟩:=hcut;have HZ:=Lib.hid (And.intro hz1 (And.intro hz2 (And.intro hz3 (And.intro hz4 (And.intro hz5 (And.intro hz6 (And.intro HX.out.2.2.1 hz7)))))));clear hz1 hz2 hz3 hz4 hz5 hz6 hz7;go_wp2_with fail
         go_loopg [7,13] nl (fun q v7 v13 wq=>∃ (j:Nat) (V2:List Value) (S2:List Mk) (c2:Bool),j≤nl∧q=nl - j∧v13=.int .i64 j∧v7=.bool c2∧(nx.take j).foldl (labF o) (S',c')=(S2,c2)∧WM ab wq ab mb V2 S2∧Own wq (.slice (some ⟨og,0,none⟩) 16 oc) 4 1 16 (bools o)∧Apart V2 S2 mb og∧Own wq (.slice nya nl nyc) 3 1 nl (ints nx)∧Fr Non w wq)
         case atStart=>exact ⟨0,_,_,_,Nat.zero_le _,rfl,rfl,rfl,rfl,HZ.out.1,HZ.out.2.2.1,HX.out.2.2.2.2.1,HZ.out.2.2.2.1,HZ.out.2.1⟩
         case round =>
          obtain ⟨j,V2,S2,c2,hj,rfl,rfl,rfl,heq2,hwj,hoj,hapj,hnj,hfj⟩:=hrel;have hnl:=HZ.out.2.2.2.2.1;by_cases hjl:j<nl
          · have hjz0:(0:Int)≤(j:Int):=by omega
            have hjz1:(j:Int)<(nl:Int):=by omega
            have hwj1:IntKind.i64.wrap ((j:Int)+1)=(j:Int)+1:=IntWalk.i64_in _ (by have:=HZ.out.2.2.2.2.2.2.2;omega);have hjx:j<nx.length:=by omega
            have hget:=List.getElem?_eq_getElem hjx;have hstep:(nx.take (j+1)).foldl (labF o) (S',c')=labF o (S2,c2) nx[j]:=by rw [List.take_succ_eq_append_getElem hjx,List.foldl_append,heq2];rfl
            have hmr:=HZ.out.2.2.2.2.2.1 _ (List.getElem_mem hjx)
            have hS2l:S2.length=f.length:=by
             have:=labs_len o (nx.take j) (S',c');rw [heq2] at this;exact this.trans HX.out.2.2.2.2.2.2.2.2.2.2.2.len
            obtain ⟨na,nc,ena,hz1,hz2,hng,hz3⟩:=hnj.form;clear hz1 hz2 hz3;cases ena
            obtain ⟨ng,rfl⟩:=hng (by omega);have hcn:=hnj.cell rfl (show (ints nx)[j]?=some (.int .i64 nx[j]) by unfold ints;rw [List.getElem?_map,hget];rfl);generalize nx[j]=mI at *;obtain ⟨mm,rfl⟩:=Int.eq_ofNat_of_zero_le hmr.1;have hmm:mm<S2.length:=by rw [hS2l];omega
            have hm0:(0:Int)≤(mm:Int):=by omega
            have hm1:(mm:Int)<(f.length:Int):=hmr.2;have hm2:mm<f.length:=by omega
            have hmet:=hwj.at_none hmm;have hfz:=hwj.rm.frozen;have hfy:=hwj.ra.frozen;have hvl:mm<V2.length:=by rw [hwj.len];exact hmm
            have hcv:=hwj.ra.cell (List.getElem?_eq_getElem hvl);have habl:=hwj.ra.lt;have hmbl:=hwj.rm.lt;have hogj:=hoj.lt (g:=og) rfl;have hablm:=hwj.ne;cases hS:S2.getD mm none with
            | none =>
             rw [hS] at hmet;simp only [Option.isSome_none] at hmet;have e0:S2[mm]?=some none:=by rw [List.getD_eq_getElem?_getD,List.getElem?_eq_getElem hmm] at hS;rw [List.getElem?_eq_getElem hmm];exact congrArg some hS
             have hlab:labF o (S2,c2) (mm:Int)=(S2.set mm (some o),true):=by unfold labF;simp only [Int.toNat_natCast,hS]
             rw [hlab] at hstep;obtain ⟨W1,hW1⟩:∃ W1,W1=(wr.setCell ⟨mb,mm,none⟩ (.bool true)):=⟨_,rfl⟩;have hf1:Fr (fun x=>x=mb) wr W1:=by rw [hW1];exact Fr.set1 _ _ _ _
             have hrm1:Row W1 mb 4 ((S2.map fun o=>Value.bool o.isSome).set mm (.bool true)):=by rw [hW1];exact hwj.rm.set_same mm _
             have hs1:=hf1.size;have ho1:=hoj.fr hf1 (fun g' hg' e=>by cases hg';exact hapj.1 e);have e1:Own (W1.alloc (.cells #[] 4)) (.slice (some ⟨W1.heap.size,0,none⟩) 0 0) 4 1 0 []:=Own.mk (Row.new' rfl) (k:=1) (len:=0) (cap:=0) rfl (Nat.le_refl _) (by unfold maxLen;omega);have hs0:wr.heap.size=W1.heap.size:=by rw [hW1];simp
             obtain ⟨zx,zc,W2,hrun7,ho7,hf7,hg7⟩:=own_app (P:=Tryz.prog) e1 64 j0 _ 1 Tryz.underlying64 hj0 hj1 hj2 hj3 rfl (by omega) (some ⟨og,0,none⟩) 16 oc (bools o) (by simp [bools,HO16.out]) (fun _=>⟨og,0,rfl,fun q u hu=>by rw [Nat.zero_add];exact (ho1.fr ((Fr.refl Non W1).alloc _) (fun _ _=>id)).cell rfl hu⟩) (bools_one o) (by omega) (by unfold maxLen;omega);have hf17:Fr Non W1 W2:=Fr.then (by exact (Fr.refl Non W1).alloc _) hf7 (fun x hx e=>by simp [Value.ownBlock] at e;omega);obtain ⟨zxx,zcc,ezx,hz1,hz2,hzg,hz3⟩:=ho7.form;clear hz1 hz2 hz3;cases ezx
             obtain ⟨zg,rfl⟩:=hzg (by omega)
             have hzn:wr.heap.size≤zg:=by
              have hal:(W1.alloc (.cells #[] 4)).heap.size=W1.heap.size+1:=by simp
              rcases hg7 zg rfl with e|e
              · simp [Value.ownBlock] at e;omega
              · omega
             rw [List.nil_append] at ho7;simp only [Nat.zero_add] at hrun7 ho7;obtain ⟨W3,hW3⟩:∃ W3,W3=W2.setCell ⟨ab,mm,none⟩ (.slice (some ⟨zg,0,none⟩) 16 zc):=⟨_,rfl⟩;have hf23:Fr (fun x=>x=ab) W2 W3:=by rw [hW3];exact Fr.set1 _ _ _ _
             have hf12:Fr (fun x=>x=ab∨x=mb) wr W2:=(hf1.mono fun _ _ e=>Or.inr e).then hf17 (fun _ _ e=>e.elim);have hf13:Fr (fun x=>x=ab∨x=mb) wr W3:=hf12.then hf23 (fun _ _ e=>Or.inl e);have hra2:Row W2 ab 64 V2:=hf17.row (hf1.row hwj.ra (fun e=>hwj.ne e)) id;have hra3:Row W3 ab 64 (V2.set mm (.slice (some ⟨zg,0,none⟩) 16 zc)):=by rw [hW3];exact hra2.set_same mm _
             have hrm3:=hf23.row (hf17.row hrm1 id) (fun e=>hwj.ne e.symm);have hba:=hwj.ba;have habw:=HAB.out.1;have habw2:=HAB.out.2;have hfj3:Fr Non w W3:=hfj.then hf13 (fun x hx e=>by rcases e with e|e <;> omega);have hzab:zg≠ab:=by omega
             have ho3:Own W3 (.slice (some ⟨zg,0,none⟩) 16 zc) 4 1 16 (bools o):=ho7.fr hf23 (fun g' hg' e=>by cases hg';exact hzab e);have hogab:og≠ab:=fun e=>hoj.ne hwj.ra (by decide) (congrArg some e);have hwm3:=hwj.put hf13 hra3 hrm3 ho3 (hwj.fresh hzn) (by omega) e0;have hog3:=hoj.fr hf13 (fun g' hg' e=>by cases hg';exact e.elim hogab hapj.1)
             have hn3:=hnj.fr hf13 (fun g' hg' e=>by
              cases hg'
              rcases e with e|e
              · exact hnj.ne hwj.ra (by decide) (congrArg some e)
              · exact hnj.ne hwj.rm (by decide) (congrArg some e))
             have hap3:Apart (V2.set mm (.slice (some ⟨zg,0,none⟩) 16 zc)) (S2.set mm (some o)) mb og:=hapj.put hmm hvl (by omega);have HE:=Lib.hid (And.intro hstep (And.intro hwm3 (And.intro hog3 (And.intro hap3 (And.intro hn3 hfj3)))));have hca2:=hra2.cell (List.getElem?_eq_getElem hvl);have hfz2:=hra2.frozen;have hab2:=hra2.lt;rw [hW3] at HE;rw [← hs0] at hrun7;rw [hW1] at hrun7;clear hstep hwm3 hog3 hap3 hn3 hfj3 hrm3 hra3 hra2 hf12 hf13 hf23 hf17 hf7 hg7 ho7 ho3 hf1 hrm1 hs1 ho1 e1 hs0 hzab hogab hzn hW3 W3 heq2 hwj hoj hapj hnj hfj hget hmr hS hlab e0 hba habw habw2 hW1;go_wp2_with (at_builtin;refine wpList_app rfl (.tmp 103) (.tmp 104) _ rfl rfl rfl _ rfl hrun7 ?_)
             go_roundg (nl - (j+1))
             case measure=>omega
             case rel =>
              obtain ⟨hstep,hwm3,hog3,hap3,hn3,hfj3⟩:=HE.out;exact ⟨j+1,_,_,_,by omega,rfl,by simp,rfl,hstep,hwm3,hog3,hap3,hn3,hfj3⟩
            | some l2 =>
             rw [hS] at hmet;simp only [Option.isSome_some] at hmet;have e0:S2[mm]?=some (some l2):=by rw [List.getD_eq_getElem?_getD,List.getElem?_eq_getElem hmm] at hS;rw [List.getElem?_eq_getElem hmm];exact congrArg some hS
             have hlab:labF o (S2,c2) (mm:Int)=(S2.set mm (some (meetB l2 o)),c2 || decide (meetB l2 o≠l2)):=by unfold labF;simp only [Int.toNat_natCast,hS]
             rw [hlab] at hstep;obtain ⟨gm,cm,hvm,hom',hgmm,hgmb⟩:=hwj.row mm l2 e0;have hl2:l2.length=16:=by have:=hom'.length;simpa [bools] using this
             have hoo16:=HO16.out;have hab1:=HAB.out.1;have HJ:=Lib.hid (And.intro hstep (And.intro hwj (And.intro hoj (And.intro hapj (And.intro hnj (And.intro hfj (And.intro e0 (And.intro hvm (And.intro hl2 (And.intro hgmb hab1))))))))));clear hstep hwj hoj hapj hnj hfj e0 hvm hl2 hgmb hab1 hgmm hom' hlab hS hget hmr heq2 hoo16 hcv hfz hfy;go_wp2_with fail
             go_loopg [7,15] 16 (fun q v7 v15 wq=>∃ (r:Nat) (l3:List Bool) (c3:Bool),r≤16∧q=16 - r∧v15=.int .i64 r∧v7=.bool c3∧Mid l2 o l3 r∧c3=(c2 || decide (l3≠l2))∧WM ab wq ab mb V2 (S2.set mm (some l3))∧Own wq (.slice (some ⟨og,0,none⟩) 16 oc) 4 1 16 (bools o)∧Own wq (.slice (some ⟨ng,0,none⟩) nl nyc) 3 1 nl (ints nx)∧Fr Non w wq)
             case atStart=>exact ⟨0,l2,c2,Nat.zero_le _,rfl,rfl,rfl,mid_zero HJ.out.2.2.2.2.2.2.2.2.1,by simp,by rw [set_self HJ.out.2.2.2.2.2.2.1];exact HJ.out.2.1,HJ.out.2.2.1,HJ.out.2.2.2.2.1,HJ.out.2.2.2.2.2.1⟩
             case round =>
              obtain ⟨r,l3,c3,hr,rfl,rfl,rfl,hmid,hc3,hwr,hor,hnr,hfr⟩:=hrel;by_cases hrl:r<16
              · have hr0:(0:Int)≤(r:Int):=by omega
                have hr1:(r:Int)<16:=by omega
                have hwr1:IntKind.i64.wrap ((r:Int)+1)=(r:Int)+1:=IntWalk.i64_in _ (by omega);have e3:(S2.set mm (some l3))[mm]?=some (some l3):=by rw [List.getElem?_set,if_pos rfl,if_pos hmm]
                obtain ⟨gx,cx,hvx,hox,hgx1,hgx2⟩:=hwr.row mm l3 e3;have hvm:=HJ.out.2.2.2.2.2.2.2.1;rw [hvx] at hvm
                obtain ⟨rfl,rfl⟩:gx=gm∧cx=cm:=by
                 cases hvm
                 exact ⟨rfl,rfl⟩
                have hl3:l3.length=16:=hmid.1;have q3:l3[r]?=some (l3.getD r false):=by rw [List.getD_eq_getElem?_getD,List.getElem?_eq_getElem (by omega)];rfl
                have qo:o[r]?=some (o.getD r false):=by have:=HO16.out;rw [List.getD_eq_getElem?_getD,List.getElem?_eq_getElem (by omega)];rfl
                have k1:=hwr.ra.cell hvx;have k2:=hox.cell rfl (bools_get q3);have k3:=hor.cell rfl (bools_get qo);have k4:=hox.frozen;have k5:=hwr.ra.lt;have k6:=hox.lt (g:=gx) rfl;have k7:=hor.lt (g:=og) rfl;have HQ:=Lib.hid (And.intro hmid (And.intro hc3 (And.intro hwr (And.intro hor (And.intro hnr (And.intro hfr (And.intro e3 (And.intro hvx (And.intro hox hgx2)))))))));clear hmid hc3 hwr hor hnr hfr e3 hvx hox hgx1 hgx2 hvm hl3 q3 qo;cases h3:l3.getD r false with
                | false =>
                 rw [h3] at k2;have H3:=Lib.hid h3;clear h3;go_wp2_with fail
                 go_roundg (16 - (r+1))
                 case measure=>omega
                 case rel =>
                  obtain ⟨hmid,hc3,hwr,hor,hnr,hfr,_⟩:=HQ.out;exact ⟨r+1,l3,c3,by omega,rfl,by simp,rfl,mid_keep hmid hrl (Or.inl H3.out),hc3,hwr,hor,hnr,hfr⟩
                | true =>
                 rw [h3] at k2;have H3:=Lib.hid h3;clear h3;cases hob2:o.getD r false with
                 | true =>
                  rw [hob2] at k3;have HB2:=Lib.hid hob2;clear hob2;go_wp2_with fail
                  go_roundg (16 - (r+1))
                  case measure=>omega
                  case rel =>
                   obtain ⟨hmid,hc3,hwr,hor,hnr,hfr,_⟩:=HQ.out;exact ⟨r+1,l3,c3,by omega,rfl,by simp,rfl,mid_keep hmid hrl (Or.inr HB2.out),hc3,hwr,hor,hnr,hfr⟩
                 | false =>
                  rw [hob2] at k3;have HB2:=Lib.hid hob2;clear hob2;go_wp2_with fail
                  go_roundg (16 - (r+1))
                  case measure=>omega
                  case rel =>
                   obtain ⟨hmid,hc3,hwr,hor,hnr,hfr,e3,hvx,hox,hgx2⟩:=HQ.out;obtain ⟨ms1,ms2⟩:=mid_strike hmid hrl H3.out HB2.out;have hap:=HJ.out.2.2.2.1;have hogx:og≠gx:=fun e=>hap.2 mm l2 gx cx HJ.out.2.2.2.2.2.2.1 (HJ.out.2.2.2.2.2.2.2.1) e.symm;have hst:=hwr.strike e3 hvx r false;rw [List.set_set] at hst;refine ⟨r+1,l3.set r false,true,by omega,rfl,by simp,rfl,ms1,?_,hst,?_,?_,?_⟩
                   · rw [decide_eq_true ms2,Bool.or_true]
                   · exact hor.fr (Fr.set1 _ _ _ _) (fun g' hg' e=>by cases hg';exact hogx e)
                   · exact hnr.fr (Fr.set1 _ _ _ _) (fun g' hg' e=>by
                      cases hg'
                      obtain ⟨arr,har⟩:=hox.row (g:=gx) rfl
                      exact hnr.ne har (by decide) (congrArg some e))
                   · exact hfr.set_new (by have:=HAB.out.1;omega)
              · have hrr:r=16:=by omega
                subst hrr;have hcc:¬ ((16:Int)<16):=by omega
                have hle:=mid_end hmid HJ.out.2.2.2.2.2.2.2.2.1 HO16.out;rw [hle] at hc3 hwr;have hstep:=HJ.out.1;rw [← hc3] at hstep;have HE:=Lib.hid (And.intro hstep (And.intro hwr (And.intro hor (And.intro (HJ.out.2.2.2.1.set (l':=meetB l2 o) HJ.out.2.2.2.2.2.2.1) (And.intro hnr hfr)))));clear hmid hc3 hwr hor hnr hfr hle hstep;go_wp2_with fail
                go_roundg (nl - (j+1))
                case measure=>omega
                case rel =>
                 obtain ⟨hstep,hwm3,hog3,hap3,hn3,hfj3⟩:=HE.out;exact ⟨j+1,_,_,_,by omega,rfl,by simp,rfl,hstep,hwm3,hog3,hap3,hn3,hfj3⟩
          · have hjj:j=nl:=by omega
            subst hjj;have hnlt:¬ ((j:Int)<(j:Int)):=by omega
            rw [← hnl,List.take_length] at heq2;have hrw:=HZ.out.2.2.2.2.2.2.1;rw [heq2] at hrw;have HE:=Lib.hid (And.intro hrw (And.intro hwj hfj));clear hrw heq2 hwj hoj hapj hnj hfj;go_wp2_with fail
            go_roundg (f.length - (i+1))
            case measure=>omega
            case rel=>exact ⟨i+1,_,_,_,by omega,rfl,by simp,rfl,HE.out.1,HE.out.2.1,HE.out.2.2⟩
    · have hii:i=f.length:=by omega
      subst hii;have hnlt:¬ ((f.length:Int)<(f.length:Int)):=by omega
      have hps:passF f S=(S',c'):=heq;have hpl:=pass_law HH.out.2.1 HC.out.2.1;rw [hps] at hpl;have HE:=Lib.hid (And.intro hw' (And.intro hfq hpl));have hgk:potM S+1≤gk:=by have:=HC.out.2.2.1;simpa using this
      clear hw' hfq hpl hps heq hmk';go_wp2_with fail
      go_roundg (gk - 1)
      case measure=>omega
      case rel =>
       obtain ⟨hw',hfq,hmk2,hor⟩:=HE.out;refine ⟨c',S',V',rfl,hw',hmk2,?_,?_,hfq⟩
       · rcases hor with ⟨e,_⟩|⟨hlt,e⟩
         · cases e
           simp
         · rw [e];simp;omega
       · intro e;subst e;rcases hor with ⟨e,hcl⟩|⟨_,e⟩
         · cases e
           exact hcl
         · cases e
end
end Go.Proofs.YtlbomnbpahmphaaGreat
