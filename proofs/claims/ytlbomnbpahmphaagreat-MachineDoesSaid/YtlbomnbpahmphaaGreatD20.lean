/- The machine, made anew: it stands well where the code may be run, and is none where not. Conditions: the program lies at its slices, ahead of all that is new. -/
import Derived.Test.YtlbomnbpahmphaaGreatD18
import Derived.Test.YtlbomnbpahmphaaGreatD19
import Derived.Test.YtlbomnbpahmphaaGreatD14
set_option maxRecDepth 100000
set_option maxHeartbeats 400000
namespace Go.Proofs.YtlbomnbpahmphaaGreat
open Go.RowKit
structure PrAt (base:Nat) (P:Pr) (w:World) (v:Value):Prop where
 val:∃ fo fc co cc,v=.agg #[.slice fo P.funs.length fc,.slice co P.cos.length cc]∧FunsAt base w fo P.funs∧CosB base w co P.cos
 lab:∀ f∈P.funs,∀ x∈f,x.l.length≤17592186043904
theorem PrAt.fr {base:Nat} {P:Pr} {w w':World} {v:Value} {E:Nat→Prop} (h:PrAt base P w v) (f:Fr E w w') (hE:High base E):PrAt base P w' v:=by
 obtain ⟨⟨fo,fc,co,cc,e,h1,h2⟩,h3⟩:=h;exact ⟨⟨fo,fc,co,cc,e,h1.fr f hE,h2.fr f hE⟩,h3⟩
def St.new (words:Int):St:=⟨⟨roomOf words,[]⟩,[],[],[],0,0⟩
theorem valid_args {P:Pr} (h:validS P=true):∀ x∈P.cos,x.args≤1000000000:=by
 unfold validS at h;split at h
 · cases h
 · rw [Bool.and_eq_true,List.all_eq_true] at h;intro x hx;have:=h.1 x hx;unfold coroutineS at this;split at this
   · cases this
   · simp only [Bool.and_eq_true,decide_eq_true_eq] at this;obtain ⟨⟨h1,h2⟩,h3⟩:=this;have:=(withinS_iff.1 h3).2;omega
theorem new_m {base:Nat} {P:Pr} {w:World} {v:Value} (h:PrAt base P w v) (hb:base≤w.heap.size) (words:Int) :
 Calls Tryz.prog 8 #[v,.int .i64 words] w fun e w'=>Fr Non w w'∧if validS P=true then ∃ m A,e=.returned (.tuple #[ptr m,.int .i64 0])∧MInv base P A w' m (St.new words)∧(∀ x,A x→w.heap.size≤x) else e=.returned (.tuple #[.pointer none,.int .i64 30]):=by
 obtain ⟨⟨fo,fc,co,cc,rfl,h1,h2⟩,h3⟩:=h
 have hV:∀ w1,Fr Non w w1→Calls Tryz.prog 31 #[.agg #[.slice fo P.funs.length fc,.slice co P.cos.length cc]] w1 fun e w'=>e=.returned (.bool (validS P))∧Fr Non w1 w' :=
  fun w1 f=>valid_c fo fc co cc (h1.fr f (high_non _)) (h2.fr f (high_non _)) h3
 cases hv:validS P with
 | false =>
  rw [hv] at hV;refine (new_bad w fo _ fc co _ cc words hV).mono ?_;rintro e w' ⟨rfl,hf⟩;exact ⟨hf,by rw [if_neg (by simp)]⟩
 | true =>
  rw [hv] at hV;refine (new_good w fo _ fc co _ cc words hV).mono ?_;rintro e w' ⟨g,mb,eb,rfl,r1,r2,he,hg,hm,hee,n1,n2,hf⟩;refine ⟨hf,?_⟩;rw [if_pos rfl];have hgm:mb≠g:=r2.ne r1 (by decide);refine ⟨g,fun x=>x=g∨x=mb∨x=eb,rfl,⟨⟨fo,co,fc,cc,mb,eb,.slice none 0 0,.slice none 0 0,fun x=>x=mb,[]⟩,?_⟩,?_⟩
  · have hlt:eb<w'.heap.size:=(List.getElem?_eq_some_iff.1 (by rw [← Array.getElem?_toList] at he;exact he)).1 |> fun h=>by simpa using h
    refine { high:=?_,lt:=?_,row:=r1,funs:=h1.fr hf (high_non _),cos:=h2.fr hf (high_non _),mem:=MI.new (by unfold roomOf;omega) (by unfold roomOf;omega) r2,ev:=⟨#[],0,he,rfl,fun x hx=>by simp at hx⟩,told:=Own.nil _ _ _,stk:=Own.nil _ _ _,len:=rfl,nodup:=List.nodup_nil,cls:=fun i b c hb=>by simp at hb,om:=Or.inl rfl,oe:=Or.inr (Or.inr rfl),od:=fun x hx=>Or.inr (Or.inl hx),ot:=fun x hx=>(by cases hx),os:=fun x hx=>(by cases hx),ob:=fun x hx=>(by cases hx),sep:=?_ }
    · rintro x (rfl|rfl|rfl) <;> omega
    · rintro x (rfl|rfl|rfl)
      · exact r1.lt
      · exact r2.lt
      · exact hlt
    · rintro x rfl;exact ⟨hgm,fun e=>n2 e.symm,(by simp [Value.ownBlock]),(by simp [Value.ownBlock]),by simp⟩
  · rintro x (rfl|rfl|rfl) <;> assumption
def Evs (w:World) (ao:Option Addr) (l:List Ev):Prop:=0<l.length→∃ b o,ao=some ⟨b,o,none⟩∧∀ (j:Nat) (u:Value),(evs l)[j]?=some u→w.cell? ⟨b,o+j,none⟩=some u
theorem Own.evs {w:World} {ao:Option Addr} {n cap:Nat} {l:List Ev} (h:Own w (.slice ao n cap) 74 4 l.length (evs l)):n=l.length∧Evs w ao l:=by
 obtain ⟨ao',cap',e,_,_,h1,_⟩:=h.form;cases e
 refine ⟨rfl,fun hl=>?_⟩;obtain ⟨g,rfl⟩:=h1 hl;exact ⟨g,0,rfl,fun j u hu=>by rw [Nat.zero_add];exact h.cell rfl hu⟩
theorem evs_get' {l:List Ev} {i:Nat} {x:Ev} (h:l[i]?=some x) :
 (evs l)[i * 4]?=some (.int .i64 x.kind)∧(evs l)[i * 4+1]?=some (.int .i64 x.task)∧(evs l)[i * 4+2]?=some (.int .i64 x.a)∧(evs l)[i * 4+3]?=some (.int .i64 x.n):=by
 induction l generalizing i with
 | nil=>simp at h
 | cons y l ih =>
  cases i with
  | zero=>simp at h;subst h;simp [evs,Ev.cs]
  | succ i =>
   have:=ih (by simpa using h);have e:evs (y :: l)=.int .i64 y.kind :: .int .i64 y.task :: .int .i64 y.a :: .int .i64 y.n :: evs l:=rfl;rw [e,show (i+1) * 4=i * 4+4 by omega];exact this
theorem ltold_c (w:World) (ao bo:Option Addr) (ac bc:Nat) (l:List Ev) (ha:Evs w ao l) (hb:Evs w bo l) (hl:l.length≤1000000000) :
 Calls Tryz.prog 21 #[.slice ao l.length ac,.slice bo l.length bc] w fun e w'=>e=.returned (.bool true)∧Fr Non w w':=by
 have h0l:(0:Int)≤(l.length:Int):=by omega
 have HH:=Lib.hid (And.intro ha hb);clear ha hb;go_enter Tryz.func21,Tryz.ntmps21
 go_wp2_with fail
 go_loopw [5] (fun v5 wr=>∃ i:Nat,i≤l.length∧v5=.int .i64 i∧Fr Non w wr) (fun v5 _=>l.length - (intOf v5).toNat)
 case atStart=>exact ⟨0,by omega,rfl,by exact fx⟩
 case round =>
  obtain ⟨i,hi,rfl,hf⟩:=hrel;by_cases hlt:i<l.length
  · obtain ⟨x,hx⟩:∃ x,l[i]?=some x:=⟨l[i],List.getElem?_eq_getElem hlt⟩;obtain ⟨sb,so,rfl,hac⟩:=HH.out.1 (by omega);obtain ⟨tb,tO,rfl,hbc⟩:=HH.out.2 (by omega);obtain ⟨g0,g1,g2,g3⟩:=evs_get' hx;have e0:=hf.cell (hac _ _ g0) id;have e1:=hf.cell (hac _ _ g1) id;have e2:=hf.cell (hac _ _ g2) id;have e3:=hf.cell (hac _ _ g3) id;have t0:=hf.cell (hbc _ _ g0) id;have t1:=hf.cell (hbc _ _ g1) id;have t2:=hf.cell (hbc _ _ g2) id;have t3:=hf.cell (hbc _ _ g3) id;rw [← Nat.add_assoc] at e1 e2 e3 t1 t2 t3;clear g0 g1 g2 g3 hac hbc hx;have hi0:(0:Int)≤(i:Int):=by omega
    have hi1:(i:Int)<(l.length:Int):=by omega
    go_wp2_with fail
    go_quiet (fail)
    go_wp2_with fail
    exact ⟨⟨i+1,by omega,by simp,by exact fx⟩,by simp [intOf];omega⟩
  · obtain rfl:i=l.length:=by omega
    go_wp2_with fail
    go_ret
    exact ⟨rfl,by exact fx⟩
def IsBool (e:Ending):Prop:=∃ b:Bool,e=.returned (.bool b)
theorem IsBool.mk (b:Bool):IsBool (.returned (.bool b)):=⟨b,rfl⟩
theorem over03_c {base:Nat} {P:Pr} {w:World} {v:Value} (h:PrAt base P w v) :
 Calls Tryz.prog 7 #[v] w fun e w'=>IsBool e∧Fr Non w w':=by
 obtain ⟨⟨fo,fc,co,cc,rfl,h1,h2⟩,h3⟩:=h;have HH:=Lib.hid (And.intro h1 h2);clear h1 h2 h3;have h0f:(0:Int)≤(P.funs.length:Int):=by omega
 have h0c:(0:Int)≤(P.cos.length:Int):=by omega
 generalize hn:P.funs.length=n at *;generalize hk:P.cos.length=k at *;by_cases hf60:(60:Int)<n
 · have hd:decide ((60:Int)<n)=true:=decide_eq_true hf60;go_enter Tryz.func7,Tryz.ntmps7
   go_wp2_with fail
   go_ret
   exact ⟨IsBool.mk _,by exact fx⟩
 by_cases hc60:(60:Int)<k
 · have hd0:decide ((60:Int)<n)=false:=decide_eq_false hf60;have hd:decide ((60:Int)<k)=true:=decide_eq_true hc60;go_enter Tryz.func7,Tryz.ntmps7
   go_wp2_with fail
   go_ret
   exact ⟨IsBool.mk _,by exact fx⟩
 have hd0:decide ((60:Int)<n)=false:=decide_eq_false hf60;have hd:decide ((60:Int)<k)=false:=decide_eq_false hc60;go_enter Tryz.func7,Tryz.ntmps7
 go_wp2_with fail
 have hr:Row (w.alloc (.cells #[.slice fo n fc,.slice co k cc] 25)) w.heap.size 25 [.slice fo n fc,.slice co k cc]:=Row.new' rfl;have hf:Fr Non w (w.alloc (.cells #[.slice fo n fc,.slice co k cc] 25)):=by exact fx
 generalize hg:w.heap.size=g at *;generalize w.alloc (.cells #[.slice fo n fc,.slice co k cc] 25)=W at *;have HR:=Lib.hid (And.intro hr hf);clear hr hf
 go_loopw [3] (fun v3 wr=>∃ i:Nat,i≤n∧v3=.int .i64 i∧Fr Non W wr) (fun v3 _=>n - (intOf v3).toNat)
 case atStart=>exact ⟨0,by omega,rfl,Fr.refl _ _⟩
 case round =>
  obtain ⟨i,hi,rfl,hf⟩:=hrel;obtain ⟨q0,q1,qz⟩:=row2 (hf.row HR.out.1 id);by_cases hlt:i<n
  · obtain ⟨x,hx⟩:∃ x,P.funs[i]?=some x:=⟨P.funs[i]'(by omega),List.getElem?_eq_getElem (by omega)⟩;obtain ⟨b,o,io,ic,rfl,hc,_⟩:=HH.out.1 i x hx;have e0:=(HR.out.2.trans hf).cell hc.2 id;clear hc;by_cases hbig:(180:Int)<x.length
    · have hd1:decide ((180:Int)<x.length)=true:=decide_eq_true hbig;go_wp2_with fail
      go_ret
      exact ⟨IsBool.mk _,HR.out.2.trans (by exact fx)⟩
    · have hd1:decide ((180:Int)<x.length)=false:=decide_eq_false hbig;go_wp2_with fail
      exact ⟨⟨i+1,by omega,by simp,by exact fx⟩,by simp [intOf];omega⟩
  · obtain rfl:i=n:=by omega
    go_wp2_with fail
    go_ret
    exact ⟨IsBool.mk _,HR.out.2.trans (by exact fx)⟩
def WdsAt (w:World) (ao:Option Addr) (l:List Wd):Prop:=0<l.length→∃ b o,ao=some ⟨b,o,none⟩∧∀ (j:Nat) (u:Value),(flat l)[j]?=some u→w.cell? ⟨b,o+j,none⟩=some u
def wordL (l:List Wd) (a:Int):Wd:=if 0≤a∧a<l.length then l.getD a.toNat Wd.zero else ⟨false,0,a⟩
theorem lword_c (w:World) (ao:Option Addr) (cap:Nat) (l:List Wd) (h:WdsAt w ao l) (hl:l.length≤1000000000) (a:Int) :
 Calls Tryz.prog 11 #[.slice ao l.length cap,.int .i64 a] w fun e w'=>e=.returned (.agg #[.bool (wordL l a).p,.int .i64 (wordL l a).a,.int .i64 (wordL l a).n])∧Fr Non w w':=by
 by_cases h0:0≤a
 · by_cases h1:a<l.length
   · obtain ⟨i,rfl⟩:=Int.eq_ofNat_of_zero_le h0;have hlt:i<l.length:=by omega
     obtain ⟨x,hx⟩:∃ x,l[i]?=some x:=⟨l[i],List.getElem?_eq_getElem hlt⟩
     have hw:wordL l i=x:=by
      unfold wordL;rw [if_pos ⟨h0,h1⟩,Int.toNat_natCast,List.getD_eq_getElem?_getD,hx]
      rfl
     rw [hw];obtain ⟨b,o,rfl,hc⟩:=h (by omega);obtain ⟨g0,g1,g2⟩:=flat_get hx;have e0:=hc _ _ g0;have e1:=hc _ _ g1;have e2:=hc _ _ g2;have hb:=World.block_lt_of_cell? w _ e0;simp only at hb;rw [← Nat.add_assoc] at e1 e2;clear hc g0 g1 g2 h;go_enter Tryz.func11,Tryz.ntmps11
     go_wp2_with fail
     refine bodyPost_ret (v:=.agg #[.bool x.p,.int .i64 x.a,.int .i64 x.n]) (by simp [results,Tryz.results11,go_sem]) rfl ⟨rfl,?_⟩;exact (by repeat (first|exact .refl _ _|assumption|apply Fr.drewN|apply Fr.drew|apply Fr.drewl|apply Fr.drewNl|apply Fr.alloc|(refine Fr.setCell ?_ (Or.inr (by simp)) _)|refine Fr.trans ?_ (by assumption)))
   · have hw:wordL l a=⟨false,0,a⟩:=by unfold wordL;rw [if_neg (by omega)]
     rw [hw];clear h;have h1':decide (a<(l.length:Int))=false:=decide_eq_false h1;go_enter Tryz.func11,Tryz.ntmps11
     go_wp2_with fail
     refine bodyPost_ret (v:=.agg #[.bool false,.int .i64 0,.int .i64 a]) (by simp [results,Tryz.results11,go_sem]) rfl ⟨rfl,?_⟩;exact (by repeat (first|exact .refl _ _|assumption|apply Fr.drewN|apply Fr.drew|apply Fr.drewl|apply Fr.drewNl|apply Fr.alloc|(refine Fr.setCell ?_ (Or.inr (by simp)) _)|refine Fr.trans ?_ (by assumption)))
 · have hw:wordL l a=⟨false,0,a⟩:=by unfold wordL;rw [if_neg (by omega)]
   rw [hw];clear h;have h0':decide (0≤a)=false:=decide_eq_false h0;go_enter Tryz.func11,Tryz.ntmps11
   go_wp2_with fail
   refine bodyPost_ret (v:=.agg #[.bool false,.int .i64 0,.int .i64 a]) (by simp [results,Tryz.results11,go_sem]) rfl ⟨rfl,?_⟩;exact (by repeat (first|exact .refl _ _|assumption|apply Fr.drewN|apply Fr.drew|apply Fr.drewl|apply Fr.drewNl|apply Fr.alloc|(refine Fr.setCell ?_ (Or.inr (by simp)) _)|refine Fr.trans ?_ (by assumption)))
end Go.Proofs.YtlbomnbpahmphaaGreat
