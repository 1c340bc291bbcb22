/- Laws: the builtin 'clear' and 'copy' at a row that is known whole, whatever the size of its elements. Conditions: the pieces lie within their rows. -/
import Derived.Laws.CopyOwn
import Derived.Test.YtlbomnbpahmphaaGreatD04
namespace Go.Proofs.YtlbomnbpahmphaaGreat
open Go.RowKit
set_option maxRecDepth 100000
set_option maxHeartbeats 400000
section
variable {P:Program} {w:World} {o:Oper} {a:Act} {K:Act→World→Prop} {Q:Exit→Act→World→Prop}
theorem row_setRow {b:Nat} {T:TypeId} {cs:List Value} (r:Row w b T cs) (l:List Value):Row (w.setRow b l.toArray) b T l∧Fr (fun x=>x=b) w (w.setRow b l.toArray) :=
 ⟨setRow_heap w b _ _ T _ r,⟨rfl,rfl,rfl,by simp [World.setRow],fun k _ hk=>setRow_other w b k _ hk⟩⟩
theorem wp_clear_bools (x:Operand) (t:TypeId) (ho:o.op=.call { callee:=.builtin .clear,args:=#[x],argTypes:=#[t] }) (e:TypeId) (i:TypeInfo)
 (ht:P.underlying t=some (.slice e)) (hi:P.info? e=some i) (hz:i.zero=some (.bool false))
 (ao:Option Addr) (n c g off:Nat) (hx:a.eval x=.slice ao n c) (ha:0<n→ao=some ⟨g,off,none⟩) (T:TypeId) (cs:List Value) (hr:Row w g T cs) (hfit:off+n≤cs.length)
 (h:∀ w',Row w' g T (splice cs off (List.replicate n (.bool false)))→Fr (fun x=>x=g) w w'→K (a.put o.dst (.tuple #[])) w'):o.wp P a w K Q:=by
 cases n with
 | zero =>
  have hrun:(Builtin.clear_ #[t] o.type #[.slice ao 0 c]).run P w=.ok (.tuple #[]) w:=by
   cases ao <;> simp [Builtin.clear_,run_underlying ht]
  unfold Oper.wp execOp;simp only [ho,resolve,invoke,builtin,Sem.run_bind,Sem.run_pure,Result.andThen_ok,List.map_toArray,List.map_cons,List.map_nil,hx,hrun];exact h w (by simpa [splice] using hr) (Fr.refl _ _)
 | succ n =>
  obtain rfl:=ha (by omega)
  have hzc:(Builtin.zeroCells (Value.bool false).cells (n+1)).toList=List.replicate (n+1) (.bool false):=by
   refine List.eq_replicate_iff.2 ⟨by simp [Builtin.zeroCells,Value.cells],?_⟩;simp [Builtin.zeroCells,Value.cells,Nat.mod_one]
  have hst:=run_storeCells_at P g off T (List.replicate (n+1) (.bool false)) 0 cs.toArray w hr (by simpa using hfit) (by simp [Value.oneCell'])
  have hrun:(Builtin.clear_ #[t] o.type #[.slice (some ⟨g,off,none⟩) (n+1) c]).run P w=.ok (.tuple #[]) (w.setRow g (splice cs off (List.replicate (n+1) (.bool false))).toArray):=by
   simp [Builtin.clear_,run_underlying ht,zeroValue,typeInfo,hi,hz,hzc,hst,splice]
  unfold Oper.wp execOp;simp only [ho,resolve,invoke,builtin,Sem.run_bind,Sem.run_pure,Result.andThen_ok,List.map_toArray,List.map_cons,List.map_nil,hx,hrun];exact h _ (row_setRow hr _).1 (row_setRow hr _).2
theorem run_copy (dT sT ty:TypeId) (e:TypeId) (i:TypeInfo) (size:Nat)
 (hu:P.underlying dT=some (.slice e)) (hi:P.info? e=some i) (hs:i.size=size)
 (dp sp:Option Addr) (dLen dCap sLen sCap:Nat) (n:Nat) (hn:n=Nat.min sLen dLen)
 (g off:Nat) (T:TypeId) (cur cs:List Value) (hr:Row w g T cur) (hl:cs.length=n * size)
 (hpos:0<n→dp=some ⟨g,off,none⟩∧∃ ad,sp=some ad∧∀ j v,cs[j]?=some v→w.cell? (ad.add j)=some v) (hfit:off+cs.length≤cur.length) (h1:∀ v∈cs,v.oneCell'=true)
 (hnil:n=0→(∃ x,dp=some x)∧(sp=none∨∃ x,sp=some x)) :
 ∃ w',(Builtin.copy_ #[dT,sT] ty #[.slice dp dLen dCap,.slice sp sLen sCap]).run P w=.ok (.int .i64 n) w'∧Row w' g T (splice cur off cs)∧Fr (fun x=>x=g) w w':=by
 cases n with
 | zero =>
  obtain ⟨⟨x,rfl⟩,hsp⟩:=hnil rfl;obtain rfl:cs=[]:=List.eq_nil_of_length_eq_zero (by simpa using hl);refine ⟨w,?_,by simpa [splice] using hr,Fr.refl _ _⟩;rcases hsp with rfl|⟨y,rfl⟩
  · simp [Builtin.copy_,run_underlying hu,Builtin.lenOf,Builtin.firstCells,sizeOf,typeInfo,hi,← hn,storeCells,goInt]
  · simp [Builtin.copy_,run_underlying hu,Builtin.lenOf,Builtin.firstCells,sizeOf,typeInfo,hi,← hn,storeCells,loadCells,loadCellsFrom,goInt]
 | succ n =>
  obtain ⟨rfl,ad,rfl,hsrc⟩:=hpos (by omega);have hld:=run_loadCells_list (P:=P) w ad cs hsrc;have hst:=run_storeCells_at P g off T cs 0 cur.toArray w hr (by simpa using hfit) h1;refine ⟨w.setRow g (splice cur off cs).toArray,?_,(row_setRow hr _).1,(row_setRow hr _).2⟩;simp [Builtin.copy_,run_underlying hu,Builtin.lenOf,Builtin.firstCells,sizeOf,typeInfo,hi,hs,← hn,← hl,hld,hst,splice,goInt]
theorem wp_copy_row (d s:Operand) (dT sT:TypeId) (ho:o.op=.call { callee:=.builtin .copy,args:=#[d,s],argTypes:=#[dT,sT] }) (e:TypeId) (i:TypeInfo) (size:Nat)
 (hu:P.underlying dT=some (.slice e)) (hi:P.info? e=some i) (hs:i.size=size)
 (dp sp:Option Addr) (dLen dCap sLen sCap:Nat) (hd:a.eval d=.slice dp dLen dCap) (hsv:a.eval s=.slice sp sLen sCap) (n:Nat) (hn:n=Nat.min sLen dLen)
 (g off:Nat) (T:TypeId) (cur cs:List Value) (hr:Row w g T cur) (hl:cs.length=n * size)
 (hpos:0<n→dp=some ⟨g,off,none⟩∧∃ ad,sp=some ad∧∀ j v,cs[j]?=some v→w.cell? (ad.add j)=some v) (hfit:off+cs.length≤cur.length) (h1:∀ v∈cs,v.oneCell'=true)
 (hnil:n=0→(∃ x,dp=some x)∧(sp=none∨∃ x,sp=some x))
 (h:∀ w',Row w' g T (splice cur off cs)→Fr (fun x=>x=g) w w'→K (a.put o.dst (.int .i64 n)) w'):o.wp P a w K Q:=by
 obtain ⟨w',hrun,h2,h3⟩:=run_copy (P:=P) dT sT o.type e i size hu hi hs dp sp dLen dCap sLen sCap n hn g off T cur cs hr hl hpos hfit h1 hnil;unfold Oper.wp execOp;simp only [ho,resolve,invoke,builtin,Sem.run_bind,Sem.run_pure,Result.andThen_ok,List.map_toArray,List.map_cons,List.map_nil,hd,hsv,hrun];exact h w' h2 h3
end
theorem splice_map {α β:Type} (f:α→β) (l:List α) (o:Nat) (c:List α):(splice l o c).map f=splice (l.map f) o (c.map f):=by
 simp [splice,List.map_take,List.map_drop]
theorem flat_append (l m:List Wd):flat (l ++ m)=flat l ++ flat m:=by simp [flat]
theorem flat_take (l:List Wd) (k:Nat):(flat l).take (k * 3)=flat (l.take k):=by
 induction k generalizing l with
 | zero=>simp [flat]
 | succ k ih =>
  cases l with
  | nil=>simp [flat]
  | cons x l=>rw [List.take_succ_cons,flat_cons,flat_cons,← ih l,show (k+1) * 3=k * 3+3 by omega];rfl
theorem flat_drop (l:List Wd) (k:Nat):(flat l).drop (k * 3)=flat (l.drop k):=by
 induction k generalizing l with
 | zero=>simp
 | succ k ih =>
  cases l with
  | nil=>simp [flat]
  | cons x l=>rw [List.drop_succ_cons,flat_cons,← ih l,show (k+1) * 3=k * 3+3 by omega];rfl
theorem flat_splice (l:List Wd) (k:Nat) (c:List Wd):flat (splice l k c)=splice (flat l) (k * 3) (flat c):=by
 unfold splice;rw [flat_append,flat_append,flat_take,flat_len,← Nat.add_mul,flat_drop]
def Blk.clear (b:Blk) (j n:Nat):Blk:=⟨b.words,splice b.set j (List.replicate n false),b.freed⟩
def Mem.clear (M:Mem) (p:Wd) (n:Int):Mem × Int :=
 if n<0 then (M,1) else if M.errp p n≠0 then (M,M.errp p n) else (M.put (p.a - 1).toNat ((M.blk p.a).clear p.n.toNat n.toNat),0)
section
variable {D:Nat→Prop} {w:World} {mb cap bb:Nat} {ao:Option Addr} {arr:List Value} {wb zb:Nat→Nat} {M:Mem}
theorem clear_neg (_h:MemL D w mb ao cap bb arr wb zb M) (p:Bool) (a n m:Int) (hm:m<0) :
 Calls Tryz.prog 126 #[.pointer (Option.some ⟨mb,0,none⟩),.agg #[.bool p,.int .i64 a,.int .i64 n],.int .i64 m] w fun e w' =>
  e=.returned (.int .i64 1)∧Fr Non w w':=by
 go_enter Tryz.func126,Tryz.ntmps126
 go_wp2
 go_ret
 exact ⟨rfl,fx⟩
theorem clear_bad (h:MemL D w mb ao cap bb arr wb zb M) (p:Bool) (a n m:Int) (hm:0≤m) (he:M.errp ⟨p,a,n⟩ m≠0) :
 Calls Tryz.prog 126 #[.pointer (Option.some ⟨mb,0,none⟩),.agg #[.bool p,.int .i64 a,.int .i64 n],.int .i64 m] w fun e w' =>
  e=.returned (.int .i64 (M.errp ⟨p,a,n⟩ m))∧Fr Non w w':=by
 have hd:(M.errp ⟨p,a,n⟩ m == 0)=false:=by simpa using he
 have hd0:decide (m<0)=false:=decide_eq_false (by omega);have HC:=Lib.hid fun w1 (h1:MemL D w1 mb ao cap bb arr wb zb M)=>piece_bad h1 p a n m hm he;generalize M.errp ⟨p,a,n⟩ m=er at *;go_enter Tryz.func126,Tryz.ntmps126
 go_wp2_with fail
 refine (HC.out _ (h.fr (by exact fx) (fun _ _=>id))).mono ?_;rintro e1 w1 ⟨rfl,hf⟩;go_wp2
 go_ret
 exact ⟨rfl,(by repeat (first|exact .refl _ _|assumption|apply Fr.drewN|apply Fr.drew|apply Fr.drewl|apply Fr.drewNl|apply Fr.alloc|refine Fr.trans ?_ (by assumption)))⟩
theorem clear_good (h:MemL D w mb ao cap bb arr wb zb M) (p:Bool) (a n:Int) (m:Nat) (he:M.errp ⟨p,a,n⟩ m=0) :
 Calls Tryz.prog 126 #[.pointer (Option.some ⟨mb,0,none⟩),.agg #[.bool p,.int .i64 a,.int .i64 n],.int .i64 m] w fun e w' =>
  e=.returned (.int .i64 0)∧MemL D w' mb ao cap bb arr wb zb (M.put (a - 1).toNat ((M.blk a).clear n.toNat m))∧Fr D w w':=by
 obtain ⟨j0,hj0,hj1,hj2,hj3⟩:=info_parts Tryz.infoBool;have HC:=Lib.hid fun w1 (h1:MemL D w1 mb ao cap bb arr wb zb M)=>piece_good h1 p a n m (by omega) he;obtain ⟨he,hn0,hm1,hn1⟩:=Mem.errp_zero he;obtain ⟨k,rfl,rfl,hk,hbk,hr,hok,g1,g2,_,hw,hz,dw,dz,_,hfr,hlen⟩:=h.good he;rw [show ((k:Int)+1 - 1).toNat=k by omega] at HC ⊢;simp only at hn0 hn1 hm1;generalize M.blk ((k:Int)+1)=b at *;obtain ⟨j,rfl⟩:=Int.eq_ofNat_of_zero_le hn0;rw [Int.toNat_natCast];have hjm:j+m≤b.words.length:=by omega
 have f2:=hr.cell g2;have i0:(0:Int)≤(j:Int):=by omega
 have i1:(j:Int)≤(j:Int)+(m:Int):=by omega
 have i2:(j:Int)+(m:Int)≤(b.words.length:Int):=by omega
 have i3:(0:Int)≤(j:Int)+(m:Int):=by omega
 have hwr:IntKind.i64.wrap ((j:Int)+(m:Int))=(j:Int)+(m:Int):=IntWalk.i64_in _ (by omega);have hd0:decide ((m:Int)<0)=false:=decide_eq_false (by omega);have htn:((j:Int)+(m:Int)).toNat=j+m:=by omega
 have HH:=Lib.hid (And.intro h (And.intro hbk (And.intro hfr (And.intro hok (And.intro hw (And.intro hz (And.intro dw (And.intro dz hjm))))))));have hset:b.set.length=b.words.length:=hok.1;clear hbk hfr hok dw dz g2 g1 he hn0 hn1 hm1 hw hz;by_cases hjL:b.words.length=j
 · subst hjL;obtain rfl:m=0:=by omega
   clear i0 i1 i2 i3 hwr hd0 htn;have hwr:IntKind.i64.wrap (b.words.length:Int)=(b.words.length:Int):=IntWalk.i64_in _ (by omega);go_enter Tryz.func126,Tryz.ntmps126
   go_wp2_with fail
   refine (HC.out _ (h.fr (by exact fx) (fun _ _=>id))).mono ?_;rintro e1 w1 ⟨rfl,hf⟩;have hg:Fr Non w w1:=Fr.trans fx hf
   replace f2:=hg.cell f2 id
   have b2:=hf.new_cell (by simp [Non]) (o:=2) rfl;go_wp2
   go_still_tail 11,(by kernel_rfl)
   refine wpList_plain rfl ?_;intro K hK;have hzr:=hg.row HH.out.2.2.2.2.2.1 id;refine wp_clear_bools (.tmp 30) 64 rfl 4 j0 Tryz.underlying64 hj0 hj1 _ 0 _ (zb k) (b.words.length) rfl (fun hh=>(by first|rfl|omega)) 4 (b.set.map Value.bool) hzr.drew (by simp;omega) ?_;intro w2 rz1 fz1;have HR:=Lib.hid (And.intro rz1 fz1);clear rz1 fz1 hzr;refine hK _ _ ?_;clear hK K;simp only [Act.put];go_wp2
   go_ret
   obtain ⟨rz1,fz1⟩:=HR.out;obtain ⟨h,hbk,hfr,hok,hw,hz,dw,dz,_⟩:=HH.out;rw [show List.replicate (0) (Value.bool false)=(List.replicate (0) false).map Value.bool by simp,← splice_map] at rz1;have hfx:Fr (fun x=>x=wb k∨x=zb k) w w2:=(hg.drew.mono fun _ _ hx=>hx.elim).then fz1 fun x _ hx=>Or.inr hx;refine ⟨rfl,?_,hfx.mono fun x _ hx=>(by rcases hx with rfl|rfl;exact dw;exact dz)⟩;refine h.upd hbk hfr hfx (b':=b.clear (b.words.length) (0)) hfr rfl ?_ ?_ rz1
   · simp only [Blk.clear];rw [length_splice _ _ _ (by simp;omega)];exact hok.1
   · exact fz1.row ((hg.row hw id).drew) (hw.ne hz (by decide))
 · go_enter Tryz.func126,Tryz.ntmps126
   go_wp2_with fail
   refine (HC.out _ (h.fr (by exact fx) (fun _ _=>id))).mono ?_;rintro e1 w1 ⟨rfl,hf⟩;have hg:Fr Non w w1:=Fr.trans fx hf
   replace f2:=hg.cell f2 id
   have b2:=hf.new_cell (by simp [Non]) (o:=2) rfl;go_wp2
   go_still_tail 11,(by kernel_rfl)
   refine wpList_plain rfl ?_;intro K hK;have hzr:=hg.row HH.out.2.2.2.2.2.1 id;refine wp_clear_bools (.tmp 30) 64 rfl 4 j0 Tryz.underlying64 hj0 hj1 _ m _ (zb k) (j) rfl (fun hh=>(by first|rfl|omega)) 4 (b.set.map Value.bool) hzr.drew (by simp;omega) ?_;intro w2 rz1 fz1;have HR:=Lib.hid (And.intro rz1 fz1);clear rz1 fz1 hzr;refine hK _ _ ?_;clear hK K;simp only [Act.put];go_wp2
   go_ret
   obtain ⟨rz1,fz1⟩:=HR.out;obtain ⟨h,hbk,hfr,hok,hw,hz,dw,dz,_⟩:=HH.out;rw [show List.replicate (m) (Value.bool false)=(List.replicate (m) false).map Value.bool by simp,← splice_map] at rz1;have hfx:Fr (fun x=>x=wb k∨x=zb k) w w2:=(hg.drew.mono fun _ _ hx=>hx.elim).then fz1 fun x _ hx=>Or.inr hx;refine ⟨rfl,?_,hfx.mono fun x _ hx=>(by rcases hx with rfl|rfl;exact dw;exact dz)⟩;refine h.upd hbk hfr hfx (b':=b.clear (j) (m)) hfr rfl ?_ ?_ rz1
   · simp only [Blk.clear];rw [length_splice _ _ _ (by simp;omega)];exact hok.1
   · exact fz1.row ((hg.row hw id).drew) (hw.ne hz (by decide))
end
end Go.Proofs.YtlbomnbpahmphaaGreat
