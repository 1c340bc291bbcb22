/- Walks: the document's 'run': the fuel is looked at, and taken. Conditions: the machine lies there; what stands where a round begins. -/
import Derived.Test.YtlbomnbpahmphaaGreatD33
set_option maxRecDepth 100000
set_option maxHeartbeats 1000000
namespace Go.Proofs.YtlbomnbpahmphaaGreat
open Go.RowKit
structure RdA (base:Nat) (P:Pr) (kinds:List Int) (A0:Nat→Prop) (T:Nat) (w0:World) (m fb rb:Nat) (io:Option Addr) (ic:Nat) (c0:Cl) (S0:St) (n0:Nat) (A:Nat→Prop) (w:World) (c:Cl) (S:St) (a:Act):Prop where
 sl:SL m fb rb io c0.fn.length ic a
 s12:a.tmps.getD 12 undef=.int .i64 c.at_
 lp:LoopS base P kinds A0 w0 m fb rb io A T w c S
 fn:c.fn=c0.fn
 n:S.fuel.toNat≤n0
 back:∀ r S',Runs P kinds c S r S'→Runs P kinds c0 S0 r S'
structure RdB (base:Nat) (P:Pr) (kinds:List Int) (A0:Nat→Prop) (T:Nat) (w0:World) (m fb rb:Nat) (io:Option Addr) (ic:Nat) (c0:Cl) (S0:St) (n0:Nat) (A:Nat→Prop) (w:World) (c:Cl) (S:St) (a:Act):Prop where
 sl:SL m fb rb io c0.fn.length ic a
 s12:a.tmps.getD 12 undef=.int .i64 c.at_
 lp:LoopS base P kinds A0 w0 m fb rb io A T w c S.tick
 max:T+1≤400000
 hf:0<S.fuel
 fn:c.fn=c0.fn
 n:S.fuel.toNat≤n0
 back:∀ r S',Runs P kinds c S r S'→Runs P kinds c0 S0 r S'
section
variable {base:Nat} {P:Pr} {kinds:List Int} {A0 A:Nat→Prop} {T:Nat} {w0 w:World} {m fb rb:Nat} {io:Option Addr} {ic:Nat} {c0 c:Cl} {S0 S:St} {n0:Nat} {Q:Exit→Act→World→Prop} {a:Act}
theorem SL.frame {fl:Nat} (h:SL m fb rb io fl ic a) {k:Int} (h12:a.tmps.getD 12 undef=.int .i64 k):∃ g:Nat→Value,g 0=(.pointer (some ⟨m,0,none⟩))∧g 6=(.pointer (some ⟨fb,0,none⟩))∧g 10=.slice io fl ic∧g 11=.slice (some ⟨rb,0,none⟩) 16 16∧g 12=.int .i64 k∧a=Fr532 g :=
 ⟨fun i=>a.tmps.getD i undef,h.s0,h.s6,h.s10,h.s11,h12,Fr532_view a h.size h.dfr⟩
theorem LoopS.tick (h:LoopS base P kinds A0 w0 m fb rb io A (T+1) w c S) (hf:0<S.fuel):LoopS base P kinds A0 w0 m fb rb io A T (w.setCell ⟨m,5,none⟩ (.int .i64 (S.fuel - 1))) c S.tick:=by
 obtain ⟨Y,hI⟩:=h.inv;have f:=Fr.set1 w m 5 (.int .i64 (S.fuel - 1));have hb:=hI.high _ hI.am;have hH:High base (fun x=>x=m):=fun x hx=>by rw [hx];exact hb
 have hc:=hI.cells;have hw:=hI.few;have hT:=hI.max;have hr:Row (w.setCell ⟨m,5,none⟩ (.int .i64 (S.fuel - 1))) m 61 (Y.cells P (S.fuel - 1) S.task):=hI.row.set_same 5 _
 exact { h with
  inv:=⟨Y,hI.upNums hr f (by omega) (by omega) (by omega)⟩
  fr:=h.fr.then f fun x hx e=>(h.sub m hI.am).elim (fun k=>e ▸ k) fun k=>by omega
  kp:=h.kp.trans (Kp.rows hI.row hr rfl)
  rrb:=f.row h.rrb fun e=>h.nrb (e ▸ hI.am)
  rfb:=f.row h.rfb fun e=>h.nfb (e ▸ hI.am)
  ins:=h.ins.fr f hH }
theorem rd_a (hQ:∀ a w,RetP base P kinds A0 T w0 m c0 S0 a w→Q .ret a w) (h:RdA base P kinds A0 T w0 m fb rb io ic c0 S0 n0 A w c S a) (hK:∀ T' a' w',T=T'+1→RdB base P kinds A0 T' w0 m fb rb io ic c0 S0 n0 A w' c S a'→Code.wp Tryz.prog (behind 2 runIn) Q a' w'):Code.wp Tryz.prog runIn Q a w:=by
 have e:runIn=.seq (seqL runIn) (.seq (seqL (behind 1 runIn)) (behind 2 runIn)):=by kernel_rfl
 rw [e];generalize behind 2 runIn=CT at *;obtain ⟨Y,hI⟩:=h.lp.inv;have c5:w.cell? ⟨m,5,none⟩=some (.int .i64 S.fuel):=hI.row.cell rfl;have hml:=hI.mlt;have hfew:=hI.few;have hcl:=hI.cells;have hmax:=hI.max;have hmz:=hI.row.frozen;obtain ⟨g,g0,g6,g10,g11,g12,ha⟩:=h.sl.frame h.s12;by_cases hf:S.fuel≤0
 · have HH:=Lib.hid (And.intro hQ (And.intro h hf));have hd:decide (S.fuel≤0)=true:=decide_eq_true hf;rw [ha,Fr532_lit,g0,g6,g10,g11,g12];clear g0 g6 g10 g11 g12 hQ h hK hI ha hfew hcl hmax hf e
   conv=>arg 2;arg 1;whnf
   go_wp2_with fail
   exact HH.out.1 _ _ ⟨(4,0),rfl,by kernel_rfl,by kernel_rfl,HH.out.2.1.lp.ret (HH.out.2.1.back _ _ (Runs.out HH.out.2.2 HH.out.2.1.lp.fits))⟩
 · have hf0:0<S.fuel:=by omega
   obtain ⟨T',rfl⟩:∃ T',T=T'+1:=⟨T - 1,by omega⟩;have hw:wrap64 (S.fuel - 1)=S.fuel - 1:=by rw [← IntWalk.i64_left];exact IntWalk.i64_in _ (by omega)
   have hw':IntKind.i64.wrap (S.fuel - 1)=S.fuel - 1:=IntWalk.i64_in _ (by omega);have hlp:=h.lp.tick hf0;have HH:=Lib.hid (And.intro h (And.intro hK (And.intro hlp (And.intro hmax (And.intro hf0 hw)))));rw [ha,Fr532_lit,g0,g6,g10,g11,g12];clear g0 g6 g10 g11 g12 hQ h hK hI ha hfew hcl hmax hf0 e hlp hw
   conv=>arg 2;arg 1;whnf
   conv=>arg 2;arg 2;arg 1;whnf
   go_wp2_with fail
   obtain ⟨h,hK,hlp,hmax,hf0,hw⟩:=HH.out;exact hK T' _ _ rfl ⟨⟨by kernel_rfl,rfl,by kernel_rfl,by kernel_rfl,by kernel_rfl,by kernel_rfl⟩,by kernel_rfl,hlp,hmax,hf0,h.fn,h.n,h.back⟩
end
structure RdC (base:Nat) (P:Pr) (kinds:List Int) (A0:Nat→Prop) (T:Nat) (w0:World) (m fb rb:Nat) (io:Option Addr) (ic:Nat) (c0:Cl) (S0:St) (n0:Nat) (A:Nat→Prop) (w:World) (c:Cl) (S:St) (x:In) (xb ab bb cb:Nat) (la:Option Addr) (lc:Nat) (ya yb yc:Wd) (a:Act):Prop where
 sl:SL m fb rb io c0.fn.length ic a
 s12:a.tmps.getD 12 undef=.int .i64 (c.at_+1)
 s13:a.tmps.getD 13 undef=ptr xb
 s14:a.tmps.getD 14 undef=ptr ab
 s15:a.tmps.getD 15 undef=ptr bb
 s16:a.tmps.getD 16 undef=ptr cb
 lp:LoopS base P kinds A0 w0 m fb rb io A T w c S.tick
 hat:At P kinds c S x
 rx:Row w xb 128 [.int .i64 x.op,.int .i64 x.a,.int .i64 x.b,.int .i64 x.c,.slice la x.l.length lc]
 ra:Row w ab 40 ya.cs
 rb_:Row w bb 40 yb.cs
 rc:Row w cb 40 yc.cs
 nx:¬ A xb∧¬ A ab∧¬ A bb∧¬ A cb
 lx:w0.heap.size≤xb∧w0.heap.size≤ab∧w0.heap.size≤bb∧w0.heap.size≤cb
 ne:rb≠ab∧rb≠bb∧rb≠cb∧fb≠ab∧fb≠bb∧fb≠cb∧ab≠bb∧ab≠cb∧bb≠cb
 il:IntsAt base w la x.l
 max:T+1≤400000
 fn:c.fn=c0.fn
 n:S.fuel.toNat≤n0
 back:∀ r S',Runs P kinds c S r S'→Runs P kinds c0 S0 r S'
section
variable {base:Nat} {P:Pr} {kinds:List Int} {A0 A:Nat→Prop} {T:Nat} {w0 w:World} {m fb rb:Nat} {io:Option Addr} {ic:Nat} {c0 c:Cl} {S0 S:St} {n0:Nat} {x:In} {xb ab bb cb:Nat} {la:Option Addr} {lc:Nat} {ya yb yc:Wd} {Q:Exit→Act→World→Prop} {a:Act}
theorem rd_b (hP:PrDoes P kinds) (h:RdB base P kinds A0 T w0 m fb rb io ic c0 S0 n0 A w c S a) (hK:∀ x xb ab bb cb la lc a' w',RdC base P kinds A0 T w0 m fb rb io ic c0 S0 n0 A w' c S x xb ab bb cb la lc Wd.zero Wd.zero Wd.zero a'→Code.wp Tryz.prog (behind 5 runIn) Q a' w'):Code.wp Tryz.prog (behind 2 runIn) Q a w:=by
 have e:behind 2 runIn=.seq (seqL (behind 2 runIn)) (.seq (seqL (behind 3 runIn)) (.seq (seqL (behind 4 runIn)) (behind 5 runIn))):=by kernel_rfl
 rw [e];generalize behind 5 runIn=CT at *;obtain ⟨x,hx⟩:=h.lp.call.inst;have hat:At P kinds c S x:=⟨hP,h.lp.call,h.hf,h.lp.fits,h.lp.evs,hx⟩;have h65:=(h.lp.call.ins hP hx).2.2.2.2.2;have a0:=h.lp.call.a0;have a1:=h.lp.call.a1;obtain ⟨i,hi⟩:=Int.eq_ofNat_of_zero_le a0;have hxi:=hx;rw [hi,Int.toNat_natCast] at hxi;obtain ⟨ib,iof,la,lc,hio,i0,i1,i2,i3,i4,i5⟩:=h.lp.ins i x hxi;have hbl:=i0.1;have x0:=i0.2;have x1:=i1.2;have x2:=i2.2;have x3:=i3.2;have x4:=i4.2;have hib:=World.block_lt_of_cell? w _ x0;have hw1:IntKind.i64.wrap ((i:Int)+1)=(i:Int)+1:=IntWalk.i64_in _ (by omega);have hi0:(0:Int)≤(i:Int):=by omega
 have hi1:(i:Int)<(c0.fn.length:Int):=by have:=h.fn;rw [← this];omega
 obtain ⟨g,g0,g6,g10,g11,g12,ha⟩:=h.sl.frame h.s12;rw [hio] at g10;rw [hi] at g12;obtain ⟨Y,hI⟩:=h.lp.inv;have hlt:=hI.lt;have hlr:=h.lp.rrb.lt;have hlf:=h.lp.rfb.lt;have hs0:=h.lp.fr.size;have hHI:=hI.base_le;have HH:=Lib.hid (And.intro h (And.intro hK (And.intro hat (And.intro i5 (And.intro hi (And.intro hlt (And.intro hlr (And.intro hlf (And.intro hs0 (And.intro hio hHI))))))))));rw [ha,Fr532_lit,g0,g6,g10,g11,g12];clear g0 g6 g10 g11 g12 h hK ha hx hxi hat h65 a0 a1 hi i0 i1 i2 i3 i4 i5 hI hlt hlr hlf hs0 hHI e hP;obtain ⟨op,xa,xb,xc,l⟩:=x;simp only at x0 x1 x2 x3 x4;generalize hfl:c0.fn.length=fl at *;have HFL:=Lib.hid hfl;clear hfl
 conv=>arg 2;arg 1;whnf
 conv=>arg 2;arg 2;arg 1;whnf
 conv=>arg 2;arg 2;arg 2;arg 1;whnf
 go_wp2_with fail
 obtain ⟨h,hK,hat,i5,hi,hlt,hlr,hlf,hs0,hio,hHI⟩:=HH.out;have hfw:Fr Non w ((((w.alloc (.cells #[.int .i64 op,.int .i64 xa,.int .i64 xb,.int .i64 xc,.slice la l.length lc] 128)).alloc (.cells #[.bool false,.int .i64 0,.int .i64 0] 40)).alloc (.cells #[.bool false,.int .i64 0,.int .i64 0] 40)).alloc (.cells #[.bool false,.int .i64 0,.int .i64 0] 40)):=by exact fx
 have nA:∀ k,¬ A (w.heap.size+k):=fun k e=>by have:=hlt _ e;omega
 refine hK ⟨op,xa,xb,xc,l⟩ w.heap.size (w.heap.size+1) (w.heap.size+1+1) (w.heap.size+1+1+1) la lc _ _ { sl:=⟨by kernel_rfl,rfl,by kernel_rfl,by kernel_rfl,by rw [hio,HFL.out];kernel_rfl,by kernel_rfl⟩,s12:=by rw [hi];kernel_rfl,s13:=by kernel_rfl,s14:=by kernel_rfl,s15:=by kernel_rfl,s16:=by kernel_rfl,lp:=h.lp.non hfw,hat:=hat,rx:=(((Row.new' rfl).alloc _).alloc _).alloc _,ra:=((Row.new' (by simp)).alloc _).alloc _,rb_:=(Row.new' (by simp)).alloc _,rc:=Row.new' (by simp),nx:=⟨nA 0,nA 1,nA 2,nA 3⟩,lx:=by omega,ne:=by omega,il:=i5.fr hfw (high_non _),max:=h.max,fn:=h.fn,n:=h.n,back:=h.back }
end
section
variable {base:Nat} {P:Pr} {kinds:List Int} {A0 A:Nat→Prop} {T:Nat} {w0 w:World} {m fb rb:Nat} {io:Option Addr} {ic:Nat} {c0 c:Cl} {S0 S:St} {n0:Nat} {x:In} {xb ab bb cb:Nat} {la:Option Addr} {lc:Nat} {ya yb yc:Wd} {Q:Exit→Act→World→Prop} {a:Act}
theorem RdC.new (h:RdC base P kinds A0 T w0 m fb rb io ic c0 S0 n0 A w c S x xb ab bb cb la lc ya yb yc a) {t:Array Value} (h0:t.size=532) (h1:t.getD 0 undef=ptr m) (h2:t.getD 6 undef=ptr fb) (h3:t.getD 10 undef=.slice io c0.fn.length ic) (h4:t.getD 11 undef=.slice (some ⟨rb,0,none⟩) 16 16) (h5:t.getD 12 undef=.int .i64 (c.at_+1)) (h6:t.getD 13 undef=ptr xb) (h7:t.getD 14 undef=ptr ab) (h8:t.getD 15 undef=ptr bb) (h9:t.getD 16 undef=ptr cb):RdC base P kinds A0 T w0 m fb rb io ic c0 S0 n0 A w c S x xb ab bb cb la lc ya yb yc ⟨t,[]⟩ :=
 { h with sl:=⟨h0,rfl,h1,h2,h3,h4⟩,s12:=h5,s13:=h6,s14:=h7,s15:=h8,s16:=h9 }
theorem RdC.frame (h:RdC base P kinds A0 T w0 m fb rb io ic c0 S0 n0 A w c S x xb ab bb cb la lc ya yb yc a):∃ g:Nat→Value,g 0=(.pointer (some ⟨m,0,none⟩))∧g 6=(.pointer (some ⟨fb,0,none⟩))∧g 10=.slice io c0.fn.length ic∧g 11=.slice (some ⟨rb,0,none⟩) 16 16∧g 12=.int .i64 (c.at_+1)∧g 13=(.pointer (some ⟨xb,0,none⟩))∧g 14=(.pointer (some ⟨ab,0,none⟩))∧g 15=(.pointer (some ⟨bb,0,none⟩))∧g 16=(.pointer (some ⟨cb,0,none⟩))∧a=Fr532 g :=
 ⟨fun i=>a.tmps.getD i undef,h.sl.s0,h.sl.s6,h.sl.s10,h.sl.s11,h.s12,h.s13,h.s14,h.s15,h.s16,Fr532_view a h.sl.size h.sl.dfr⟩
theorem row_set3 {w:World} {b:Nat} {y:Wd} (h:Row w b 40 y.cs) (z:Wd):Row (((w.setCell ⟨b,0,none⟩ (.bool z.p)).setCell ⟨b,1,none⟩ (.int .i64 z.a)).setCell ⟨b,2,none⟩ (.int .i64 z.n)) b 40 z.cs:=((h.set_same 0 (.bool z.p)).set_same 1 (.int .i64 z.a)).set_same 2 (.int .i64 z.n)
theorem LoopS.set3 {S:St} (h:LoopS base P kinds A0 w0 m fb rb io A T w c S) {b:Nat} (h1:¬ A b) (h2:w0.heap.size≤b) (h3:fb≠b) (h4:rb≠b) (z:Wd):LoopS base P kinds A0 w0 m fb rb io A T (((w.setCell ⟨b,0,none⟩ (.bool z.p)).setCell ⟨b,1,none⟩ (.int .i64 z.a)).setCell ⟨b,2,none⟩ (.int .i64 z.n)) c S :=
 h.frE (Fr.set3 w b 0 1 2 _ _ _) fun y hy=>by subst hy;exact ⟨h1,h2,fun e=>h3 e.symm,fun e=>h4 e.symm⟩
theorem RdC.set_a (h:RdC base P kinds A0 T w0 m fb rb io ic c0 S0 n0 A w c S x xb ab bb cb la lc ya yb yc a) (z:Wd):RdC base P kinds A0 T w0 m fb rb io ic c0 S0 n0 A (((w.setCell ⟨ab,0,none⟩ (.bool z.p)).setCell ⟨ab,1,none⟩ (.int .i64 z.a)).setCell ⟨ab,2,none⟩ (.int .i64 z.n)) c S x xb ab bb cb la lc z yb yc a:=by
 have f:=Fr.set3 w ab 0 1 2 (.bool z.p) (.int .i64 z.a) (.int .i64 z.n);have hH:High base (fun y=>y=ab):=fun y hy=>by rw [hy];exact Nat.le_trans h.lp.hb h.lx.2.1
 exact { h with
  lp:=h.lp.set3 h.nx.2.1 h.lx.2.1 h.ne.2.2.2.1 h.ne.1 z
  rx:=f.row h.rx fun e=>h.rx.ne h.ra (by decide) e
  ra:=row_set3 h.ra z
  rb_:=f.row h.rb_ fun e=>h.ne.2.2.2.2.2.2.1 e.symm
  rc:=f.row h.rc fun e=>h.ne.2.2.2.2.2.2.2.1 e.symm
  il:=h.il.fr f hH }
theorem rf_a (h:RdC base P kinds A0 T w0 m fb rb io ic c0 S0 n0 A w c S x xb ab bb cb la lc Wd.zero yb yc a) (hK:∀ a' w',RdC base P kinds A0 T w0 m fb rb io ic c0 S0 n0 A w' c S x xb ab bb cb la lc (fieldW c x.a) yb yc a'→Code.wp Tryz.prog (behind 6 runIn) Q a' w'):Code.wp Tryz.prog (behind 5 runIn) Q a w:=by
 have e:behind 5 runIn=.seq (seqL (behind 5 runIn)) (behind 6 runIn):=by kernel_rfl
 rw [e];generalize behind 6 runIn=CT at *;obtain ⟨x0,x1,x2,x3,x4,xz⟩:=row5 h.rx;obtain ⟨v0,v1,v2,vz⟩:=row3 (show Row w ab 40 [.bool false,.int .i64 0,.int .i64 0] from h.ra);have hlx:=h.rx.lt;have hlv:=h.ra.lt;have hlr:=h.lp.rrb.lt;obtain ⟨g,g0,g6,g10,g11,g12,g13,g14,g15,g16,ha⟩:=h.frame;by_cases h0:0≤x.a
 · by_cases h1:x.a<16
   · obtain ⟨k,hk,hk2⟩:=Reg.nat (i:=x.a) ⟨h0,h1⟩;obtain ⟨r0,r1,r2,rz⟩:=h.lp.cells hk2;have hw:fieldW c x.a=c.reg k:=by rw [fieldW_reg h0 h1,hk]
     rw [hw] at hK;rw [hk] at x1;have hk0:(0:Int)≤(k:Int):=by omega
     have hk1:(k:Int)<16:=by omega
     have hset:=h.set_a (c.reg k);have HH:=Lib.hid (And.intro hset hK);clear h0 h1 hk hw hset;rw [ha,Fr532_lit,g0,g6,g10,g11,g12,g13,g14,g15,g16];clear g0 g6 g10 g11 g12 g13 g14 g15 g16 h hK ha e
     conv=>arg 2;arg 1;whnf
     go_wp2_with fail
     refine HH.out.2 _ _ (HH.out.1.new (by kernel_rfl) (by kernel_rfl) (by kernel_rfl) (by kernel_rfl) (by kernel_rfl) (by kernel_rfl) (by kernel_rfl) (by kernel_rfl) (by kernel_rfl) (by kernel_rfl) )
   · have hw:fieldW c x.a=Wd.zero:=by unfold fieldW;rw [if_neg (by omega)]
     rw [hw] at hK;have hd:decide (x.a<16)=false:=decide_eq_false h1;have HH:=Lib.hid (And.intro h hK);clear hw;rw [ha,Fr532_lit,g0,g6,g10,g11,g12,g13,g14,g15,g16];clear g0 g6 g10 g11 g12 g13 g14 g15 g16 h hK ha e
     conv=>arg 2;arg 1;whnf
     go_wp2_with fail
     exact HH.out.2 _ _ (HH.out.1.new (by kernel_rfl) (by kernel_rfl) (by kernel_rfl) (by kernel_rfl) (by kernel_rfl) (by kernel_rfl) (by kernel_rfl) (by kernel_rfl) (by kernel_rfl) (by kernel_rfl) )
 · have hw:fieldW c x.a=Wd.zero:=by unfold fieldW;rw [if_neg (by omega)]
   rw [hw] at hK;have hd:decide (0≤x.a)=false:=decide_eq_false h0;have HH:=Lib.hid (And.intro h hK);clear hw;rw [ha,Fr532_lit,g0,g6,g10,g11,g12,g13,g14,g15,g16];clear g0 g6 g10 g11 g12 g13 g14 g15 g16 h hK ha e
   conv=>arg 2;arg 1;whnf
   go_wp2_with fail
   exact HH.out.2 _ _ (HH.out.1.new (by kernel_rfl) (by kernel_rfl) (by kernel_rfl) (by kernel_rfl) (by kernel_rfl) (by kernel_rfl) (by kernel_rfl) (by kernel_rfl) (by kernel_rfl) (by kernel_rfl) )
theorem RdC.set_b (h:RdC base P kinds A0 T w0 m fb rb io ic c0 S0 n0 A w c S x xb ab bb cb la lc ya yb yc a) (z:Wd):RdC base P kinds A0 T w0 m fb rb io ic c0 S0 n0 A (((w.setCell ⟨bb,0,none⟩ (.bool z.p)).setCell ⟨bb,1,none⟩ (.int .i64 z.a)).setCell ⟨bb,2,none⟩ (.int .i64 z.n)) c S x xb ab bb cb la lc ya z yc a:=by
 have f:=Fr.set3 w bb 0 1 2 (.bool z.p) (.int .i64 z.a) (.int .i64 z.n);have hH:High base (fun y=>y=bb):=fun y hy=>by rw [hy];exact Nat.le_trans h.lp.hb h.lx.2.2.1
 exact { h with
  lp:=h.lp.set3 h.nx.2.2.1 h.lx.2.2.1 h.ne.2.2.2.2.1 h.ne.2.1 z
  rx:=f.row h.rx fun e=>h.rx.ne h.rb_ (by decide) e
  ra:=f.row h.ra fun e=>h.ne.2.2.2.2.2.2.1 e
  rb_:=row_set3 h.rb_ z
  rc:=f.row h.rc fun e=>h.ne.2.2.2.2.2.2.2.2 e.symm
  il:=h.il.fr f hH }
theorem rf_b (h:RdC base P kinds A0 T w0 m fb rb io ic c0 S0 n0 A w c S x xb ab bb cb la lc ya Wd.zero yc a) (hK:∀ a' w',RdC base P kinds A0 T w0 m fb rb io ic c0 S0 n0 A w' c S x xb ab bb cb la lc ya (fieldW c x.b) yc a'→Code.wp Tryz.prog (behind 7 runIn) Q a' w'):Code.wp Tryz.prog (behind 6 runIn) Q a w:=by
 have e:behind 6 runIn=.seq (seqL (behind 6 runIn)) (behind 7 runIn):=by kernel_rfl
 rw [e];generalize behind 7 runIn=CT at *;obtain ⟨x0,x1,x2,x3,x4,xz⟩:=row5 h.rx;obtain ⟨v0,v1,v2,vz⟩:=row3 (show Row w bb 40 [.bool false,.int .i64 0,.int .i64 0] from h.rb_);have hlx:=h.rx.lt;have hlv:=h.rb_.lt;have hlr:=h.lp.rrb.lt;obtain ⟨g,g0,g6,g10,g11,g12,g13,g14,g15,g16,ha⟩:=h.frame;by_cases h0:0≤x.b
 · by_cases h1:x.b<16
   · obtain ⟨k,hk,hk2⟩:=Reg.nat (i:=x.b) ⟨h0,h1⟩;obtain ⟨r0,r1,r2,rz⟩:=h.lp.cells hk2;have hw:fieldW c x.b=c.reg k:=by rw [fieldW_reg h0 h1,hk]
     rw [hw] at hK;rw [hk] at x2;have hk0:(0:Int)≤(k:Int):=by omega
     have hk1:(k:Int)<16:=by omega
     have hset:=h.set_b (c.reg k);have HH:=Lib.hid (And.intro hset hK);clear h0 h1 hk hw hset;rw [ha,Fr532_lit,g0,g6,g10,g11,g12,g13,g14,g15,g16];clear g0 g6 g10 g11 g12 g13 g14 g15 g16 h hK ha e
     conv=>arg 2;arg 1;whnf
     go_wp2_with fail
     refine HH.out.2 _ _ (HH.out.1.new (by kernel_rfl) (by kernel_rfl) (by kernel_rfl) (by kernel_rfl) (by kernel_rfl) (by kernel_rfl) (by kernel_rfl) (by kernel_rfl) (by kernel_rfl) (by kernel_rfl) )
   · have hw:fieldW c x.b=Wd.zero:=by unfold fieldW;rw [if_neg (by omega)]
     rw [hw] at hK;have hd:decide (x.b<16)=false:=decide_eq_false h1;have HH:=Lib.hid (And.intro h hK);clear hw;rw [ha,Fr532_lit,g0,g6,g10,g11,g12,g13,g14,g15,g16];clear g0 g6 g10 g11 g12 g13 g14 g15 g16 h hK ha e
     conv=>arg 2;arg 1;whnf
     go_wp2_with fail
     exact HH.out.2 _ _ (HH.out.1.new (by kernel_rfl) (by kernel_rfl) (by kernel_rfl) (by kernel_rfl) (by kernel_rfl) (by kernel_rfl) (by kernel_rfl) (by kernel_rfl) (by kernel_rfl) (by kernel_rfl) )
 · have hw:fieldW c x.b=Wd.zero:=by unfold fieldW;rw [if_neg (by omega)]
   rw [hw] at hK;have hd:decide (0≤x.b)=false:=decide_eq_false h0;have HH:=Lib.hid (And.intro h hK);clear hw;rw [ha,Fr532_lit,g0,g6,g10,g11,g12,g13,g14,g15,g16];clear g0 g6 g10 g11 g12 g13 g14 g15 g16 h hK ha e
   conv=>arg 2;arg 1;whnf
   go_wp2_with fail
   exact HH.out.2 _ _ (HH.out.1.new (by kernel_rfl) (by kernel_rfl) (by kernel_rfl) (by kernel_rfl) (by kernel_rfl) (by kernel_rfl) (by kernel_rfl) (by kernel_rfl) (by kernel_rfl) (by kernel_rfl) )
theorem RdC.set_c (h:RdC base P kinds A0 T w0 m fb rb io ic c0 S0 n0 A w c S x xb ab bb cb la lc ya yb yc a) (z:Wd):RdC base P kinds A0 T w0 m fb rb io ic c0 S0 n0 A (((w.setCell ⟨cb,0,none⟩ (.bool z.p)).setCell ⟨cb,1,none⟩ (.int .i64 z.a)).setCell ⟨cb,2,none⟩ (.int .i64 z.n)) c S x xb ab bb cb la lc ya yb z a:=by
 have f:=Fr.set3 w cb 0 1 2 (.bool z.p) (.int .i64 z.a) (.int .i64 z.n);have hH:High base (fun y=>y=cb):=fun y hy=>by rw [hy];exact Nat.le_trans h.lp.hb h.lx.2.2.2
 exact { h with
  lp:=h.lp.set3 h.nx.2.2.2 h.lx.2.2.2 h.ne.2.2.2.2.2.1 h.ne.2.2.1 z
  rx:=f.row h.rx fun e=>h.rx.ne h.rc (by decide) e
  ra:=f.row h.ra fun e=>h.ne.2.2.2.2.2.2.2.1 e
  rb_:=f.row h.rb_ fun e=>h.ne.2.2.2.2.2.2.2.2 e
  rc:=row_set3 h.rc z
  il:=h.il.fr f hH }
theorem rf_c (h:RdC base P kinds A0 T w0 m fb rb io ic c0 S0 n0 A w c S x xb ab bb cb la lc ya yb Wd.zero a) (hK:∀ a' w',RdC base P kinds A0 T w0 m fb rb io ic c0 S0 n0 A w' c S x xb ab bb cb la lc ya yb (fieldW c x.c) a'→Code.wp Tryz.prog (behind 8 runIn) Q a' w'):Code.wp Tryz.prog (behind 7 runIn) Q a w:=by
 have e:behind 7 runIn=.seq (seqL (behind 7 runIn)) (behind 8 runIn):=by kernel_rfl
 rw [e];generalize behind 8 runIn=CT at *;obtain ⟨x0,x1,x2,x3,x4,xz⟩:=row5 h.rx;obtain ⟨v0,v1,v2,vz⟩:=row3 (show Row w cb 40 [.bool false,.int .i64 0,.int .i64 0] from h.rc);have hlx:=h.rx.lt;have hlv:=h.rc.lt;have hlr:=h.lp.rrb.lt;obtain ⟨g,g0,g6,g10,g11,g12,g13,g14,g15,g16,ha⟩:=h.frame;by_cases h0:0≤x.c
 · by_cases h1:x.c<16
   · obtain ⟨k,hk,hk2⟩:=Reg.nat (i:=x.c) ⟨h0,h1⟩;obtain ⟨r0,r1,r2,rz⟩:=h.lp.cells hk2;have hw:fieldW c x.c=c.reg k:=by rw [fieldW_reg h0 h1,hk]
     rw [hw] at hK;rw [hk] at x3;have hk0:(0:Int)≤(k:Int):=by omega
     have hk1:(k:Int)<16:=by omega
     have hset:=h.set_c (c.reg k);have HH:=Lib.hid (And.intro hset hK);clear h0 h1 hk hw hset;rw [ha,Fr532_lit,g0,g6,g10,g11,g12,g13,g14,g15,g16];clear g0 g6 g10 g11 g12 g13 g14 g15 g16 h hK ha e
     conv=>arg 2;arg 1;whnf
     go_wp2_with fail
     refine HH.out.2 _ _ (HH.out.1.new (by kernel_rfl) (by kernel_rfl) (by kernel_rfl) (by kernel_rfl) (by kernel_rfl) (by kernel_rfl) (by kernel_rfl) (by kernel_rfl) (by kernel_rfl) (by kernel_rfl) )
   · have hw:fieldW c x.c=Wd.zero:=by unfold fieldW;rw [if_neg (by omega)]
     rw [hw] at hK;have hd:decide (x.c<16)=false:=decide_eq_false h1;have HH:=Lib.hid (And.intro h hK);clear hw;rw [ha,Fr532_lit,g0,g6,g10,g11,g12,g13,g14,g15,g16];clear g0 g6 g10 g11 g12 g13 g14 g15 g16 h hK ha e
     conv=>arg 2;arg 1;whnf
     go_wp2_with fail
     exact HH.out.2 _ _ (HH.out.1.new (by kernel_rfl) (by kernel_rfl) (by kernel_rfl) (by kernel_rfl) (by kernel_rfl) (by kernel_rfl) (by kernel_rfl) (by kernel_rfl) (by kernel_rfl) (by kernel_rfl) )
 · have hw:fieldW c x.c=Wd.zero:=by unfold fieldW;rw [if_neg (by omega)]
   rw [hw] at hK;have hd:decide (0≤x.c)=false:=decide_eq_false h0;have HH:=Lib.hid (And.intro h hK);clear hw;rw [ha,Fr532_lit,g0,g6,g10,g11,g12,g13,g14,g15,g16];clear g0 g6 g10 g11 g12 g13 g14 g15 g16 h hK ha e
   conv=>arg 2;arg 1;whnf
   go_wp2_with fail
   exact HH.out.2 _ _ (HH.out.1.new (by kernel_rfl) (by kernel_rfl) (by kernel_rfl) (by kernel_rfl) (by kernel_rfl) (by kernel_rfl) (by kernel_rfl) (by kernel_rfl) (by kernel_rfl) (by kernel_rfl) )
end
end Go.Proofs.YtlbomnbpahmphaaGreat
