/- The code of the document's 'run', in pieces; its frame; what stands where its loop begins, and where an instruction is looked at. No condition. Printed by genrun1.py. -/
import Derived.Test.YtlbomnbpahmphaaGreatD31
set_option maxRecDepth 100000
set_option maxHeartbeats 600000
namespace Go.Proofs.YtlbomnbpahmphaaGreat
open Go.RowKit
def firstLoop:Code→Option Code
 | .loop c=>some c
 | .seq a b=>match firstLoop a with
  | some c=>some c
  | none=>firstLoop b
 | .block _ c=>firstLoop c
 | .scope c=>firstLoop c
 | .cond _ a b=>match firstLoop a with
  | some c=>some c
  | none=>firstLoop b
 | _=>none
noncomputable def runBody:Code:=(Tryz.f86.body.bind firstLoop).getD .skip
def seqL:Code→Code
 | .seq a _=>a
 | _=>.skip
def seqR:Code→Code
 | .seq _ b=>b
 | _=>.skip
def blkB:Code→Code
 | .block _ c=>c
 | _=>.skip
def condT:Code→Code
 | .cond _ a _=>a
 | _=>.skip
def condE:Code→Code
 | .cond _ _ b=>b
 | _=>.skip
def behind:Nat→Code→Code
 | 0,c=>c
 | n+1,c=>behind n (seqR c)
def Fr532 (g:Nat→Value):Act:=⟨((List.range 532).map g).toArray,[]⟩
theorem arr_view (t:Array Value) (n:Nat) (h:t.size=n):t=((List.range n).map fun i=>t.getD i undef).toArray:=by
 refine Array.ext (by simp [h]) fun i h3 h4=>?_;simp [Array.getD,h3]
theorem Fr532_lit (g:Nat→Value):Fr532 g=⟨#[g 0,g 1,g 2,g 3,g 4,g 5,g 6,g 7,g 8,g 9,g 10,g 11,g 12,g 13,g 14,g 15,g 16,g 17,g 18,g 19,g 20,g 21,g 22,g 23,g 24,g 25,g 26,g 27,g 28,g 29,g 30,g 31,g 32,g 33,g 34,g 35,g 36,g 37,g 38,g 39,g 40,g 41,g 42,g 43,g 44,g 45,g 46,g 47,g 48,g 49,g 50,g 51,g 52,g 53,g 54,g 55,g 56,g 57,g 58,g 59,g 60,g 61,g 62,g 63,g 64,g 65,g 66,g 67,g 68,g 69,g 70,g 71,g 72,g 73,g 74,g 75,g 76,g 77,g 78,g 79,g 80,g 81,g 82,g 83,g 84,g 85,g 86,g 87,g 88,g 89,g 90,g 91,g 92,g 93,g 94,g 95,g 96,g 97,g 98,g 99,g 100,g 101,g 102,g 103,g 104,g 105,g 106,g 107,g 108,g 109,g 110,g 111,g 112,g 113,g 114,g 115,g 116,g 117,g 118,g 119,g 120,g 121,g 122,g 123,g 124,g 125,g 126,g 127,g 128,g 129,g 130,g 131,g 132,g 133,g 134,g 135,g 136,g 137,g 138,g 139,g 140,g 141,g 142,g 143,g 144,g 145,g 146,g 147,g 148,g 149,g 150,g 151,g 152,g 153,g 154,g 155,g 156,g 157,g 158,g 159,g 160,g 161,g 162,g 163,g 164,g 165,g 166,g 167,g 168,g 169,g 170,g 171,g 172,g 173,g 174,g 175,g 176,g 177,g 178,g 179,g 180,g 181,g 182,g 183,g 184,g 185,g 186,g 187,g 188,g 189,g 190,g 191,g 192,g 193,g 194,g 195,g 196,g 197,g 198,g 199,g 200,g 201,g 202,g 203,g 204,g 205,g 206,g 207,g 208,g 209,g 210,g 211,g 212,g 213,g 214,g 215,g 216,g 217,g 218,g 219,g 220,g 221,g 222,g 223,g 224,g 225,g 226,g 227,g 228,g 229,g 230,g 231,g 232,g 233,g 234,g 235,g 236,g 237,g 238,g 239,g 240,g 241,g 242,g 243,g 244,g 245,g 246,g 247,g 248,g 249,g 250,g 251,g 252,g 253,g 254,g 255,g 256,g 257,g 258,g 259,g 260,g 261,g 262,g 263,g 264,g 265,g 266,g 267,g 268,g 269,g 270,g 271,g 272,g 273,g 274,g 275,g 276,g 277,g 278,g 279,g 280,g 281,g 282,g 283,g 284,g 285,g 286,g 287,g 288,g 289,g 290,g 291,g 292,g 293,g 294,g 295,g 296,g 297,g 298,g 299,g 300,g 301,g 302,g 303,g 304,g 305,g 306,g 307,g 308,g 309,g 310,g 311,g 312,g 313,g 314,g 315,g 316,g 317,g 318,g 319,g 320,g 321,g 322,g 323,g 324,g 325,g 326,g 327,g 328,g 329,g 330,g 331,g 332,g 333,g 334,g 335,g 336,g 337,g 338,g 339,g 340,g 341,g 342,g 343,g 344,g 345,g 346,g 347,g 348,g 349,g 350,g 351,g 352,g 353,g 354,g 355,g 356,g 357,g 358,g 359,g 360,g 361,g 362,g 363,g 364,g 365,g 366,g 367,g 368,g 369,g 370,g 371,g 372,g 373,g 374,g 375,g 376,g 377,g 378,g 379,g 380,g 381,g 382,g 383,g 384,g 385,g 386,g 387,g 388,g 389,g 390,g 391,g 392,g 393,g 394,g 395,g 396,g 397,g 398,g 399,g 400,g 401,g 402,g 403,g 404,g 405,g 406,g 407,g 408,g 409,g 410,g 411,g 412,g 413,g 414,g 415,g 416,g 417,g 418,g 419,g 420,g 421,g 422,g 423,g 424,g 425,g 426,g 427,g 428,g 429,g 430,g 431,g 432,g 433,g 434,g 435,g 436,g 437,g 438,g 439,g 440,g 441,g 442,g 443,g 444,g 445,g 446,g 447,g 448,g 449,g 450,g 451,g 452,g 453,g 454,g 455,g 456,g 457,g 458,g 459,g 460,g 461,g 462,g 463,g 464,g 465,g 466,g 467,g 468,g 469,g 470,g 471,g 472,g 473,g 474,g 475,g 476,g 477,g 478,g 479,g 480,g 481,g 482,g 483,g 484,g 485,g 486,g 487,g 488,g 489,g 490,g 491,g 492,g 493,g 494,g 495,g 496,g 497,g 498,g 499,g 500,g 501,g 502,g 503,g 504,g 505,g 506,g 507,g 508,g 509,g 510,g 511,g 512,g 513,g 514,g 515,g 516,g 517,g 518,g 519,g 520,g 521,g 522,g 523,g 524,g 525,g 526,g 527,g 528,g 529,g 530,g 531],[]⟩:=rfl
theorem Fr532_view (a:Act) (h1:a.tmps.size=532) (h2:a.defers=[]):a=Fr532 fun i=>a.tmps.getD i undef:=by
 obtain ⟨t,d⟩:=a;cases h2
 exact congrArg (fun z=>(⟨z,[]⟩:Act)) (arr_view t 532 h1)
structure SL (m fb rb:Nat) (io:Option Addr) (fl ic:Nat) (a:Act):Prop where
 size:a.tmps.size=532
 dfr:a.defers=[]
 s0:a.tmps.getD 0 undef=ptr m
 s6:a.tmps.getD 6 undef=ptr fb
 s10:a.tmps.getD 10 undef=.slice io fl ic
 s11:a.tmps.getD 11 undef=.slice (some ⟨rb,0,none⟩) 16 16
structure LoopS (base:Nat) (P:Pr) (kinds:List Int) (A0:Nat→Prop) (w0:World) (m fb rb:Nat) (io:Option Addr) (A:Nat→Prop) (T:Nat) (w:World) (c:Cl) (S:St):Prop where
 inv:NInv base P A T w m S
 sub:∀ x,A x→A0 x∨w0.heap.size≤x
 fr:Fr A0 w0 w
 kp:Kp w0 w m
 m0:m<w0.heap.size
 rrb:Row w rb 40 (flat c.regs)
 rfb:Row w fb 40 c.frame.cs
 nrb:¬ A rb
 nfb:¬ A fb
 lrb:w0.heap.size≤rb
 lfb:w0.heap.size≤fb
 lne:fb≠rb
 hb:base≤w0.heap.size
 call:CallR P kinds c
 fits:S.mem.fits
 evs:∀ y∈S.ev,I64 y.2
 ins:InsAt base w io c.fn
def fieldW (c:Cl) (i:Int):Wd:=if 0≤i∧i<16 then c.reg i else Wd.zero
structure SwS (base:Nat) (P:Pr) (kinds:List Int) (A0:Nat→Prop) (w0:World) (m fb rb:Nat) (io:Option Addr) (A:Nat→Prop) (T:Nat) (w:World) (c:Cl) (S:St) (x:In) (xb ab bb cb:Nat) (la:Option Addr) (lc:Nat):Prop where
 lp:LoopS base P kinds A0 w0 m fb rb io A T w c S.tick
 hat:At P kinds c S x
 rx:Row w xb 128 [.int .i64 x.op,.int .i64 x.a,.int .i64 x.b,.int .i64 x.c,.slice la x.l.length lc]
 ra:Row w ab 40 (fieldW c x.a).cs
 rb_:Row w bb 40 (fieldW c x.b).cs
 rc:Row w cb 40 (fieldW c x.c).cs
 nx:¬ A xb∧¬ A ab∧¬ A bb∧¬ A cb
 lx:w0.heap.size≤xb∧w0.heap.size≤ab∧w0.heap.size≤bb∧w0.heap.size≤cb
 ne:rb≠ab∧rb≠bb∧rb≠cb∧fb≠ab∧fb≠bb∧fb≠cb∧ab≠bb∧ab≠cb∧bb≠cb
 il:IntsAt base w la x.l
def RetO (base:Nat) (P:Pr) (kinds:List Int) (A0:Nat→Prop) (T:Nat) (w0:World) (m:Nat) (c0:Cl) (S0:St) (r:Int × Int) (w:World):Prop:=∃ S',Runs P kinds c0 S0 r S'∧NAft base P A0 T w0 w m S'
def RetP (base:Nat) (P:Pr) (kinds:List Int) (A0:Nat→Prop) (T:Nat) (w0:World) (m:Nat) (c0:Cl) (S0:St) (a:Act) (w:World):Prop:=∃ r:Int × Int,a.defers=[]∧a.tmps.getD 8 undef=.int .i64 r.1∧a.tmps.getD 9 undef=.int .i64 r.2∧RetO base P kinds A0 T w0 m c0 S0 r w
def GoesP (base:Nat) (P:Pr) (kinds:List Int) (A0:Nat→Prop) (T:Nat) (w0:World) (m fb rb:Nat) (io:Option Addr) (c0:Cl) (S0:St) (n0:Nat) (at_:Int) (w:World):Prop :=
 ∃ c S A,at_=c.at_∧c.fn=c0.fn∧LoopS base P kinds A0 w0 m fb rb io A T w c S∧S.fuel.toNat<n0∧∀ r S',Runs P kinds c S r S'→Runs P kinds c0 S0 r S'
def MidP (base:Nat) (P:Pr) (kinds:List Int) (A0:Nat→Prop) (T:Nat) (w0:World) (m fb rb:Nat) (io:Option Addr) (ic:Nat) (c0:Cl) (S0:St) (n0:Nat) (a:Act) (w:World):Prop :=
 SL m fb rb io c0.fn.length ic a∧∃ e at_:Int,a.tmps.getD 17 undef=.int .i64 e∧a.tmps.getD 12 undef=.int .i64 at_∧((e=0∧GoesP base P kinds A0 T w0 m fb rb io c0 S0 n0 at_ w)∨(e≠0∧RetO base P kinds A0 T w0 m c0 S0 (outR e) w))
section
variable {base:Nat} {P:Pr} {kinds:List Int} {A0 A:Nat→Prop} {T T':Nat} {w0 w w' w1:World} {m fb rb:Nat} {io:Option Addr} {c:Cl} {S S':St} {x:In} {xb ab bb cb:Nat} {la:Option Addr} {lc:Nat}
theorem LoopS.frE {E:Nat→Prop} (h:LoopS base P kinds A0 w0 m fb rb io A T w c S) (f:Fr E w w') (hA:∀ y,E y→¬ A y∧w0.heap.size≤y∧y≠fb∧y≠rb):LoopS base P kinds A0 w0 m fb rb io A T w' c S:=by
 obtain ⟨Y,hI⟩:=h.inv;have hH:High base E:=fun y hy=>Nat.le_trans h.hb (hA y hy).2.1
 exact { h with
  inv:=⟨Y,hI.frE f hH fun y hy e=>(hA y e).1 hy⟩
  fr:=h.fr.then f fun y hy e=>absurd (hA y e).2.1 (by omega)
  kp:=h.kp.trans (Kp.fr f hI.mlt fun e=>(hA m e).1 hI.am)
  rrb:=f.row h.rrb fun e=>(hA rb e).2.2.2 rfl
  rfb:=f.row h.rfb fun e=>(hA fb e).2.2.1 rfl
  ins:=h.ins.fr f hH }
theorem LoopS.non (h:LoopS base P kinds A0 w0 m fb rb io A T w c S) (f:Fr Non w w'):LoopS base P kinds A0 w0 m fb rb io A T w' c S:=h.frE f fun _ e=>e.elim
theorem LoopS.step (h:LoopS base P kinds A0 w0 m fb rb io A T w c S) (hA:NAft base P A T' w w' m S') (hm:S'.mem.fits) (he:S'.ev=S.ev):∃ A',LoopS base P kinds A0 w0 m fb rb io A' T' w' c S'∧(∀ y,A' y→A y∨w.heap.size≤y)∧Fr A w w':=by
 obtain ⟨A',hI,hsub,hfr,hkp⟩:=hA;obtain ⟨Y,hI0⟩:=h.inv;have hs:=h.fr.size;have hHA:High base A:=hI0.high
 refine ⟨A',{ h with
  inv:=hI
  sub:=fun y hy=>(hsub y hy).elim (h.sub y) fun e=>Or.inr (by omega)
  fr:=h.fr.then hfr fun y hy e=>(h.sub y e).elim id fun e=>by omega
  kp:=h.kp.trans hkp
  rrb:=hfr.row h.rrb h.nrb
  rfb:=hfr.row h.rfb h.nfb
  nrb:=fun e=>(hsub _ e).elim h.nrb fun e=>by have:=h.rrb.lt;omega
  nfb:=fun e=>(hsub _ e).elim h.nfb fun e=>by have:=h.rfb.lt;omega
  fits:=hm
  evs:=by rw [he];exact h.evs
  ins:=h.ins.fr hfr hHA },hsub,hfr⟩
theorem LoopS.reg (h:LoopS base P kinds A0 w0 m fb rb io A T w c S) {i:Nat} (_hi:i<16) {y:Wd} (hy:y.ok):LoopS base P kinds A0 w0 m fb rb io A T (((w.setCell ⟨rb,i * 3,none⟩ (.bool y.p)).setCell ⟨rb,i * 3+1,none⟩ (.int .i64 y.a)).setCell ⟨rb,i * 3+2,none⟩ (.int .i64 y.n)) (c.put i y) S:=by
 obtain ⟨Y,hI⟩:=h.inv;have f:=Fr.set3 w rb (i * 3) (i * 3+1) (i * 3+2) (.bool y.p) (.int .i64 y.a) (.int .i64 y.n);have hH:High base (fun z=>z=rb):=fun z hz=>by rw [hz];exact Nat.le_trans h.hb h.lrb
 refine { h with
  inv:=⟨Y,hI.frE f hH fun z hz e=>h.nrb (e ▸ hz)⟩
  fr:=h.fr.then f fun z hz e=>by have:=h.lrb;omega
  kp:=h.kp.trans (Kp.fr f hI.mlt fun e=>h.nrb (e ▸ hI.am))
  rrb:=?_
  rfb:=f.row h.rfb fun e=>h.lne e
  call:=h.call.elsewhere rfl rfl h.call.a0 h.call.a1 (h.call.fits.put hy _) (by simp [Cl.put,h.call.len])
  ins:=h.ins.fr f hH }
 have:=((h.rrb.set_same (i * 3) (.bool y.p)).set_same (i * 3+1) (.int .i64 y.a)).set_same (i * 3+2) (.int .i64 y.n);rw [flat_set] at this;have hp:(c.put i y).regs=c.regs.set i y:=by unfold Cl.put;simp
 rw [hp];exact this
theorem LoopS.goto (h:LoopS base P kinds A0 w0 m fb rb io A T w c S) {n:Int} (h0:0≤n) (h1:n<c.fn.length):LoopS base P kinds A0 w0 m fb rb io A T w { c with at_:=n } S :=
 { h with call:=h.call.elsewhere rfl rfl h0 h1 h.call.fits h.call.len }
theorem SwS.inc (h:SwS base P kinds A0 w0 m fb rb io A T w c S x xb ab bb cb la lc) (ho:x.op ∉ [13,15,27,28,(29:Int)]):LoopS base P kinds A0 w0 m fb rb io A T w c.inc S.tick:=h.lp.goto (h.hat.nx ho).1 (h.hat.nx ho).2
theorem LoopS.moreT (h:LoopS base P kinds A0 w0 m fb rb io A T w c S) (hT:T≤T') (hm:T'≤400000):LoopS base P kinds A0 w0 m fb rb io A T' w c S:=by
 obtain ⟨Y,hI⟩:=h.inv;exact { h with inv:=⟨Y,hI.more hT hm⟩ }
theorem fieldW_reg {i:Int} (h0:0≤i) (h1:i<16) (c:Cl):fieldW c i=c.reg i:=if_pos ⟨h0,h1⟩
theorem LoopS.ret (h:LoopS base P kinds A0 w0 m fb rb io A T w c S) {c0:Cl} {S0:St} {r:Int × Int} (hr:Runs P kinds c0 S0 r S):RetO base P kinds A0 T w0 m c0 S0 r w:=⟨S,hr,A,h.inv,h.sub,h.fr,h.kp⟩
end
noncomputable def runIn:Code:=blkB runBody
noncomputable def runSw:Code:=behind 9 runIn
noncomputable def runChain:Code:=blkB (seqR (seqL runSw))
def chainN:Nat→Code→Code
 | 0,c=>c
 | n+1,c=>chainN n (condE (seqR c))
noncomputable def runBr (n:Nat):Code:=condT (seqR (chainN n runChain))
structure RunQ (base:Nat) (P:Pr) (kinds:List Int) (A0:Nat→Prop) (T:Nat) (w0:World) (m fb rb:Nat) (io:Option Addr) (ic:Nat) (c0:Cl) (S0:St) (n0:Nat) (Q:Exit→Act→World→Prop):Prop where
 on:∀ a w,MidP base P kinds A0 T w0 m fb rb io ic c0 S0 n0 a w→Q .normal a w
 ret:∀ a w,RetP base P kinds A0 T w0 m c0 S0 a w→Q .ret a w
structure SwR (base:Nat) (P:Pr) (kinds:List Int) (A0:Nat→Prop) (T:Nat) (w0:World) (m fb rb:Nat) (io:Option Addr) (ic:Nat) (c0:Cl) (S0:St) (n0:Nat) (A:Nat→Prop) (w:World) (c:Cl) (S:St) (x:In) (xb ab bb cb:Nat) (la:Option Addr) (lc:Nat) (a:Act):Prop where
 sl:SL m fb rb io c0.fn.length ic a
 s12:a.tmps.getD 12 undef=.int .i64 (c.at_+1)
 s13:a.tmps.getD 13 undef=ptr xb
 s14:a.tmps.getD 14 undef=ptr ab
 s15:a.tmps.getD 15 undef=ptr bb
 s16:a.tmps.getD 16 undef=ptr cb
 s17:a.tmps.getD 17 undef=.int .i64 0
 sw:SwS base P kinds A0 w0 m fb rb io A T w c S x xb ab bb cb la lc
 max:T+1≤400000
 fn:c.fn=c0.fn
 n:S.fuel.toNat≤n0
 back:∀ r S',Runs P kinds c S r S'→Runs P kinds c0 S0 r S'
section
variable {base:Nat} {P:Pr} {kinds:List Int} {A0 A A1:Nat→Prop} {T T1:Nat} {w0 w w1 w':World} {m fb rb:Nat} {io:Option Addr} {ic:Nat} {c0 c c':Cl} {S0 S S':St} {x:In} {xb ab bb cb:Nat} {la:Option Addr} {lc n0:Nat} {Q:Exit→Act→World→Prop} {a:Act}
theorem SwR.frame (h:SwR base P kinds A0 T w0 m fb rb io ic c0 S0 n0 A w c S x xb ab bb cb la lc a):∃ g:Nat→Value,g 0=(.pointer (some ⟨m,0,none⟩))∧g 6=(.pointer (some ⟨fb,0,none⟩))∧g 10=.slice io c0.fn.length ic∧g 11=.slice (some ⟨rb,0,none⟩) 16 16∧g 12=.int .i64 (c.at_+1)∧g 13=(.pointer (some ⟨xb,0,none⟩))∧g 14=(.pointer (some ⟨ab,0,none⟩))∧g 15=(.pointer (some ⟨bb,0,none⟩))∧g 16=(.pointer (some ⟨cb,0,none⟩))∧g 17=.int .i64 0∧a=Fr532 g :=
 ⟨fun i=>a.tmps.getD i undef,h.sl.s0,h.sl.s6,h.sl.s10,h.sl.s11,h.s12,h.s13,h.s14,h.s15,h.s16,h.s17,Fr532_view a h.sl.size h.sl.dfr⟩
theorem LoopS.cells (h:LoopS base P kinds A0 w0 m fb rb io A T w c S) {i:Nat} (hi:i<16):w.cell? ⟨rb,i * 3,none⟩=some (.bool (c.reg i).p)∧w.cell? ⟨rb,i * 3+1,none⟩=some (.int .i64 (c.reg i).a)∧w.cell? ⟨rb,i * 3+2,none⟩=some (.int .i64 (c.reg i).n)∧∀ o,w.frozen? ⟨rb,o,none⟩=false:=by
 have hl:i<c.regs.length:=by rw [h.call.len];exact hi
 have hg:c.regs[i]?=some (c.reg i):=by
  unfold Cl.reg;rw [Int.toNat_natCast,List.getD_eq_getElem?_getD,List.getElem?_eq_getElem hl]
  rfl
 obtain ⟨z0,z1,z2⟩:=flat_get hg;exact ⟨h.rrb.cell z0,h.rrb.cell z1,h.rrb.cell z2,h.rrb.frozen⟩
theorem SwR.goes (h:SwR base P kinds A0 T w0 m fb rb io ic c0 S0 n0 A w c S x xb ab bb cb la lc a) (hl:LoopS base P kinds A0 w0 m fb rb io A1 (T+1) w' c' S') (hf:S'.fuel≤S.tick.fuel) (hfn:c'.fn=c.fn) (hb:∀ r S'',Runs P kinds c' S' r S''→Runs P kinds c S r S''):GoesP base P kinds A0 (T+1) w0 m fb rb io c0 S0 n0 c'.at_ w' :=
 ⟨c',S',A1,rfl,hfn.trans h.fn,hl,by have:=h.n;have:=h.sw.hat.hf;unfold St.tick at hf;simp only at hf;omega,fun r S'' k=>h.back r S'' (hb r S'' k)⟩
theorem SwR.put (h:SwR base P kinds A0 T w0 m fb rb io ic c0 S0 n0 A w c S x xb ab bb cb la lc a) (f:Fr Non w w1) (ho:x.op ∉ [13,15,27,28,(29:Int)]) {i:Nat} (hi:i<16) {y:Wd} (hy:y.ok) (hb:∀ r S'',Runs P kinds (c.inc.put i y) S.tick r S''→Runs P kinds c S r S'') :
 GoesP base P kinds A0 (T+1) w0 m fb rb io c0 S0 n0 (c.at_+1) (((w1.setCell ⟨rb,i * 3,none⟩ (.bool y.p)).setCell ⟨rb,i * 3+1,none⟩ (.int .i64 y.a)).setCell ⟨rb,i * 3+2,none⟩ (.int .i64 y.n)) :=
 h.goes (c':=c.inc.put i y) ((((h.sw.inc ho).non f).reg hi hy).moreT (Nat.le_succ T) h.max) (Int.le_refl _) rfl hb
theorem SwR.after (h:SwR base P kinds A0 T w0 m fb rb io ic c0 S0 n0 A w c S x xb ab bb cb la lc a) (hA:NAft base P A (T+1) w w1 m S') (hm:S'.mem.fits) (he:S'.ev=S.ev):∃ A',LoopS base P kinds A0 w0 m fb rb io A' (T+1) w1 c S'∧(∀ y,A' y→A y∨w.heap.size≤y)∧Fr A w w1:=h.sw.lp.step hA hm he
theorem wrap64_ok (n:Int):I64 (wrap64 n):=by rw [← IntWalk.i64_left];exact wrap_ok n
theorem SwR.ne_x (h:SwR base P kinds A0 T w0 m fb rb io ic c0 S0 n0 A w c S x xb ab bb cb la lc a):¬ xb=rb∧¬ xb=fb:=⟨h.sw.rx.ne h.sw.lp.rrb (by decide),h.sw.rx.ne h.sw.lp.rfb (by decide)⟩
theorem SwR.bad (h:SwR base P kinds A0 T w0 m fb rb io ic c0 S0 n0 A w c S x xb ab bb cb la lc a) (hl:LoopS base P kinds A0 w0 m fb rb io A1 (T+1) w' c' S') {r:Int × Int} (hb:Runs P kinds c S r S'):RetO base P kinds A0 (T+1) w0 m c0 S0 r w':=hl.ret (h.back _ _ hb)
theorem SwR.over (h:SwR base P kinds A0 T w0 m fb rb io ic c0 S0 n0 A w c S x xb ab bb cb la lc a) (f:Fr Non w w1) {r:Int × Int} (hb:Runs P kinds c S r S.tick):RetO base P kinds A0 (T+1) w0 m c0 S0 r w1:=h.bad ((h.sw.lp.non f).moreT (Nat.le_succ T) h.max) hb
theorem SwR.overPut (h:SwR base P kinds A0 T w0 m fb rb io ic c0 S0 n0 A w c S x xb ab bb cb la lc a) (f:Fr Non w w1) {i:Nat} (hi:i<16) {y:Wd} (hy:y.ok) {r:Int × Int} (hb:Runs P kinds c S r S.tick):RetO base P kinds A0 (T+1) w0 m c0 S0 r (((w1.setCell ⟨rb,i * 3,none⟩ (.bool y.p)).setCell ⟨rb,i * 3+1,none⟩ (.int .i64 y.a)).setCell ⟨rb,i * 3+2,none⟩ (.int .i64 y.n)) :=
 h.bad (((h.sw.lp.non f).reg hi hy).moreT (Nat.le_succ T) h.max) hb
theorem SwR.mem (h:SwR base P kinds A0 T w0 m fb rb io ic c0 S0 n0 A w c S x xb ab bb cb la lc a) (hl:LoopS base P kinds A0 w0 m fb rb io A1 (T+1) w1 c S') (hf:S'.fuel≤S.tick.fuel) (ho:x.op ∉ [13,15,27,28,(29:Int)]) (hb:∀ r S'',Runs P kinds c.inc S' r S''→Runs P kinds c S r S'') :
 GoesP base P kinds A0 (T+1) w0 m fb rb io c0 S0 n0 (c.at_+1) w1:=h.goes (c':=c.inc) (hl.goto (h.sw.hat.nx ho).1 (h.sw.hat.nx ho).2) hf rfl hb
theorem SwR.memPut (h:SwR base P kinds A0 T w0 m fb rb io ic c0 S0 n0 A w c S x xb ab bb cb la lc a) (hl:LoopS base P kinds A0 w0 m fb rb io A1 (T+1) w1 c S') (hf:S'.fuel≤S.tick.fuel) (ho:x.op ∉ [13,15,27,28,(29:Int)]) {i:Nat} (hi:i<16) {y:Wd} (hy:y.ok) (hb:∀ r S'',Runs P kinds (c.inc.put i y) S' r S''→Runs P kinds c S r S'') :
 GoesP base P kinds A0 (T+1) w0 m fb rb io c0 S0 n0 (c.at_+1) (((w1.setCell ⟨rb,i * 3,none⟩ (.bool y.p)).setCell ⟨rb,i * 3+1,none⟩ (.int .i64 y.a)).setCell ⟨rb,i * 3+2,none⟩ (.int .i64 y.n)) :=
 h.goes (c':=c.inc.put i y) ((hl.goto (h.sw.hat.nx ho).1 (h.sw.hat.nx ho).2).reg hi hy) hf rfl hb
theorem SwR.jump (h:SwR base P kinds A0 T w0 m fb rb io ic c0 S0 n0 A w c S x xb ab bb cb la lc a) (f:Fr Non w w1) {n:Int} (h0:0≤n) (h1:n<c.fn.length) (hb:∀ r S'',Runs P kinds { c with at_:=n } S.tick r S''→Runs P kinds c S r S''):GoesP base P kinds A0 (T+1) w0 m fb rb io c0 S0 n0 n w1 :=
 h.goes (c':={ c with at_:=n }) (((h.sw.lp.non f).goto h0 h1).moreT (Nat.le_succ T) h.max) (Int.le_refl _) rfl hb
theorem SwR.cnt (h:SwR base P kinds A0 T w0 m fb rb io ic c0 S0 n0 A w c S x xb ab bb cb la lc a) (ho:x.op∈[5,6,7,(16:Int)]):∃ N:Nat,x.c=N∧N≤1048576:=by
 obtain ⟨h0,h1⟩:=h.sw.hat.hP.cnt _ h.sw.hat.hc.mem _ (List.mem_of_getElem? h.sw.hat.hx) ho;obtain ⟨N,hN⟩:=Int.eq_ofNat_of_zero_le h0;exact ⟨N,hN,by omega⟩
end
section
variable {base:Nat} {P:Pr} {kinds:List Int} {A0 A:Nat→Prop} {T:Nat} {w0 w:World} {m fb rb:Nat} {io:Option Addr} {ic:Nat} {c0 c:Cl} {S0 S:St} {x:In} {xb ab bb cb:Nat} {la:Option Addr} {lc n0:Nat} {Q:Exit→Act→World→Prop} {a:Act}
theorem rn_const (hQ:RunQ base P kinds A0 (T+1) w0 m fb rb io ic c0 S0 n0 Q) (h:SwR base P kinds A0 T w0 m fb rb io ic c0 S0 n0 A w c S x xb ab bb cb la lc a) (ho:x.op=0):Code.wp Tryz.prog (runBr 0) Q a w:=by
 obtain ⟨ia,hia,hia2⟩:=Reg.nat (h.sw.hat.ok.ra (by simp [ho]));have hia0:(0:Int)≤(ia:Int):=by omega
 have hia1:(ia:Int)<16:=by omega
 have hR:∀ r S'',Runs P kinds (c.inc.put ia (num x.b)) S.tick r S''→Runs P kinds c S r S'':=fun r S'' k=>Runs.words h.sw.hat (by simp [ho]) (by unfold wordsS;rw [if_pos ho,hia]) k;have hxb:=(h.sw.hat.hc.ins h.sw.hat.hP h.sw.hat.hx).2.2.1;obtain ⟨x0,x1,x2,x3,x4,xz⟩:=row5 h.sw.rx;have hlx:=h.sw.rx.lt;have hlr:=h.sw.lp.rrb.lt;have hne:=h.ne_x;rw [hia] at x1;have HH:=Lib.hid (And.intro hQ (And.intro h (And.intro ho (And.intro hR hxb))));obtain ⟨g,g0,g6,g10,g11,g12,g13,g14,g15,g16,g17,rfl⟩:=h.frame;rw [Fr532_lit,g0,g6,g10,g11,g12,g13,g14,g15,g16,g17];clear g0 g6 g10 g11 g12 g13 g14 g15 g16 g17 hQ h ho hR hia hxb
 conv=>arg 2;whnf
 have cW:=@Mix.cls_drew w [xb];refine Mix.wp_region_mix [2,4] [(0,0),(0,1),(1,2),(0,3),(1,4),(2,5),(0,6),(2,7)] (fun V=>∃ g,V=Mix.upon w [xb] g) (by kernel_rfl) (by kernel_rfl) cW ?_;clear cW;repeat (first|((first|refine Mix.qa ?_|refine Mix.qb ?_);intro K hK;simp only [nA,nB,nC];go_big_quiet_op;go_big_quiet_on)|refine Mix.qc ?_|refine Mix.qd ?_)
 refine Mix.S_eff rfl rfl ?_;intro K hK;simp only [nA,nB,nC];go_simp;refine (nnum_c _ x.b).mono ?_;rintro e1 w1 ⟨rfl,hf⟩;refine hK _ _ ⟨Mix.cls_fr (D:=Non) hf (by simp [Non];omega),?_⟩;clear hK K;have hf1:Fr Non w w1:=Fr.trans (by exact (Fr.refl _ _).drew) hf;obtain ⟨v0,v1,v2,vz⟩:=(HH.out.2.1.sw.lp.non hf1).cells hia2;have hs1:=hf1.size;have hlr1:rb<w1.heap.size:=by omega
 clear hf;repeat (first|((first|refine Mix.qa ?_|refine Mix.qb ?_);intro K hK;simp only [nA,nB,nC];go_big_quiet_op;go_big_quiet_on)|refine Mix.qc ?_|refine Mix.qd ?_)
 refine Mix.S_eff rfl rfl ?_;intro K hK;simp only [nA,nB,nC];go_simp;refine hK _ _ ⟨Mix.cls_fr (D:=fun y=>y=rb) (Fr.set3 _ _ _ _ _ _ _ _) (by simp;omega),?_⟩;clear hK K;refine Mix.S_done ?_
 (try simp only [Act.put,List.setIfInBounds_toArray,List.set_cons_succ,List.set_cons_zero])
 refine HH.out.1.on _ _ ⟨⟨by kernel_rfl,by kernel_rfl,by kernel_rfl,by kernel_rfl,by kernel_rfl,by kernel_rfl⟩,0,(c.at_+1),by kernel_rfl,by kernel_rfl,Or.inl ⟨rfl,HH.out.2.1.put (y:=num x.b) hf1 (by simp [HH.out.2.2.1]) hia2 (num_ok HH.out.2.2.2.2) HH.out.2.2.2.1⟩⟩
theorem rn_frame (hQ:RunQ base P kinds A0 (T+1) w0 m fb rb io ic c0 S0 n0 Q) (h:SwR base P kinds A0 T w0 m fb rb io ic c0 S0 n0 A w c S x xb ab bb cb la lc a) (ho:x.op=1):Code.wp Tryz.prog (runBr 1) Q a w:=by
 obtain ⟨ia,hia,hia2⟩:=Reg.nat (h.sw.hat.ok.ra (by simp [ho]));have hia0:(0:Int)≤(ia:Int):=by omega
 have hia1:(ia:Int)<16:=by omega
 have hfp:=(h.sw.hat.hc.ins h.sw.hat.hP h.sw.hat.hx).2.2.2.1 ho;have hoff:offS c.frame x.b=⟨c.frame.p,c.frame.a,wrap64 (c.frame.n+x.b)⟩:=by unfold offS;rw [if_pos hfp,hfp,IntWalk.i64_left]
 have hR:∀ r S'',Runs P kinds (c.inc.put ia ⟨c.frame.p,c.frame.a,wrap64 (c.frame.n+x.b)⟩) S.tick r S''→Runs P kinds c S r S'':=fun r S'' k=>Runs.words h.sw.hat (by simp [ho]) (by unfold wordsS;rw [if_neg (by omega),if_pos ho,hia,show c.inc.frame=c.frame from rfl,hoff]) k;obtain ⟨x0,x1,x2,x3,x4,xz⟩:=row5 h.sw.rx;have hlx:=h.sw.rx.lt;have hlr:=h.sw.lp.rrb.lt;have hne:=h.ne_x;rw [hia] at x1;obtain ⟨q0,q1,q2,qz⟩:=row3 h.sw.lp.rfb;have hlf:=h.sw.lp.rfb.lt;have hnf:=h.sw.lp.lne;have HH:=Lib.hid (And.intro hQ (And.intro h (And.intro ho hR)));obtain ⟨g,g0,g6,g10,g11,g12,g13,g14,g15,g16,g17,rfl⟩:=h.frame;rw [Fr532_lit,g0,g6,g10,g11,g12,g13,g14,g15,g16,g17];clear g0 g6 g10 g11 g12 g13 g14 g15 g16 g17 hQ h ho hR hia hfp hoff
 conv=>arg 2;whnf
 have cW:=@Mix.cls_drew w [xb,fb];refine Mix.wp_region_mix [2,3,5] [(0,0),(0,1),(1,2),(1,3),(0,4),(1,5),(2,6),(0,7),(2,8)] (fun V=>∃ g,V=Mix.upon w [xb,fb] g) (by kernel_rfl) (by kernel_rfl) cW ?_;clear cW;repeat (first|((first|refine Mix.qa ?_|refine Mix.qb ?_);intro K hK;simp only [nA,nB,nC];go_big_quiet_op;go_big_quiet_on)|refine Mix.qc ?_|refine Mix.qd ?_)
 refine Mix.S_eff rfl rfl ?_;intro K hK;simp only [nA,nB,nC];go_simp;refine (noff_c _ c.frame.p c.frame.a c.frame.n x.b).mono ?_;rintro e1 w1 ⟨rfl,hf⟩;refine hK _ _ ⟨Mix.cls_fr (D:=Non) hf (by simp [Non];omega),?_⟩;clear hK K;have hf1:Fr Non w w1:=Fr.trans (by exact (Fr.refl _ _).drew) hf;obtain ⟨v0,v1,v2,vz⟩:=(HH.out.2.1.sw.lp.non hf1).cells hia2;have hs1:=hf1.size;have hlr1:rb<w1.heap.size:=by omega
 clear hf;repeat (first|((first|refine Mix.qa ?_|refine Mix.qb ?_);intro K hK;simp only [nA,nB,nC];go_big_quiet_op;go_big_quiet_on)|refine Mix.qc ?_|refine Mix.qd ?_)
 refine Mix.S_eff rfl rfl ?_;intro K hK;simp only [nA,nB,nC];go_simp;refine hK _ _ ⟨Mix.cls_fr (D:=fun y=>y=rb) (Fr.set3 _ _ _ _ _ _ _ _) (by simp;omega),?_⟩;clear hK K;refine Mix.S_done ?_
 (try simp only [Act.put,List.setIfInBounds_toArray,List.set_cons_succ,List.set_cons_zero])
 refine HH.out.1.on _ _ ⟨⟨by kernel_rfl,by kernel_rfl,by kernel_rfl,by kernel_rfl,by kernel_rfl,by kernel_rfl⟩,0,(c.at_+1),by kernel_rfl,by kernel_rfl,Or.inl ⟨rfl,HH.out.2.1.put (y:=⟨c.frame.p,c.frame.a,wrap64 (c.frame.n+x.b)⟩) hf1 (by simp [HH.out.2.2.1]) hia2 (wrap64_ok _) HH.out.2.2.2⟩⟩
theorem rn_off (hQ:RunQ base P kinds A0 (T+1) w0 m fb rb io ic c0 S0 n0 Q) (h:SwR base P kinds A0 T w0 m fb rb io ic c0 S0 n0 A w c S x xb ab bb cb la lc a) (ho:x.op=2):Code.wp Tryz.prog (runBr 2) Q a w:=by
 obtain ⟨ia,hia,hia2⟩:=Reg.nat (h.sw.hat.ok.ra (by simp [ho]));have hia0:(0:Int)≤(ia:Int):=by omega
 have hia1:(ia:Int)<16:=by omega
 obtain ⟨ib,hib,hib2⟩:=Reg.nat (h.sw.hat.ok.rb (by simp [ho]));have hib0:(0:Int)≤(ib:Int):=by omega
 have hib1:(ib:Int)<16:=by omega
 have qb:=h.sw.rb_;rw [fieldW_reg (show 0≤x.b by omega) (show x.b<16 by omega),hib] at qb;have hlbb:=qb.lt;obtain ⟨bb0,bb1,bb2,bbz⟩:=row3 qb;obtain ⟨x0,x1,x2,x3,x4,xz⟩:=row5 h.sw.rx;have hlx:=h.sw.rx.lt;have hlr:=h.sw.lp.rrb.lt;have hne:=h.ne_x;rw [hia] at x1;have hok:=reg_ok h.sw.hat.hc.fits (ib:Int);cases hbp:(c.reg ib).p with
 | false =>
  rw [hbp] at bb0;have hR:Runs P kinds c S (6,11) S.tick:=Runs.wordsBad h.sw.hat (by simp [ho]) (e:=11) (by unfold wordsS;rw [if_neg (by omega),if_neg (by omega),if_pos ho,hib,show c.inc.reg ib=c.reg ib from rfl];unfold moffS;rw [if_neg (by rw [hbp];decide)]) (by decide);have HH:=Lib.hid (And.intro hQ (And.intro h hR));obtain ⟨g,g0,g6,g10,g11,g12,g13,g14,g15,g16,g17,rfl⟩:=h.frame;rw [Fr532_lit,g0,g6,g10,g11,g12,g13,g14,g15,g16,g17];clear g0 g6 g10 g11 g12 g13 g14 g15 g16 g17 hQ h ho hR hia hib hbp qb hok
  conv=>arg 2;whnf
  go_wp2_with fail
  exact HH.out.1.ret _ _ ⟨(6,11),rfl,by kernel_rfl,by kernel_rfl,HH.out.2.1.over (Fr.refl _ _) HH.out.2.2⟩
 | true =>
  rw [hbp] at bb0;have hR:∀ r S'',Runs P kinds (c.inc.put ia ⟨true,(c.reg ib).a,wrap64 ((c.reg ib).n+x.c)⟩) S.tick r S''→Runs P kinds c S r S'':=fun r S'' k=>Runs.words h.sw.hat (by simp [ho]) (by unfold wordsS;rw [if_neg (by omega),if_neg (by omega),if_pos ho,hia,hib,show c.inc.reg ib=c.reg ib from rfl];unfold moffS;rw [if_pos hbp,IntWalk.i64_left]) k;have HH:=Lib.hid (And.intro hQ (And.intro h (And.intro ho hR)));obtain ⟨g,g0,g6,g10,g11,g12,g13,g14,g15,g16,g17,rfl⟩:=h.frame;rw [Fr532_lit,g0,g6,g10,g11,g12,g13,g14,g15,g16,g17];clear g0 g6 g10 g11 g12 g13 g14 g15 g16 g17 hQ h ho hR hia hib hbp qb hok
  conv=>arg 2;whnf
  go_wp2_with fail
  have cW:=@Mix.cls_drew w [xb,bb];refine Mix.wp_region_mix [2,3,5] [(0,0),(0,1),(1,2),(1,3),(0,4),(1,5),(2,6),(0,7),(2,8)] (fun V=>∃ g,V=Mix.upon w [xb,bb] g) (by kernel_rfl) (by kernel_rfl) cW ?_;clear cW;repeat (first|((first|refine Mix.qa ?_|refine Mix.qb ?_);intro K hK;simp only [nA,nB,nC];go_big_quiet_op;go_big_quiet_on)|refine Mix.qc ?_|refine Mix.qd ?_)
  refine Mix.S_eff rfl rfl ?_;intro K hK;simp only [nA,nB,nC];go_simp;refine (noff_c _ true (c.reg ib).a (c.reg ib).n x.c).mono ?_;rintro e1 w1 ⟨rfl,hf⟩;refine hK _ _ ⟨Mix.cls_fr (D:=Non) hf (by simp [Non];omega),?_⟩;clear hK K;have hf1:Fr Non w w1:=Fr.trans (by exact (Fr.refl _ _).drew) hf;obtain ⟨v0,v1,v2,vz⟩:=(HH.out.2.1.sw.lp.non hf1).cells hia2;have hs1:=hf1.size;have hlr1:rb<w1.heap.size:=by omega
  have hnb:¬ bb=rb:=fun e=>HH.out.2.1.sw.ne.2.1 e.symm;clear hf;repeat (first|((first|refine Mix.qa ?_|refine Mix.qb ?_);intro K hK;simp only [nA,nB,nC];go_big_quiet_op;go_big_quiet_on)|refine Mix.qc ?_|refine Mix.qd ?_)
  refine Mix.S_eff rfl rfl ?_;intro K hK;simp only [nA,nB,nC];go_simp;refine hK _ _ ⟨Mix.cls_fr (D:=fun y=>y=rb) (Fr.set3 _ _ _ _ _ _ _ _) (by simp;omega),?_⟩;clear hK K;refine Mix.S_done ?_
  (try simp only [Act.put,List.setIfInBounds_toArray,List.set_cons_succ,List.set_cons_zero])
  refine HH.out.1.on _ _ ⟨⟨by kernel_rfl,by kernel_rfl,by kernel_rfl,by kernel_rfl,by kernel_rfl,by kernel_rfl⟩,0,(c.at_+1),by kernel_rfl,by kernel_rfl,Or.inl ⟨rfl,HH.out.2.1.put (y:=⟨true,(c.reg ib).a,wrap64 ((c.reg ib).n+x.c)⟩) hf1 (by simp [HH.out.2.2.1]) hia2 (wrap64_ok _) HH.out.2.2.2⟩⟩
end
section
variable {base:Nat} {P:Pr} {kinds:List Int} {A0 A:Nat→Prop} {T:Nat} {w0 w:World} {m fb rb:Nat} {io:Option Addr} {ic:Nat} {c0 c:Cl} {S0 S:St} {x:In} {xb ab bb cb:Nat} {la:Option Addr} {lc n0:Nat} {Q:Exit→Act→World→Prop} {a:Act}
def SwK (base:Nat) (P:Pr) (kinds:List Int) (A0:Nat→Prop) (T:Nat) (w0:World) (m fb rb:Nat) (io:Option Addr) (ic:Nat) (c0:Cl) (S0:St) (n0:Nat) (A:Nat→Prop) (w:World) (c:Cl) (S:St) (x:In) (xb ab bb cb:Nat) (la:Option Addr) (lc:Nat) (a:Act):Prop:=SwR base P kinds A0 T w0 m fb rb io ic c0 S0 n0 A w c S x xb ab bb cb la lc a∧a.tmps.getD 103 undef=.int .i64 x.op
def okSl (s:Nat):Bool:=decide (s<532) && !([0,6,10,11,12,13,14,15,16,17,103].contains s)
theorem okSl_iff {s:Nat} (h:okSl s=true):s<532∧s≠0∧s≠6∧s≠10∧s≠11∧s≠12∧s≠13∧s≠14∧s≠15∧s≠16∧s≠17∧s≠103:=by
 unfold okSl at h;simp at h;omega
theorem getD_put (a:Act) {s k:Nat} (v:Value) (h:s≠k):(a.put (some s) v).tmps.getD k undef=a.tmps.getD k undef:=by
 simp [Act.put,Array.getD_eq_getD_getElem?,h]
theorem SwK.put (h:SwK base P kinds A0 T w0 m fb rb io ic c0 S0 n0 A w c S x xb ab bb cb la lc a) {s:Nat} (hs:okSl s=true) (v:Value):SwK base P kinds A0 T w0 m fb rb io ic c0 S0 n0 A w c S x xb ab bb cb la lc (a.put (some s) v):=by
 obtain ⟨h0,q0,q6,q10,q11,q12,q13,q14,q15,q16,q17,q103⟩:=okSl_iff hs;have hh:(a.put (some s) v).tmps.size=a.tmps.size:=by simp [Act.put]
 exact ⟨{ h.1 with sl:=⟨hh.trans h.1.sl.size,h.1.sl.dfr,(getD_put a v q0).trans h.1.sl.s0,(getD_put a v q6).trans h.1.sl.s6,(getD_put a v q10).trans h.1.sl.s10,(getD_put a v q11).trans h.1.sl.s11⟩,s12:=(getD_put a v q12).trans h.1.s12,s13:=(getD_put a v q13).trans h.1.s13,s14:=(getD_put a v q14).trans h.1.s14,s15:=(getD_put a v q15).trans h.1.s15,s16:=(getD_put a v q16).trans h.1.s16,s17:=(getD_put a v q17).trans h.1.s17 },(getD_put a v q103).trans h.2⟩
def eqC (id s d:Nat) (k:Int) (pos:String):Code:=.region id #[{ dst:=some d,op:=.binOp .eql 126 (.tmp 103) (.const (.int .i64 k)) 126,type:=4,pos:=pos,after:=#[],guard:=none },{ dst:=some s,op:=.assign (.tmp d),type:=4,pos:=pos,after:=#[{ on:=0,ground:=.data }],guard:=none }] false
theorem eval_put (a:Act) {s:Nat} (v:Value) (h:s<a.tmps.size):(a.put (some s) v).eval (.tmp s)=v:=by
 simp [Act.put,Act.eval,Array.getD_eq_getD_getElem?,h]
theorem eq_wp {id s d:Nat} {k:Int} {pos:String} (h:SwK base P kinds A0 T w0 m fb rb io ic c0 S0 n0 A w c S x xb ab bb cb la lc a) (hs:okSl s=true) (hd:okSl d=true) (hQ:∀ a',SwK base P kinds A0 T w0 m fb rb io ic c0 S0 n0 A w c S x xb ab bb cb la lc a'→a'.eval (.tmp s)=.bool (x.op == k)→Q .normal a' w):Code.wp Tryz.prog (eqC id s d k pos) Q a w:=by
 have h1:=h.put hd (.bool (x.op == k));have h2:=h1.put hs (.bool (x.op == k));have e103:a.tmps[103]?.getD undef=.int .i64 x.op:=by have:=h.2;rwa [Array.getD_eq_getD_getElem?] at this
 have hdl:d<a.tmps.size:=by rw [h.1.sl.size];exact (okSl_iff hd).1
 have es:((a.put (some d) (.bool (x.op == k))).put (some s) (.bool (x.op == k))).eval (.tmp s)=.bool (x.op == k):=eval_put _ _ (by rw [h1.1.sl.size];exact (okSl_iff hs).1);have HH:=Lib.hid (hQ _ h2 es);clear h h1 h2 es hs hd hQ;unfold eqC;go_wp2_with fail
 exact HH.out
theorem lk1 {n id s d:Nat} {k:Int} {pos:String} (e:chainN n runChain=.seq (eqC id s d k pos) (.cond (.tmp s) (runBr n) (chainN (n+1) runChain))) (hs:okSl s=true) (hd:okSl d=true) (h:SwK base P kinds A0 T w0 m fb rb io ic c0 S0 n0 A w c S x xb ab bb cb la lc a) (hT:x.op=k→∀ a',SwK base P kinds A0 T w0 m fb rb io ic c0 S0 n0 A w c S x xb ab bb cb la lc a'→Code.wp Tryz.prog (runBr n) Q a' w) (hE:x.op≠k→∀ a',SwK base P kinds A0 T w0 m fb rb io ic c0 S0 n0 A w c S x xb ab bb cb la lc a'→Code.wp Tryz.prog (chainN (n+1) runChain) Q a' w):Code.wp Tryz.prog (chainN n runChain) Q a w:=by
 rw [e];refine wp_seq (eq_wp h hs hd fun a1 h1 e1=>?_);refine wp_cond e1 ?_;by_cases ho:x.op=k
 · rw [if_pos (beq_iff_eq.mpr ho)];exact hT ho a1 h1
 · rw [if_neg (by simpa using ho)];exact hE ho a1 h1
theorem lk2 {n i1 i2 s d1 d2:Nat} {k1 k2:Int} {p1 p2:String} (e:chainN n runChain=.seq (.seq (eqC i1 s d1 k1 p1) (.cond (.tmp s) .skip (eqC i2 s d2 k2 p2))) (.cond (.tmp s) (runBr n) (chainN (n+1) runChain))) (hs:okSl s=true) (hd1:okSl d1=true) (hd2:okSl d2=true) (h:SwK base P kinds A0 T w0 m fb rb io ic c0 S0 n0 A w c S x xb ab bb cb la lc a) (hT:x.op=k1∨x.op=k2→∀ a',SwK base P kinds A0 T w0 m fb rb io ic c0 S0 n0 A w c S x xb ab bb cb la lc a'→Code.wp Tryz.prog (runBr n) Q a' w) (hE:x.op≠k1∧x.op≠k2→∀ a',SwK base P kinds A0 T w0 m fb rb io ic c0 S0 n0 A w c S x xb ab bb cb la lc a'→Code.wp Tryz.prog (chainN (n+1) runChain) Q a' w):Code.wp Tryz.prog (chainN n runChain) Q a w:=by
 rw [e];refine wp_seq (wp_seq (eq_wp h hs hd1 fun a1 h1 e1=>?_));refine wp_cond e1 ?_;by_cases ho:x.op=k1
 · rw [if_pos (beq_iff_eq.mpr ho)];refine wp_skip ?_;refine wp_cond e1 ?_;rw [if_pos (beq_iff_eq.mpr ho)];exact hT (Or.inl ho) a1 h1
 · rw [if_neg (by simpa using ho)];refine eq_wp h1 hs hd2 fun a2 h2 e2=>?_;refine wp_cond e2 ?_;by_cases ho2:x.op=k2
   · rw [if_pos (beq_iff_eq.mpr ho2)];exact hT (Or.inr ho2) a2 h2
   · rw [if_neg (by simpa using ho2)];exact hE ⟨ho,ho2⟩ a2 h2
theorem lk3 {n i1 i2 i3 s d1 d2 d3:Nat} {k1 k2 k3:Int} {p1 p2 p3:String} (e:chainN n runChain=.seq (.seq (eqC i1 s d1 k1 p1) (.cond (.tmp s) .skip (.seq (eqC i2 s d2 k2 p2) (.cond (.tmp s) .skip (eqC i3 s d3 k3 p3))))) (.cond (.tmp s) (runBr n) (chainN (n+1) runChain))) (hs:okSl s=true) (hd1:okSl d1=true) (hd2:okSl d2=true) (hd3:okSl d3=true) (h:SwK base P kinds A0 T w0 m fb rb io ic c0 S0 n0 A w c S x xb ab bb cb la lc a) (hT:x.op=k1∨x.op=k2∨x.op=k3→∀ a',SwK base P kinds A0 T w0 m fb rb io ic c0 S0 n0 A w c S x xb ab bb cb la lc a'→Code.wp Tryz.prog (runBr n) Q a' w) (hE:x.op≠k1∧x.op≠k2∧x.op≠k3→∀ a',SwK base P kinds A0 T w0 m fb rb io ic c0 S0 n0 A w c S x xb ab bb cb la lc a'→Code.wp Tryz.prog (chainN (n+1) runChain) Q a' w):Code.wp Tryz.prog (chainN n runChain) Q a w:=by
 rw [e];refine wp_seq (wp_seq (eq_wp h hs hd1 fun a1 h1 e1=>?_));refine wp_cond e1 ?_;by_cases ho:x.op=k1
 · rw [if_pos (beq_iff_eq.mpr ho)];refine wp_skip ?_;refine wp_cond e1 ?_;rw [if_pos (beq_iff_eq.mpr ho)];exact hT (Or.inl ho) a1 h1
 rw [if_neg (by simpa using ho)];refine wp_seq (eq_wp h1 hs hd2 fun a2 h2 e2=>?_);refine wp_cond e2 ?_;by_cases ho2:x.op=k2
 · rw [if_pos (beq_iff_eq.mpr ho2)];refine wp_skip ?_;refine wp_cond e2 ?_;rw [if_pos (beq_iff_eq.mpr ho2)];exact hT (Or.inr (Or.inl ho2)) a2 h2
 rw [if_neg (by simpa using ho2)];refine eq_wp h2 hs hd3 fun a3 h3 e3=>?_;refine wp_cond e3 ?_;by_cases ho3:x.op=k3
 · rw [if_pos (beq_iff_eq.mpr ho3)];exact hT (Or.inr (Or.inr ho3)) a3 h3
 · rw [if_neg (by simpa using ho3)];exact hE ⟨ho,ho2,ho3⟩ a3 h3
end
end Go.Proofs.YtlbomnbpahmphaaGreat
