/- What the machine computes, as plain Lean: no program in sight. No condition. -/
import Derived.Test.YtlbomnbpahmphaaGreatD10
set_option maxRecDepth 100000
set_option maxHeartbeats 1000000
namespace Go.Proofs.YtlbomnbpahmphaaGreat
structure In where
 op:Int
 a:Int
 b:Int
 c:Int
 l:List Int
structure Cr where
 name:ByteArray
 resume:Int
 cancel:Int
 words:Int
 args:Int
structure Pr where
 funs:List (List In)
 cos:List Cr
structure Cl where
 fn:List In
 at_:Int
 regs:List Wd
 frame:Wd
 role:Int
 into:Int
 label:Int
structure St where
 mem:Mem
 ev:List (Int × Int)
 told:List Ev
 stack:List Cl
 task:Int
 fuel:Int
abbrev Out:=Option (Int × Int)
def num (n:Int):Wd:=⟨false,0,n⟩
def offS (p:Wd) (n:Int):Wd:=if p.p then ⟨true,p.a,IntKind.i64.wrap (p.n+n)⟩ else p
def moffS (p:Wd) (n:Int):Wd × Int:=if p.p then (⟨true,p.a,IntKind.i64.wrap (p.n+n)⟩,0) else (Wd.zero,11)
def In.zero:In:=⟨0,0,0,0,[]⟩
def Cr.zero:Cr:=⟨⟨#[]⟩,0,0,0,0⟩
def Cl.new (p:Wd) (role into label:Int):Cl:=⟨[],0,List.replicate 16 Wd.zero,p,role,into,label⟩
def Cl.reg (c:Cl) (i:Int):Wd:=c.regs.getD i.toNat Wd.zero
def Cl.put (c:Cl) (i:Int) (x:Wd):Cl:={ c with regs:=c.regs.set i.toNat x }
def Mem.word (M:Mem) (p:Wd):Int × Int:=if (M.load p).2≠0 then (0,(M.load p).2) else if (M.load p).1.p then (0,11) else ((M.load p).1.n,0)
def Pr.co (P:Pr) (n:Int):Cr:=P.cos.getD n.toNat Cr.zero
def Pr.fn (P:Pr) (n:Int):List In:=P.funs.getD n.toNat []
def stateS (P:Pr) (M:Mem) (p:Wd):Int × Cr × Int :=
 if (M.word (offS p 0)).2≠0 then (0,Cr.zero,(M.word (offS p 0)).2)
 else if (M.word (offS p 2)).2≠0 then (0,Cr.zero,(M.word (offS p 2)).2)
 else if (M.word (offS p 2)).1<0∨(P.cos.length:Int)≤(M.word (offS p 2)).1 then (0,Cr.zero,30)
 else ((M.word (offS p 0)).1,P.co (M.word (offS p 2)).1,0)
def frameS (P:Pr) (M:Mem) (co:Int):Mem × Wd × Int :=
 if (M.alloc (P.co co).words).2.2≠0 then ((M.alloc (P.co co).words).1,Wd.zero,(M.alloc (P.co co).words).2.2)
 else ((((M.alloc (P.co co).words).1.store (offS (M.alloc (P.co co).words).2.1 0) (num 0)).1.store (offS (M.alloc (P.co co).words).2.1 2) (num co)).1,(M.alloc (P.co co).words).2.1,0)
def argsS (M:Mem) (p:Wd):Nat→List Int→Mem
 | _,[]=>M
 | i,n :: l=>argsS (M.store (offS p (3+i)) (num n)).1 p (i+1) l
def startS (P:Pr) (S:St) (co:Int) (args:List Int):St × Wd × Int × Int :=
 if co<0∨(P.cos.length:Int)≤co∨(args.length:Int)≠(P.co co).args then (S,Wd.zero,6,1)
 else if (frameS P S.mem co).2.2≠0 then ({ S with mem:=(frameS P S.mem co).1 },Wd.zero,(errS (frameS P S.mem co).2.2).getD (0,0))
 else ({ S with mem:=argsS (frameS P S.mem co).1 (frameS P S.mem co).2.1 0 args },(frameS P S.mem co).2.1,2,0)
def St.top (S:St):Cl:=S.stack.headD (Cl.new Wd.zero 0 0 0)
def St.setTop (S:St) (c:Cl):St:={ S with stack:=c :: S.stack.tail }
def St.push (P:Pr) (S:St) (n:Int) (c:Cl):St:={ S with stack:={ c with fn:=P.fn n } :: S.stack }
def St.tell (S:St) (k a n:Int):St:={ S with told:=S.told ++ [⟨k,S.task,a,n⟩] }
def doneS (S:St) (c:Cl):Out × St :=
 if S.stack=[] then (some (2,0),S) else if c.role=1 then (none,S.setTop (S.top.put c.into (num 0))) else (none,S)
def abortedS (S:St) (c:Cl):Out × St :=
 if S.stack=[] then (some (3,0),S) else (none,S.setTop { S.top with at_:=c.label })
def goOnS (P:Pr) (S:St) (p:Wd) (c:Cl):Out × St :=
 if (stateS P S.mem p).2.2≠0 then (errS (stateS P S.mem p).2.2,S)
 else if (stateS P S.mem p).1 = -1 then doneS S { c with frame:=p }
 else if (stateS P S.mem p).1 = -2 then abortedS S { c with frame:=p }
 else (none,S.push P (stateS P S.mem p).2.1.resume { c with frame:=p })
def suspS (k n:Int) (S:St):List Cl→Out × St
 | []=>(some (k,n),{ S with stack:=[] })
 | c :: l=>if c.role≠1∨l=[] then suspS k n S l else
  (none,(if k=0 then { S with stack:=l }.tell 5 0 n else { S with stack:=l }).setTop ((St.top { S with stack:=l }).put c.into (num 1)))
def freedS (S:St) (p:Wd):Out × St :=
 if (S.mem.free p).2≠0 then (errS (S.mem.free p).2,{ S with mem:=(S.mem.free p).1 })
 else if S.stack=[] then (some (2,0),{ S with mem:=(S.mem.free p).1 }) else (none,{ S with mem:=(S.mem.free p).1 })
def stopS (P:Pr) (S:St) (p:Wd):Out × St :=
 if (stateS P S.mem p).2.2≠0 then (errS (stateS P S.mem p).2.2,S)
 else if (stateS P S.mem p).1<0 then freedS S p
 else (none,S.push P (stateS P S.mem p).2.1.cancel (Cl.new p 2 0 0))
def wordsS (P:Pr) (M:Mem) (c:Cl) (x:In):Mem × Cl × Int :=
 if x.op=0 then (M,c.put x.a (num x.b),0)
 else if x.op=1 then (M,c.put x.a (offS c.frame x.b),0)
 else if x.op=2 then (M,c.put x.a (moffS (c.reg x.b) x.c).1,(moffS (c.reg x.b) x.c).2)
 else if x.op=3 then (M,c.put x.a (M.load (c.reg x.b)).1,(M.load (c.reg x.b)).2)
 else if x.op=4 then ((M.store (c.reg x.a) (c.reg x.b)).1,c,(M.store (c.reg x.a) (c.reg x.b)).2)
 else if x.op=5 then ((M.copy (c.reg x.a) (c.reg x.b) x.c).1,c,(M.copy (c.reg x.a) (c.reg x.b) x.c).2)
 else if x.op=6 then (if (M.copy (c.reg x.a) (c.reg x.b) x.c).2≠0 then ((M.copy (c.reg x.a) (c.reg x.b) x.c).1,c,(M.copy (c.reg x.a) (c.reg x.b) x.c).2)
  else (((M.copy (c.reg x.a) (c.reg x.b) x.c).1.clear (c.reg x.b) x.c).1,c,((M.copy (c.reg x.a) (c.reg x.b) x.c).1.clear (c.reg x.b) x.c).2))
 else if x.op=7 then ((M.clear (c.reg x.a) x.c).1,c,(M.clear (c.reg x.a) x.c).2)
 else if x.op=16 then ((M.alloc x.c).1,c.put x.a (M.alloc x.c).2.1,(M.alloc x.c).2.2)
 else if x.op=17 then ((M.free (c.reg x.a)).1,c,(M.free (c.reg x.a)).2)
 else if x.op=22 then ((frameS P M x.b).1,c.put x.a (frameS P M x.b).2.1,(frameS P M x.b).2.2)
 else (M,c,0)
def In.lab (x:In) (i:Int):Int:=x.l.getD i.toNat 0
def goesS (c:Cl) (x:In):Cl × Int :=
 if (c.reg x.a).p then (c,11)
 else if x.op=14∧(c.reg x.a).n≠0 then ({ c with at_:=x.lab 0 },0)
 else if x.op=14 then (c,0)
 else if (c.reg x.a).n<0∨(x.l.length:Int)≤(c.reg x.a).n then (c,31)
 else ({ c with at_:=x.lab (c.reg x.a).n },0)
def reckonsS (c:Cl) (x:In):Cl × Int :=
 if x.op=13 then ({ c with at_:=x.lab 0 },0)
 else if x.op=14∨x.op=15 then goesS c x
 else if (c.reg x.b).p∨(c.reg x.c).p then (c,11)
 else if x.op=11 then (c.put x.a (num (bitS (decide ((c.reg x.b).n<(c.reg x.c).n)))),0)
 else if x.op=12 then (c.put x.a (num (bitS ((c.reg x.b).n == (c.reg x.c).n))),0)
 else if (reckonS x.op (c.reg x.b).n (c.reg x.c).n).2 then (c.put x.a (num (reckonS x.op (c.reg x.b).n (c.reg x.c).n).1),0)
 else ({ c with at_:=x.lab 0 },0)
def evOf (l:List (Int × Int)) (k:Int):Option Int:=(l.find? fun e=>e.1 == k).map (·.2)
def outsideS (S:St) (c:Cl) (x:In):Out × St :=
 if (c.reg (if x.op=21 then x.b else x.a)).p then (errS 11,S)
 else if x.op=18 then (none,S.tell 2 0 (c.reg x.a).n)
 else if x.op=19 then (none,S.tell 3 x.b (c.reg x.a).n)
 else if x.op=20 then suspS 0 (c.reg x.a).n S S.stack
 else match evOf S.ev (c.reg x.b).n with
  | none=>suspS 1 (c.reg x.b).n S S.stack
  | some n=>(none,S.setTop (c.put x.a (num n)))
def endsS (S:St) (x:In):Out × St :=
 let r:=S.mem.store (offS S.top.frame 0) (num (if x.op=28 then -2 else -1))
 if r.2≠0 then (errS r.2,{ S with mem:=r.1 })
 else if x.op=28 then abortedS { S with mem:=r.1,stack:=S.stack.tail } S.top
 else doneS { S with mem:=r.1,stack:=S.stack.tail } S.top
def callsS (P:Pr) (S:St) (c:Cl) (x:In):Out × St :=
 if x.op=23 then goOnS P S (c.reg x.a) (Cl.new Wd.zero 0 0 (x.lab 0))
 else if x.op=24 then goOnS P S (c.reg x.b) (Cl.new Wd.zero 1 x.a (x.lab 0))
 else if x.op=25 then stopS P S (c.reg x.a)
 else if x.op=26 then (none,S.push P x.b ((Cl.new Wd.zero 3 0 0).put 0 (c.reg x.a)))
 else if x.op=27∨x.op=28 then endsS S x
 else if c.role=2 then freedS { S with stack:=S.stack.tail } c.frame
 else (none,{ S with stack:=S.stack.tail })
def stepS (P:Pr) (S:St):Out × St :=
 let x:=S.top.fn.getD S.top.at_.toNat In.zero
 let c:={ S.top with at_:=S.top.at_+1 }
 if x.op≤7∨x.op=16∨x.op=17∨x.op=22 then (errS (wordsS P S.mem c x).2.2,{ S with mem:=(wordsS P S.mem c x).1 }.setTop (wordsS P S.mem c x).2.1)
 else if x.op≤15 then (errS (reckonsS c x).2,S.setTop (reckonsS c x).1)
 else if 18≤x.op∧x.op≤21 then outsideS (S.setTop c) c x
 else callsS P (S.setTop c) c x
def runS (P:Pr):Nat→Out→St→(Int × Int) × St
 | _,some r,S=>(r,S)
 | 0,none,S=>((4,0),S)
 | f+1,none,S=>runS P f (stepS P { S with fuel:=f }).1 (stepS P { S with fuel:=f }).2
def St.begin (S:St) (task fuel:Int):St:={ S with stack:=[],task:=task,fuel:=fuel }
def pollS (P:Pr) (S:St) (p:Wd) (task fuel:Int):(Int × Int) × St :=
 let g:=goOnS P (S.begin task fuel) p (Cl.new Wd.zero 0 0 0)
 let r:=runS P fuel.toNat g.1 g.2
 if r.1.1=2 then (if (r.2.mem.word (offS p 1)).2≠0 then ((errS (r.2.mem.word (offS p 1)).2).getD (0,0),r.2) else ((2,(r.2.mem.word (offS p 1)).1),r.2)) else r
def cancelS (P:Pr) (S:St) (p:Wd) (task fuel:Int):(Int × Int) × St :=
 let g:=stopS P (S.begin task fuel) p
 runS P fuel.toNat g.1 g.2
def completeS (S:St) (k n:Int):St:=if (evOf S.ev k).isSome then S else { S with ev:=S.ev ++ [(k,n)] }
end Go.Proofs.YtlbomnbpahmphaaGreat
namespace Go.Proofs.YtlbomnbpahmphaaGreat
open Go.RowKit
theorem word_c {D:Nat→Prop} {w:World} {m mb:Nat} {M:Mem} (h2:w.cell? ⟨m,2,none⟩=some (.pointer (some ⟨mb,0,none⟩))) (h:MI D w mb M) (p:Bool) (a n:Int) :
 Calls Tryz.prog 49 #[.pointer (some ⟨m,0,none⟩),.agg #[.bool p,.int .i64 a,.int .i64 n]] w fun e w'=>e=.returned (.tuple #[.int .i64 (M.word ⟨p,a,n⟩).1,.int .i64 (M.word ⟨p,a,n⟩).2])∧Fr Non w w':=by
 have hL:=Lib.hid fun w1 (h1:Fr Non w w1)=>load_i (h.frN h1) p a n;unfold Mem.word;generalize M.load ⟨p,a,n⟩=L at *;obtain ⟨⟨xp,xa,xn⟩,er⟩:=L;simp only at hL ⊢;have hm:=World.block_lt_of_cell? w _ h2;have hR:(er=0∧(er == 0)=true)∨(er≠0∧(er == 0)=false):=by by_cases h:er=0 <;> simp [h]
 clear h;obtain ⟨R,hR2⟩:∃ R:Int × Int,R=(if er≠0 then (0,er) else if xp=true then (0,11) else (xn,0)):=⟨_,rfl⟩;rw [← hR2];have HR:=Lib.hid hR2;clear hR2;go_enter Tryz.func49,Tryz.ntmps49
 go_wp2_with fail
 have hb1:Row (w.alloc (.cells #[.bool p,.int .i64 a,.int .i64 n] 40)) w.heap.size 40 [.bool p,.int .i64 a,.int .i64 n]:=Row.new' rfl;have hf0:Fr Non w (w.alloc (.cells #[.bool p,.int .i64 a,.int .i64 n] 40)):=by exact fx
 have hs:(w.alloc (.cells #[.bool p,.int .i64 a,.int .i64 n] 40)).heap.size=w.heap.size+1:=by simp
 have k2:=hf0.cell h2 id;generalize w.alloc (.cells #[.bool p,.int .i64 a,.int .i64 n] 40)=W at *;obtain ⟨q0,q1,q2,qz⟩:=row3 hb1;have hlt:=hb1.lt;have HF:=Lib.hid hf0;clear hf0 hb1;have hmW:m<W.heap.size:=by omega
 have cW:=@Mix.cls_drew W [m,w.heap.size];refine Mix.wp_region_alt [3,4] [(0,0),(0,1),(0,2),(1,3),(1,4)] 5 9 [(0,6),(0,7),(0,8),(2,9),(2,10),(0,11)] [(2,5),(0,6),(0,7),(0,8),(2,10),(0,11)] (fun V=>∃ g,V=Mix.upon W [m,w.heap.size] g) (by kernel_rfl) (by kernel_rfl) cW ?_;clear cW;repeat (first|((first|refine Mix.qa ?_|refine Mix.qb ?_);intro K hK;simp only [nA,nB,nC];go_big_quiet_op;go_big_quiet_on)|refine Mix.qc ?_|refine Mix.qd ?_)
 refine Mix.S_done ?_;refine ⟨?_,?_⟩
 · refine Mix.N_eff (C:=fun V=>∃ g,V=Mix.upon W [m,w.heap.size] g) rfl rfl ?_;intro K hK;simp only [nA,nB,nC];go_simp;refine (hL.out _ (by exact HF.out.drew)).mono ?_;rintro e1 w1 ⟨rfl,hg⟩;have hg1:Fr Non W w1:=Fr.trans (by exact fx) hg;refine hK _ _ ⟨Mix.cls_fr (D:=Non) hg (by simp [Non];omega),?_⟩;clear hK K hg;have hs1:=hg1.size;have HG:=Lib.hid hg1;clear hg1;repeat (first|((first|refine Mix.qa ?_|refine Mix.qb ?_);intro K hK;simp only [nA,nB,nC];go_big_quiet_op;go_big_quiet_on)|refine Mix.qc ?_|refine Mix.qd ?_)
   refine Mix.S_eff rfl rfl ?_;intro K hK;simp only [nA,nB,nC];go_simp;refine hK _ _ ⟨Mix.cls_fr (D:=Non) (by exact fx) (by simp [Non];omega),?_⟩;clear hK K;refine Mix.S_eff rfl rfl ?_;intro K hK;simp only [nA,nB,nC];go_simp;refine hK _ _ ⟨Mix.cls_fr (D:=fun x=>x=w1.heap.size) (by exact Fr.realloc _ _ _) (by simp;omega),?_⟩;clear hK K;repeat (first|((first|refine Mix.qa ?_|refine Mix.qb ?_);intro K hK;simp only [nA,nB,nC];go_big_quiet_op;go_big_quiet_on)|refine Mix.qc ?_|refine Mix.qd ?_)
   refine Mix.S_done ?_;rcases hR with ⟨rfl,her⟩|⟨hne,her⟩
   · cases xp
     · go_wp2_with fail
       go_ret2
       refine ⟨by rw [HR.out];rfl,?_⟩;exact (HF.out.trans HG.out).alloc _
     · go_wp2_with fail
       go_ret2
       refine ⟨by rw [HR.out];rfl,?_⟩;exact (HF.out.trans HG.out).alloc _
   · go_wp2_with fail
     go_ret2
     refine ⟨by rw [HR.out,if_pos hne];rfl,?_⟩;exact (HF.out.trans HG.out).alloc _
 · refine Mix.N_eff (C:=fun V=>∃ g,V=Mix.upon W [m,w.heap.size] g) rfl rfl ?_;intro K hK;simp only [nA,nB,nC];go_simp;refine hK _ _ ⟨Mix.cls_fr (D:=Non) (by exact fx) (by simp [Non];omega),?_⟩;clear hK K;refine Mix.S_eff rfl rfl ?_;intro K hK;simp only [nA,nB,nC];go_simp;refine (hL.out _ (by exact (HF.out.drew).alloc _)).mono ?_;rintro e1 w1 ⟨rfl,hg⟩;have hg1:Fr Non W w1:=Fr.trans (by exact fx) hg;have hx:Row w1 (w.heap.size+1) 40 [.bool false,.int .i64 0,.int .i64 0]:=hg.row (by exact (Row.new' (by simp [hs]))) id;obtain ⟨b0,b1,b2,bz⟩:=row3 hx;refine hK _ _ ⟨Mix.cls_fr (D:=Non) hg (by simp [Non];omega),?_⟩;have hs1:=hg.size;simp only [World.size_alloc,World.size_drew] at hs1;clear hK K hg;have HG:=Lib.hid hg1;clear hg1;repeat (first|((first|refine Mix.qa ?_|refine Mix.qb ?_);intro K hK;simp only [nA,nB,nC];go_big_quiet_op;go_big_quiet_on)|refine Mix.qc ?_|refine Mix.qd ?_)
   refine Mix.S_eff rfl rfl ?_;intro K hK;simp only [nA,nB,nC];go_simp;refine hK _ _ ⟨Mix.cls_fr (D:=fun x=>x=w.heap.size+1) (by exact ((Fr.set1 _ _ _ _).trans (Fr.set1 _ _ _ _)).trans (Fr.set1 _ _ _ _)) (by simp;omega),?_⟩;clear hK K;repeat (first|((first|refine Mix.qa ?_|refine Mix.qb ?_);intro K hK;simp only [nA,nB,nC];go_big_quiet_op;go_big_quiet_on)|refine Mix.qc ?_|refine Mix.qd ?_)
   refine Mix.S_done ?_
   have hw3:Fr Non w (((w1.setCell ⟨w.heap.size+1,0,none⟩ (.bool xp)).setCell ⟨w.heap.size+1,1,none⟩ (.int .i64 xa)).setCell ⟨w.heap.size+1,2,none⟩ (.int .i64 xn)) :=
    (((HF.out.trans HG.out).setCell (a:=⟨w.heap.size+1,0,none⟩) (Or.inr (by simp)) _).setCell (a:=⟨w.heap.size+1,1,none⟩) (Or.inr (by simp)) _).setCell (a:=⟨w.heap.size+1,2,none⟩) (Or.inr (by simp)) _
   have hx3:=((hx.set_same 0 (.bool xp)).set_same 1 (.int .i64 xa)).set_same 2 (.int .i64 xn);obtain ⟨y0,y1,y2,yz⟩:=row3 hx3;generalize ((w1.setCell ⟨w.heap.size+1,0,none⟩ (.bool xp)).setCell ⟨w.heap.size+1,1,none⟩ (.int .i64 xa)).setCell ⟨w.heap.size+1,2,none⟩ (.int .i64 xn)=w3 at *;have HG3:=Lib.hid hw3;clear hw3 hx3 hx b0 b1 b2 bz HG;rcases hR with ⟨rfl,her⟩|⟨hne,her⟩
   · cases xp
     all_goals go_wp2_with fail
     all_goals go_ret2
     all_goals refine ⟨by rw [HR.out];rfl,HG3.out⟩
   · go_wp2_with fail
     go_ret2
     exact ⟨by rw [HR.out,if_pos hne];rfl,HG3.out⟩
theorem offS_eq (p:Bool) (a n k:Int):offS ⟨p,a,n⟩ k=⟨p,a,offn p n k⟩:=by
 unfold offS offn;cases p
 · rfl
 · simp [IntWalk.i64_left]
def Cr.cs (x:Cr):List Value:=[.string x.name,.int .i64 x.resume,.int .i64 x.cancel,.int .i64 x.words,.int .i64 x.args]
def crs (l:List Cr):List Value:=l.flatMap Cr.cs
theorem crs_cons (x:Cr) (l:List Cr):crs (x :: l)=.string x.name :: .int .i64 x.resume :: .int .i64 x.cancel :: .int .i64 x.words :: .int .i64 x.args :: crs l:=rfl
theorem crs_get {l:List Cr} {i:Nat} {x:Cr} (h:l[i]?=some x) :
 (crs l)[i * 5]?=some (.string x.name)∧(crs l)[i * 5+1]?=some (.int .i64 x.resume)∧(crs l)[i * 5+2]?=some (.int .i64 x.cancel)∧(crs l)[i * 5+3]?=some (.int .i64 x.words)∧(crs l)[i * 5+4]?=some (.int .i64 x.args):=by
 induction l generalizing i with
 | nil=>simp at h
 | cons y l ih =>
  cases i with
  | zero=>simp at h;subst h;simp [crs_cons]
  | succ i =>
   have:=ih (by simpa using h);rw [crs_cons,show (i+1) * 5=i * 5+5 by omega];exact this
def CosAt (w:World) (co:Option Addr) (l:List Cr):Prop:=0<l.length→∃ b o,co=some ⟨b,o,none⟩∧∀ (j:Nat) (u:Value),(crs l)[j]?=some u→w.cell? ⟨b,o+j,none⟩=some u
theorem state_c {D:Nat→Prop} {w:World} {m mb:Nat} {M:Mem} {P:Pr} {co:Option Addr} {cc:Nat} (h1:w.cell? ⟨m,1,none⟩=some (.slice co P.cos.length cc)) (h2:w.cell? ⟨m,2,none⟩=some (.pointer (some ⟨mb,0,none⟩))) (h:MI D w mb M) (hc:CosAt w co P.cos)
 (p:Bool) (a n:Int) :
 Calls Tryz.prog 80 #[.pointer (some ⟨m,0,none⟩),.agg #[.bool p,.int .i64 a,.int .i64 n]] w fun e w'=>e=.returned (.tuple #[.int .i64 (stateS P M ⟨p,a,n⟩).1,.agg (stateS P M ⟨p,a,n⟩).2.1.cs.toArray,.int .i64 (stateS P M ⟨p,a,n⟩).2.2])∧Fr Non w w':=by
 have hW0:=Lib.hid fun w1 (f:Fr Non w w1)=>word_c (f.cell h2 id) (h.frN f) p a (offn p n 0);have hW2:=Lib.hid fun w1 (f:Fr Non w w1)=>word_c (f.cell h2 id) (h.frN f) p a (offn p n 2);obtain ⟨R,hR⟩:∃ R,R=stateS P M ⟨p,a,n⟩:=⟨_,rfl⟩;rw [← hR];unfold stateS at hR;rw [offS_eq,offS_eq] at hR;generalize M.word ⟨p,a,offn p n 0⟩=A at *;generalize M.word ⟨p,a,offn p n 2⟩=B at *;obtain ⟨s,e0⟩:=A;obtain ⟨k,e2⟩:=B;simp only at hR hW0 hW2;have HR:=Lib.hid hR;clear hR h;have hm:=World.block_lt_of_cell? w _ h1;have HC:=Lib.hid (And.intro h1 hc);clear h2 hc;by_cases he0:e0=0
 · subst he0;by_cases he2:e2=0
   · subst he2;have hl0:(0:Int)≤(P.cos.length:Int):=by omega
     have hcase:(k<0∧decide (k<0)=true)∨(¬ k<0∧decide (k<0)=false∧(P.cos.length:Int)≤k∧decide ((P.cos.length:Int)≤k)=true)∨(¬ k<0∧decide (k<0)=false∧¬ (P.cos.length:Int)≤k∧decide ((P.cos.length:Int)≤k)=false):=by
      by_cases hk:k<0 <;> by_cases hk2:(P.cos.length:Int)≤k <;> simp [hk,hk2]
     rcases hcase with ⟨hk,hd⟩|⟨hk,hd,hk2,hd2⟩|⟨hk,hd,hk2,hd2⟩
     · go_enter Tryz.func80,Tryz.ntmps80
       go_wp2_with fail
       refine (off_c _ p a n 0).mono ?_;rintro e1 w1 ⟨rfl,hf1⟩;have hf1':Fr Non w w1:=Fr.trans (by exact fx) hf1;have HF1:=Lib.hid hf1';have x5:Row w1 (w.heap.size+1) 87 [.string ⟨#[]⟩,.int .i64 0,.int .i64 0,.int .i64 0,.int .i64 0]:=hf1.row (by exact Row.new' (by simp)) id;have xb:Row w1 w.heap.size 40 [.bool p,.int .i64 a,.int .i64 n]:=hf1.row (by exact Row.alloc (Row.new' rfl) _) id;clear hf1 hf1';go_wp2_with fail
       refine (hW0.out w1 HF1.out).mono ?_;rintro e1 w2 ⟨rfl,hf2⟩;have x6:=hf2.row x5 id;have HF2:=Lib.hid (HF1.out.trans hf2);have HB2:=Lib.hid (hf2.row xb id);clear hf2 x5 xb;have z0:=(HB2.out:Row w2 w.heap.size 40 [.bool p,.int .i64 a,.int .i64 n]);obtain ⟨q0,q1,q2,qz⟩:=row3 z0;go_wp2_with fail
       refine (off_c _ p a n 2).mono ?_;rintro e3 w3 ⟨rfl,hf3⟩;have x7:=hf3.row x6 id;have HF3:=Lib.hid (HF2.out.trans hf3);clear hf3 x6 z0 q0 q1 q2 qz;go_wp2_with fail
       refine (hW2.out w3 HF3.out).mono ?_;rintro e4 w4 ⟨rfl,hf4⟩;have x8:=hf4.row x7 id;have HF4:=Lib.hid (HF3.out.trans hf4);clear hf4 x7;obtain ⟨y0,y1,y2,y3,y4,yz⟩:=row5 x8;go_wp2_with fail
       have hR:=HR.out;rw [if_neg (by simp),if_neg (by simp),if_pos (Or.inl hk)] at hR;rw [hR];exact bodyPost_ret (v:=.tuple #[.int .i64 0,.agg #[.string ⟨#[]⟩,.int .i64 0,.int .i64 0,.int .i64 0,.int .i64 0],.int .i64 30]) (by simp [results,Tryz.results80,go_sem,y0,y1,y2,y3,y4]) rfl ⟨rfl,by exact ((((HF4.out.set_new (by omega)).set_new (by omega)).set_new (by omega)).set_new (by omega)).set_new (by omega)⟩
     · go_enter Tryz.func80,Tryz.ntmps80
       go_wp2_with fail
       refine (off_c _ p a n 0).mono ?_;rintro e1 w1 ⟨rfl,hf1⟩;have hf1':Fr Non w w1:=Fr.trans (by exact fx) hf1;have HF1:=Lib.hid hf1';have x5:Row w1 (w.heap.size+1) 87 [.string ⟨#[]⟩,.int .i64 0,.int .i64 0,.int .i64 0,.int .i64 0]:=hf1.row (by exact Row.new' (by simp)) id;have xb:Row w1 w.heap.size 40 [.bool p,.int .i64 a,.int .i64 n]:=hf1.row (by exact Row.alloc (Row.new' rfl) _) id;clear hf1 hf1';go_wp2_with fail
       refine (hW0.out w1 HF1.out).mono ?_;rintro e1 w2 ⟨rfl,hf2⟩;have x6:=hf2.row x5 id;have HF2:=Lib.hid (HF1.out.trans hf2);have HB2:=Lib.hid (hf2.row xb id);clear hf2 x5 xb;have z0:=(HB2.out:Row w2 w.heap.size 40 [.bool p,.int .i64 a,.int .i64 n]);obtain ⟨q0,q1,q2,qz⟩:=row3 z0;go_wp2_with fail
       refine (off_c _ p a n 2).mono ?_;rintro e3 w3 ⟨rfl,hf3⟩;have x7:=hf3.row x6 id;have HF3:=Lib.hid (HF2.out.trans hf3);clear hf3 x6 z0 q0 q1 q2 qz;go_wp2_with fail
       refine (hW2.out w3 HF3.out).mono ?_;rintro e4 w4 ⟨rfl,hf4⟩;have x8:=hf4.row x7 id;have HF4:=Lib.hid (HF3.out.trans hf4);clear hf4 x7;obtain ⟨y0,y1,y2,y3,y4,yz⟩:=row5 x8;have b0:=HF4.out.cell (show w.cell? ⟨m,1,none⟩=some (.slice co P.cos.length cc) from HC.out.1) id;go_wp2_with fail
       have hR:=HR.out;rw [if_neg (by simp),if_neg (by simp),if_pos (Or.inr hk2)] at hR;rw [hR];exact bodyPost_ret (v:=.tuple #[.int .i64 0,.agg #[.string ⟨#[]⟩,.int .i64 0,.int .i64 0,.int .i64 0,.int .i64 0],.int .i64 30]) (by simp [results,Tryz.results80,go_sem,y0,y1,y2,y3,y4]) rfl ⟨rfl,by exact ((((HF4.out.set_new (by omega)).set_new (by omega)).set_new (by omega)).set_new (by omega)).set_new (by omega)⟩
     · obtain ⟨i,rfl⟩:=Int.eq_ofNat_of_zero_le (show 0≤k by omega);have hil:i<P.cos.length:=by omega
       obtain ⟨x,hx⟩:∃ x,P.cos[i]?=some x:=⟨P.cos[i],List.getElem?_eq_getElem hil⟩;obtain ⟨cb,o,rfl,hcs⟩:=HC.out.2 (by omega);obtain ⟨g0,g1,g2,g3,g4⟩:=crs_get hx;have c0:=hcs _ _ g0;have c1:=hcs _ _ g1;have c2:=hcs _ _ g2;have c3:=hcs _ _ g3;have c4:=hcs _ _ g4;rw [← Nat.add_assoc] at c1 c2 c3 c4;have HX:=Lib.hid (And.intro c0 (And.intro c1 (And.intro c2 (And.intro c3 c4))));have hcb:=World.block_lt_of_cell? w _ c0;clear hcs g0 g1 g2 g3 g4 c0 c1 c2 c3 c4;go_enter Tryz.func80,Tryz.ntmps80
       go_wp2_with fail
       refine (off_c _ p a n 0).mono ?_;rintro e1 w1 ⟨rfl,hf1⟩;have hf1':Fr Non w w1:=Fr.trans (by exact fx) hf1;have HF1:=Lib.hid hf1';have x5:Row w1 (w.heap.size+1) 87 [.string ⟨#[]⟩,.int .i64 0,.int .i64 0,.int .i64 0,.int .i64 0]:=hf1.row (by exact Row.new' (by simp)) id;have xb:Row w1 w.heap.size 40 [.bool p,.int .i64 a,.int .i64 n]:=hf1.row (by exact Row.alloc (Row.new' rfl) _) id;clear hf1 hf1';go_wp2_with fail
       refine (hW0.out w1 HF1.out).mono ?_;rintro e1 w2 ⟨rfl,hf2⟩;have x6:=hf2.row x5 id;have HF2:=Lib.hid (HF1.out.trans hf2);have HB2:=Lib.hid (hf2.row xb id);clear hf2 x5 xb;have z0:=(HB2.out:Row w2 w.heap.size 40 [.bool p,.int .i64 a,.int .i64 n]);obtain ⟨q0,q1,q2,qz⟩:=row3 z0;go_wp2_with fail
       refine (off_c _ p a n 2).mono ?_;rintro e3 w3 ⟨rfl,hf3⟩;have x7:=hf3.row x6 id;have HF3:=Lib.hid (HF2.out.trans hf3);clear hf3 x6 z0 q0 q1 q2 qz;go_wp2_with fail
       refine (hW2.out w3 HF3.out).mono ?_;rintro e4 w4 ⟨rfl,hf4⟩;have x8:=hf4.row x7 id;have HF4:=Lib.hid (HF3.out.trans hf4);clear hf4 x7;obtain ⟨y0,y1,y2,y3,y4,yz⟩:=row5 x8;have b0:=HF4.out.cell (show w.cell? ⟨m,1,none⟩=some (.slice (some ⟨cb,o,none⟩) P.cos.length cc) from HC.out.1) id;have c0:=HF4.out.cell HX.out.1 id;have c1:=HF4.out.cell HX.out.2.1 id;have c2:=HF4.out.cell HX.out.2.2.1 id;have c3:=HF4.out.cell HX.out.2.2.2.1 id;have c4:=HF4.out.cell HX.out.2.2.2.2 id;have hs4:=HF4.out.size;have hl8:=x8.lt;go_wp2_with fail
       have cW:=@Mix.cls_drew w4 [m,cb];refine Mix.wp_region_mix [5,8] [(0,0),(0,1),(0,2),(0,3),(0,4),(1,5),(0,6),(0,7),(1,8),(0,9),(2,10),(0,11)] (fun V=>∃ g,V=Mix.upon w4 [m,cb] g) (by kernel_rfl) (by kernel_rfl) cW ?_;clear cW;repeat (first|((first|refine Mix.qa ?_|refine Mix.qb ?_);intro K hK;simp only [nA,nB,nC];go_big_quiet_op;go_big_quiet_on)|refine Mix.qc ?_|refine Mix.qd ?_)
       refine Mix.S_eff rfl rfl ?_;intro K hK;simp only [nA,nB,nC];go_simp;refine hK _ _ ⟨Mix.cls_fr (D:=fun x=>x=w.heap.size+1) (by exact ((((Fr.set1 _ _ _ _).trans (Fr.set1 _ _ _ _)).trans (Fr.set1 _ _ _ _)).trans (Fr.set1 _ _ _ _)).trans (Fr.set1 _ _ _ _)) (by simp;omega),?_⟩;clear hK K;repeat (first|((first|refine Mix.qa ?_|refine Mix.qb ?_);intro K hK;simp only [nA,nB,nC];go_big_quiet_op;go_big_quiet_on)|refine Mix.qc ?_|refine Mix.qd ?_)
       refine Mix.S_done ?_;have hR:=HR.out;rw [if_neg (by simp),if_neg (by simp),if_neg (by omega)] at hR;have hco:P.co (i:Int)=x:=by unfold Pr.co;rw [Int.toNat_natCast,List.getD_eq_getElem?_getD,hx];rfl
       rw [hco] at hR;have HR2:=Lib.hid hR;clear hR hco;go_wp2_with fail
       rw [HR2.out];exact bodyPost_ret (v:=.tuple #[.int .i64 s,.agg #[.string x.name,.int .i64 x.resume,.int .i64 x.cancel,.int .i64 x.words,.int .i64 x.args],.int .i64 0]) (by simp [results,Tryz.results80,go_sem,y0,y1,y2,y3,y4]) rfl ⟨rfl,by exact (((((HF4.out.set_new (by omega)).set_new (by omega)).set_new (by omega)).set_new (by omega)).set_new (by omega)).drew⟩
   · have he2':(e2 == 0)=false:=beq_false_of_ne he2;have he2n:(e2 != 0)=true:=by simp [he2]
     go_enter Tryz.func80,Tryz.ntmps80
     go_wp2_with fail
     refine (off_c _ p a n 0).mono ?_;rintro e1 w1 ⟨rfl,hf1⟩;have hf1':Fr Non w w1:=Fr.trans (by exact fx) hf1;have HF1:=Lib.hid hf1';have x5:Row w1 (w.heap.size+1) 87 [.string ⟨#[]⟩,.int .i64 0,.int .i64 0,.int .i64 0,.int .i64 0]:=hf1.row (by exact Row.new' (by simp)) id;have xb:Row w1 w.heap.size 40 [.bool p,.int .i64 a,.int .i64 n]:=hf1.row (by exact Row.alloc (Row.new' rfl) _) id;clear hf1 hf1';go_wp2_with fail
     refine (hW0.out w1 HF1.out).mono ?_;rintro e1 w2 ⟨rfl,hf2⟩;have x6:=hf2.row x5 id;have HF2:=Lib.hid (HF1.out.trans hf2);have HB2:=Lib.hid (hf2.row xb id);clear hf2 x5 xb;have z0:=(HB2.out:Row w2 w.heap.size 40 [.bool p,.int .i64 a,.int .i64 n]);obtain ⟨q0,q1,q2,qz⟩:=row3 z0;go_wp2_with fail
     refine (off_c _ p a n 2).mono ?_;rintro e3 w3 ⟨rfl,hf3⟩;have x7:=hf3.row x6 id;have HF3:=Lib.hid (HF2.out.trans hf3);clear hf3 x6 z0 q0 q1 q2 qz;go_wp2_with fail
     refine (hW2.out w3 HF3.out).mono ?_;rintro e4 w4 ⟨rfl,hf4⟩;have x8:=hf4.row x7 id;have HF4:=Lib.hid (HF3.out.trans hf4);clear hf4 x7;obtain ⟨y0,y1,y2,y3,y4,yz⟩:=row5 x8;go_wp2_with fail
     have hR:=HR.out;rw [if_neg (by simp),if_pos he2] at hR;rw [hR];exact bodyPost_ret (v:=.tuple #[.int .i64 0,.agg #[.string ⟨#[]⟩,.int .i64 0,.int .i64 0,.int .i64 0,.int .i64 0],.int .i64 e2]) (by simp [results,Tryz.results80,go_sem,y0,y1,y2,y3,y4]) rfl ⟨rfl,by exact ((((HF4.out.set_new (by omega)).set_new (by omega)).set_new (by omega)).set_new (by omega)).set_new (by omega)⟩
 · have he0':(e0 == 0)=false:=beq_false_of_ne he0;have he0n:(e0 != 0)=true:=by simp [he0]
   go_enter Tryz.func80,Tryz.ntmps80
   go_wp2_with fail
   refine (off_c _ p a n 0).mono ?_;rintro e1 w1 ⟨rfl,hf1⟩;have hf1':Fr Non w w1:=Fr.trans (by exact fx) hf1;have HF1:=Lib.hid hf1';have x5:Row w1 (w.heap.size+1) 87 [.string ⟨#[]⟩,.int .i64 0,.int .i64 0,.int .i64 0,.int .i64 0]:=hf1.row (by exact Row.new' (by simp)) id;have xb:Row w1 w.heap.size 40 [.bool p,.int .i64 a,.int .i64 n]:=hf1.row (by exact Row.alloc (Row.new' rfl) _) id;clear hf1 hf1';go_wp2_with fail
   refine (hW0.out w1 HF1.out).mono ?_;rintro e1 w2 ⟨rfl,hf2⟩;have x6:=hf2.row x5 id;have HF2:=Lib.hid (HF1.out.trans hf2);have HB2:=Lib.hid (hf2.row xb id);clear hf2 x5 xb;obtain ⟨y0,y1,y2,y3,y4,yz⟩:=row5 x6;go_wp2_with fail
   have hR:=HR.out;rw [if_pos he0] at hR;rw [hR];have hs1:=HF1.out.size;exact bodyPost_ret (v:=.tuple #[.int .i64 0,.agg #[.string ⟨#[]⟩,.int .i64 0,.int .i64 0,.int .i64 0,.int .i64 0],.int .i64 e0]) (by simp [results,Tryz.results80,go_sem,y0,y1,y2,y3,y4]) rfl ⟨rfl,by exact ((((HF2.out.set_new (by omega)).set_new (by omega)).set_new (by omega)).set_new (by omega)).set_new (by omega)⟩
def CB (base:Nat) (w:World) (b o:Nat) (v:Value):Prop:=b<base∧w.cell? ⟨b,o,none⟩=some v
def High (base:Nat) (E:Nat→Prop):Prop:=∀ x,E x→base≤x
theorem CB.fr {base b o:Nat} {w w':World} {v:Value} {E:Nat→Prop} (h:CB base w b o v) (f:Fr E w w') (hE:High base E):CB base w' b o v :=
 ⟨h.1,f.cell h.2 fun hx=>by have:=hE b hx;have:=h.1;omega⟩
def IntsAt (base:Nat) (w:World) (ao:Option Addr) (l:List Int):Prop:=∀ (i:Nat) (n:Int),l[i]?=some n→∃ b o,ao=some ⟨b,o,none⟩∧CB base w b (o+i) (.int .i64 n)
def InsAt (base:Nat) (w:World) (ao:Option Addr) (l:List In):Prop:=∀ (i:Nat) (x:In),l[i]?=some x→∃ b o la lc,ao=some ⟨b,o,none⟩∧CB base w b (o+i * 5) (.int .i64 x.op)∧CB base w b (o+i * 5+1) (.int .i64 x.a) ∧
 CB base w b (o+i * 5+2) (.int .i64 x.b)∧CB base w b (o+i * 5+3) (.int .i64 x.c)∧CB base w b (o+i * 5+4) (.slice la x.l.length lc)∧IntsAt base w la x.l
def FunsAt (base:Nat) (w:World) (ao:Option Addr) (l:List (List In)):Prop:=∀ (i:Nat) (f:List In),l[i]?=some f→∃ b o io ic,ao=some ⟨b,o,none⟩∧CB base w b (o+i) (.slice io f.length ic)∧InsAt base w io f
def CosB (base:Nat) (w:World) (co:Option Addr) (l:List Cr):Prop:=0<l.length→∃ b o,co=some ⟨b,o,none⟩∧∀ (j:Nat) (u:Value),(crs l)[j]?=some u→CB base w b (o+j) u
theorem CosB.at {base:Nat} {w:World} {co:Option Addr} {l:List Cr} (h:CosB base w co l):CosAt w co l:=fun hl=>by
 obtain ⟨b,o,e,hc⟩:=h hl;exact ⟨b,o,e,fun j u hu=>(hc j u hu).2⟩
section
variable {base:Nat} {w w':World} {E:Nat→Prop} (f:Fr E w w') (hE:High base E)
include f hE
theorem IntsAt.fr {ao:Option Addr} {l:List Int} (h:IntsAt base w ao l):IntsAt base w' ao l:=fun i n hn=>by
 obtain ⟨b,o,e,hc⟩:=h i n hn;exact ⟨b,o,e,hc.fr f hE⟩
theorem InsAt.fr {ao:Option Addr} {l:List In} (h:InsAt base w ao l):InsAt base w' ao l:=fun i x hx=>by
 obtain ⟨b,o,la,lc,e,h0,h1,h2,h3,h4,h5⟩:=h i x hx;exact ⟨b,o,la,lc,e,h0.fr f hE,h1.fr f hE,h2.fr f hE,h3.fr f hE,h4.fr f hE,h5.fr f hE⟩
theorem FunsAt.fr {ao:Option Addr} {l:List (List In)} (h:FunsAt base w ao l):FunsAt base w' ao l:=fun i x hx=>by
 obtain ⟨b,o,io,ic,e,h0,h1⟩:=h i x hx;exact ⟨b,o,io,ic,e,h0.fr f hE,h1.fr f hE⟩
theorem CosB.fr {co:Option Addr} {l:List Cr} (h:CosB base w co l):CosB base w' co l:=fun hl=>by
 obtain ⟨b,o,e,hc⟩:=h hl;exact ⟨b,o,e,fun j u hu=>(hc j u hu).fr f hE⟩
end
def Cl.cs (c:Cl) (io:Option Addr) (ic:Nat):List Value:=.slice io c.fn.length ic :: .int .i64 c.at_ :: (flat c.regs ++ (c.frame.cs ++ [.int .i64 c.role,.int .i64 c.into,.int .i64 c.label]))
def ClAt (base:Nat) (w:World) (b:Nat) (c:Cl):Prop:=∃ io ic,Row w b 103 (c.cs io ic)∧InsAt base w io c.fn∧c.regs.length=16
theorem ClAt.fr {base b:Nat} {w w':World} {E:Nat→Prop} {c:Cl} (h:ClAt base w b c) (f:Fr E w w') (hE:High base E) (hb:¬ E b):ClAt base w' b c:=by
 obtain ⟨io,ic,h1,h2,h3⟩:=h;exact ⟨io,ic,f.row h1 hb,h2.fr f hE,h3⟩
def ptr (b:Nat):Value:=.pointer (some ⟨b,0,none⟩)
def EvAt (w:World) (eb:Nat) (l:List (Int × Int)):Prop :=
 ∃ es clock,w.heap[eb]?=some (.map es clock)∧es.toList.map (fun x=>(x.key,x.val))=l.map (fun x=>(.int .i64 x.1,.int .i64 x.2))∧(∀ x∈es,x.born<clock)
theorem EvAt.fr {w w':World} {eb:Nat} {l:List (Int × Int)} {E:Nat→Prop} (h:EvAt w eb l) (f:Fr E w w') (hE:¬ E eb):EvAt w' eb l:=by
 obtain ⟨es,clock,h1,h2,h3⟩:=h;exact ⟨es,clock,(f.keep eb (lt_of_block h1) hE).trans h1,h2,h3⟩
structure Lay where
 fo:Option Addr
 co:Option Addr
 fc:Nat
 cc:Nat
 mb:Nat
 eb:Nat
 tv:Value
 sv:Value
 Dm:Nat→Prop
 bl:List Nat
def Lay.cells (L:Lay) (P:Pr) (task fuel:Int):List Value:=[.slice L.fo P.funs.length L.fc,.slice L.co P.cos.length L.cc,ptr L.mb,.map (some L.eb),L.tv,L.sv,.int .i64 task,.int .i64 fuel]
structure ML (base:Nat) (P:Pr) (A:Nat→Prop) (w:World) (m:Nat) (S:St) (L:Lay):Prop where
 high:High base A
 lt:∀ x,A x→x<w.heap.size
 row:Row w m 84 (L.cells P S.task S.fuel)
 funs:FunsAt base w L.fo P.funs
 cos:CosB base w L.co P.cos
 mem:MI L.Dm w L.mb S.mem
 ev:EvAt w L.eb S.ev
 told:Own w L.tv 74 4 S.told.length (evs S.told)
 stk:Own w L.sv 171 1 L.bl.length (L.bl.reverse.map ptr)
 len:L.bl.length=S.stack.length
 nodup:L.bl.Nodup
 cls:∀ (i b:Nat) (c:Cl),L.bl[i]?=some b→S.stack[i]?=some c→ClAt base w b c
 om:A m
 oe:A L.eb
 od:∀ x,L.Dm x→A x
 ot:∀ x,L.tv.ownBlock=some x→A x
 os:∀ x,L.sv.ownBlock=some x→A x
 ob:∀ x∈L.bl,A x
 sep:∀ x,L.Dm x→x≠m∧x≠L.eb∧L.tv.ownBlock≠some x∧L.sv.ownBlock≠some x∧x ∉ L.bl
def MInv (base:Nat) (P:Pr) (A:Nat→Prop) (w:World) (m:Nat) (S:St):Prop:=∃ L,ML base P A w m S L
def Aft (base:Nat) (P:Pr) (A:Nat→Prop) (w w':World) (m:Nat) (S:St):Prop :=
 ∃ A',MInv base P A' w' m S∧(∀ x,A' x→A x∨w.heap.size≤x)∧Fr A w w'
section
variable {base:Nat} {P:Pr} {A:Nat→Prop} {w w':World} {m:Nat} {S:St} {L:Lay}
theorem ML.ne_me (h:ML base P A w m S L):m≠L.eb:=fun e=>by
 obtain ⟨es,clock,h1,_⟩:=h.ev;have h2:=h.row;unfold Row at h2;rw [← e,h2] at h1;cases h1
theorem ML.tv_m (h:ML base P A w m S L):L.tv.ownBlock≠some m:=h.told.ne h.row (by decide)
theorem ML.sv_m (h:ML base P A w m S L):L.sv.ownBlock≠some m:=h.stk.ne h.row (by decide)
theorem Own.ne_map {v:Value} {T:TypeId} {k n eb:Nat} {cs:List Value} {l:List (Int × Int)} (h:Own w v T k n cs) (e:EvAt w eb l):v.ownBlock≠some eb:=fun hv=>by
 obtain ⟨arr,ha⟩:=h.row hv;obtain ⟨es,clock,h1,_⟩:=e;unfold Row at ha;rw [ha] at h1;cases h1
theorem ML.tv_sv (h:ML base P A w m S L) (x:Nat) (e:L.tv.ownBlock=some x):L.sv.ownBlock≠some x:=fun e2=>by
 obtain ⟨arr,ha⟩:=h.told.row e;exact h.stk.ne ha (by decide) e2
theorem ML.call (h:ML base P A w m S L) {b:Nat} (hb:b∈L.bl):∃ c,ClAt base w b c:=by
 obtain ⟨i,hi,rfl⟩:=List.getElem_of_mem hb;have hl:=h.len;exact ⟨S.stack[i],h.cls i _ _ (List.getElem?_eq_getElem hi) (List.getElem?_eq_getElem (by omega))⟩
theorem ML.bl_m (h:ML base P A w m S L) {b:Nat} (hb:b∈L.bl):b≠m:=by
 obtain ⟨c,io,ic,h1,_⟩:=h.call hb;exact h1.ne h.row (by decide)
theorem ML.bl_e (h:ML base P A w m S L) {b:Nat} (hb:b∈L.bl):b≠L.eb:=fun e=>by
 obtain ⟨c,io,ic,h1,_⟩:=h.call hb;obtain ⟨es,clock,h2,_⟩:=h.ev;unfold Row at h1;rw [← e,h1] at h2;cases h2
theorem ML.bl_tv (h:ML base P A w m S L) {b:Nat} (hb:b∈L.bl):L.tv.ownBlock≠some b:=by
 obtain ⟨c,io,ic,h1,_⟩:=h.call hb;exact h.told.ne h1 (by decide)
theorem ML.bl_sv (h:ML base P A w m S L) {b:Nat} (hb:b∈L.bl):L.sv.ownBlock≠some b:=by
 obtain ⟨c,io,ic,h1,_⟩:=h.call hb;exact h.stk.ne h1 (by decide)
theorem ML.base_m (h:ML base P A w m S L):High base (fun x=>x=m):=fun x e=>h.high x (e ▸ h.om)
theorem ML.c1 (h:ML base P A w m S L):w.cell? ⟨m,1,none⟩=some (.slice L.co P.cos.length L.cc):=h.row.cell rfl
theorem ML.c2 (h:ML base P A w m S L):w.cell? ⟨m,2,none⟩=some (.pointer (some ⟨L.mb,0,none⟩)):=h.row.cell rfl
theorem ML.c5 (h:ML base P A w m S L):w.cell? ⟨m,5,none⟩=some L.sv:=h.row.cell rfl
theorem ML.c7 (h:ML base P A w m S L):w.cell? ⟨m,7,none⟩=some (.int .i64 S.fuel):=h.row.cell rfl
theorem ML.mlt (h:ML base P A w m S L):m<w.heap.size:=h.row.lt
theorem ML.frE {E:Nat→Prop} (h:ML base P A w m S L) (f:Fr E w w') (hE:High base E) (hA:∀ x,A x→¬ E x):ML base P A w' m S L where
 high:=h.high
 lt:=fun x hx=>Nat.lt_of_lt_of_le (h.lt x hx) f.size
 row:=f.row h.row (hA _ h.om)
 funs:=h.funs.fr f hE
 cos:=h.cos.fr f hE
 mem:=h.mem.fr f fun x hx=>hA _ (h.od x hx)
 ev:=h.ev.fr f (hA _ h.oe)
 told:=h.told.fr f fun x hx=>hA _ (h.ot x hx)
 stk:=h.stk.fr f fun x hx=>hA _ (h.os x hx)
 len:=h.len
 nodup:=h.nodup
 cls:=fun i b c hb hc=>(h.cls i b c hb hc).fr f hE (hA _ (h.ob _ (List.mem_of_getElem? hb)))
 om:=h.om
 oe:=h.oe
 od:=h.od
 ot:=h.ot
 os:=h.os
 ob:=h.ob
 sep:=h.sep
theorem high_non (base:Nat):High base Non:=fun _ h=>h.elim
theorem ML.frN (h:ML base P A w m S L) (f:Fr Non w w'):ML base P A w' m S L:=h.frE f (high_non _) fun _ _ h=>h
theorem MInv.frN (h:MInv base P A w m S) (f:Fr Non w w'):MInv base P A w' m S:=by
 obtain ⟨L,h⟩:=h;exact ⟨L,h.frN f⟩
theorem ML.upMem (h:ML base P A w m S L) {D':Nat→Prop} {M':Mem} (f:Fr L.Dm w w') (hM:MI D' w' L.mb M') (hD:∀ b,D' b→L.Dm b∨(w.heap.size≤b∧b<w'.heap.size)) :
 ML base P (fun x=>A x∨D' x) w' m { S with mem:=M' } { L with Dm:=D' }:=by
 have hH:High base L.Dm:=fun x hx=>h.high x (h.od x hx);have hb:base≤w.heap.size:=Nat.le_of_lt (Nat.lt_of_le_of_lt (h.high _ h.om) (h.lt _ h.om));refine { high:=?_,lt:=?_,row:=f.row h.row fun e=>(h.sep _ e).1 rfl,funs:=h.funs.fr f hH,cos:=h.cos.fr f hH,mem:=hM,ev:=h.ev.fr f fun e=>(h.sep _ e).2.1 rfl,told:=h.told.fr f fun x hx e=>(h.sep _ e).2.2.1 hx,stk:=h.stk.fr f fun x hx e=>(h.sep _ e).2.2.2.1 hx,len:=h.len,nodup:=h.nodup,cls:=fun i b c hb hc=>(h.cls i b c hb hc).fr f hH fun e=>(h.sep _ e).2.2.2.2 (List.mem_of_getElem? hb),om:=Or.inl h.om,oe:=Or.inl h.oe,od:=fun x hx=>Or.inr hx,ot:=fun x hx=>Or.inl (h.ot x hx),os:=fun x hx=>Or.inl (h.os x hx),ob:=fun x hx=>Or.inl (h.ob x hx),sep:=?_ }
 · rintro x (hx|hx)
   · exact h.high x hx
   · rcases hD x hx with e|e
     · exact hH x e
     · omega
 · rintro x (hx|hx)
   · exact Nat.lt_of_lt_of_le (h.lt x hx) f.size
   · rcases hD x hx with e|e
     · exact Nat.lt_of_lt_of_le (h.lt x (h.od x e)) f.size
     · exact e.2
 · intro x hx;rcases hD x hx with e|e
   · exact h.sep x e
   · have hn:∀ y,A y→x≠y:=fun y hy e2=>by have:=h.lt y hy;omega
     exact ⟨hn _ h.om,hn _ h.oe,fun e2=>hn _ (h.ot _ e2) rfl,fun e2=>hn _ (h.os _ e2) rfl,fun e2=>hn _ (h.ob _ e2) rfl⟩
theorem ML.upTold (h:ML base P A w m S L) {tv':Value} {t':List Ev} (r:Row w' m 84 ({ L with tv:=tv' }.cells P S.task S.fuel)) (ho:Own w' tv' 74 4 t'.length (evs t'))
 (hg:∀ g,tv'.ownBlock=some g→L.tv.ownBlock=some g∨w.heap.size≤g) (f:Fr (fun x=>x=m∨L.tv.ownBlock=some x) w w') :
 ML base P (fun x=>A x∨tv'.ownBlock=some x) w' m { S with told:=t' } { L with tv:=tv' }:=by
 have hE:∀ x,(x=m∨L.tv.ownBlock=some x)→A x:=fun x hx=>by rcases hx with rfl|hx;exact h.om;exact h.ot x hx
 have hH:High base (fun x=>x=m∨L.tv.ownBlock=some x):=fun x hx=>h.high x (hE x hx);have hb:base≤w.heap.size:=Nat.le_of_lt (Nat.lt_of_le_of_lt (h.high _ h.om) (h.lt _ h.om));refine { high:=?_,lt:=?_,row:=r,funs:=h.funs.fr f hH,cos:=h.cos.fr f hH,mem:=h.mem.fr f ?_,ev:=h.ev.fr f ?_,told:=ho,stk:=h.stk.fr f ?_,len:=h.len,nodup:=h.nodup,cls:=fun i b c hb hc=>(h.cls i b c hb hc).fr f hH ?_,om:=Or.inl h.om,oe:=Or.inl h.oe,od:=fun x hx=>Or.inl (h.od x hx),ot:=fun x hx=>Or.inr hx,os:=fun x hx=>Or.inl (h.os x hx),ob:=fun x hx=>Or.inl (h.ob x hx),sep:=?_ }
 · rintro x (hx|hx)
   · exact h.high x hx
   · rcases hg x hx with e|e
     · exact h.high x (h.ot x e)
     · omega
 · rintro x (hx|hx)
   · exact Nat.lt_of_lt_of_le (h.lt x hx) f.size
   · exact ho.lt hx
 · rintro x hx (e|e)
   · exact (h.sep x hx).1 e
   · exact (h.sep x hx).2.2.1 e
 · rintro (e|e)
   · exact h.ne_me e.symm
   · exact h.told.ne_map h.ev e
 · rintro x hx (e|e)
   · exact h.sv_m (e ▸ hx)
   · exact h.tv_sv x e hx
 · have hm:=List.mem_of_getElem? hb;rintro (e|e)
   · exact h.bl_m hm e
   · exact h.bl_tv hm e
 · intro x hx;obtain ⟨s1,s2,s3,s4,s5⟩:=h.sep x hx;refine ⟨s1,s2,fun e=>?_,s4,s5⟩;rcases hg x e with e2|e2
   · exact s3 e2
   · have:=h.lt x (h.od x hx);omega
theorem ML.upTop (h:ML base P A w m S L) {b:Nat} {bs:List Nat} {c':Cl} (hb:L.bl=b :: bs) (hc:ClAt base w' b c') (f:Fr (fun x=>x=b) w w') :
 ML base P A w' m (S.setTop c') L:=by
 have hbm:b∈L.bl:=by rw [hb];exact List.mem_cons_self
 have hH:High base (fun x=>x=b):=fun x hx=>h.high x (hx ▸ h.ob _ hbm);have hl:=h.len;rw [hb] at hl;refine { high:=h.high,lt:=fun x hx=>Nat.lt_of_lt_of_le (h.lt x hx) f.size,row:=f.row h.row (h.bl_m hbm).symm,funs:=h.funs.fr f hH,cos:=h.cos.fr f hH,mem:=h.mem.fr f ?_,ev:=h.ev.fr f (h.bl_e hbm).symm,told:=h.told.fr f ?_,stk:=h.stk.fr f ?_,len:=?_,nodup:=h.nodup,cls:=?_,om:=h.om,oe:=h.oe,od:=h.od,ot:=h.ot,os:=h.os,ob:=h.ob,sep:=h.sep }
 · rintro x hx rfl;exact (h.sep x hx).2.2.2.2 hbm
 · rintro x hx rfl;exact h.bl_tv hbm hx
 · rintro x hx rfl;exact h.bl_sv hbm hx
 · show L.bl.length=S.stack.tail.length+1;rw [hb,List.length_tail,← hl];simp
 · intro i x c hx hcx;cases i with
   | zero =>
    rw [hb] at hx;simp only [List.getElem?_cons_zero,Option.some.injEq] at hx;simp only [St.setTop,List.getElem?_cons_zero,Option.some.injEq] at hcx;subst hx hcx;exact hc
   | succ i =>
    have hc2:S.stack[i+1]?=some c:=by
     simp only [St.setTop,List.getElem?_cons_succ,List.getElem?_tail] at hcx;exact hcx
    refine (h.cls (i+1) x c hx hc2).fr f hH fun e=>?_;subst e;have hn:=h.nodup;rw [hb] at hn hx;simp only [List.getElem?_cons_succ] at hx;exact (List.nodup_cons.1 hn).1 (List.mem_of_getElem? hx)
end
theorem top_c {w:World} {m g n sc b:Nat} (h5:w.cell? ⟨m,5,none⟩=some (.slice (some ⟨g,0,none⟩) (n+1) sc)) (hg:w.cell? ⟨g,n,none⟩=some (.pointer (some ⟨b,0,none⟩))) (hn:n≤1000000000000) :
 Calls Tryz.prog 101 #[.pointer (some ⟨m,0,none⟩)] w fun e w'=>e=.returned (.pointer (some ⟨b,0,none⟩))∧Fr Non w w':=by
 have hw:IntKind.i64.wrap (n:Int)=(n:Int):=IntWalk.i64_in _ (by omega);have h0:(0:Int)≤(n:Int):=by omega
 have h1:(n:Int)<(n:Int)+1:=by omega
 have hm:=World.block_lt_of_cell? w _ h5;go_enter Tryz.func101,Tryz.ntmps101
 go_wp2_with fail
 go_quiet (fail)
 go_wp2_with fail
 go_ret
 exact ⟨rfl,by exact fx⟩
theorem pop_c {w:World} {m g n sc b:Nat} (h5:w.cell? ⟨m,5,none⟩=some (.slice (some ⟨g,0,none⟩) (n+1) sc)) (hz:∀ o,w.frozen? ⟨m,o,none⟩=false) (hg:w.cell? ⟨g,n,none⟩=some (.pointer (some ⟨b,0,none⟩))) (hn:n≤1000000000000) (hsc:n+1≤sc) :
 Calls Tryz.prog 134 #[.pointer (some ⟨m,0,none⟩)] w fun e w'=>e=.returned (.pointer (some ⟨b,0,none⟩))∧∃ w1,Fr Non w w1∧w'=w1.setCell ⟨m,5,none⟩ (.slice (some ⟨g,0,none⟩) n sc):=by
 have hT:=Lib.hid fun w1 (f:Fr Non w w1)=>top_c (f.cell h5 id) (f.cell hg id) hn;have hw:IntKind.i64.wrap (n:Int)=(n:Int):=IntWalk.i64_in _ (by omega);have h0:(0:Int)≤(n:Int):=by omega
 have h2:(n:Int)≤(sc:Int):=by omega
 have h2n:n≤sc:=by omega
 have hs0:¬ sc=0:=by omega
 have hs1:¬ (0=sc):=by omega
 have hm:=World.block_lt_of_cell? w _ h5;have H5:=Lib.hid (And.intro h5 hz);clear h5 hg hz;go_enter Tryz.func134,Tryz.ntmps134
 go_wp2_with fail
 refine (hT.out w (Fr.refl _ _)).mono ?_;rintro e1 w1 ⟨rfl,hf⟩;have k5:=hf.cell H5.out.1 id;have kz:=fun o=>hf.frozen hm (H5.out.2 o) id;have HF:=Lib.hid hf;clear hf;go_wp2_with fail
 go_still_tail 14,(by kernel_rfl)
 change wpList _ _ _ _ _ w1.drew;have k5':w1.drew.cell? ⟨m,5,none⟩=some (.slice (some ⟨g,0,none⟩) (n+1) sc):=k5;have kz':∀ o,w1.drew.frozen? ⟨m,o,none⟩=false:=kz;have HF2:=Lib.hid HF.out.drew;generalize w1.drew=w2 at *;go_wp2_with fail
 go_ret
 exact ⟨rfl,w2,HF2.out,rfl⟩
theorem begin_c {w:World} {m:Nat} {a0 a1 a2 a3 tv sv:Value} {t0 f0:Int} (r:Row w m 84 [a0,a1,a2,a3,tv,sv,.int .i64 t0,.int .i64 f0]) (task fuel:Int) :
 Calls Tryz.prog 46 #[.pointer (some ⟨m,0,none⟩),.int .i64 task,.int .i64 fuel] w fun e w'=>e=.returned (.tuple #[])∧Row w' m 84 [a0,a1,a2,a3,tv,.slice none 0 0,.int .i64 task,.int .i64 fuel]∧Fr (fun x=>x=m) w w':=by
 have c5:=r.cell (o:=5) rfl;have c6:=r.cell (o:=6) rfl;have c7:=r.cell (o:=7) rfl;have cz:=r.frozen;have HR:=Lib.hid r;clear r;go_enter Tryz.func46,Tryz.ntmps46
 go_wp2_with fail
 refine bodyPost_end (results_none rfl _ _ _) rfl ?_;refine ⟨rfl,?_,?_⟩
 · exact ((HR.out.set_same 5 _).set_same 6 _).set_same 7 _
 · exact ((Fr.set1 _ _ _ _).trans (Fr.set1 _ _ _ _)).trans (Fr.set1 _ _ _ _)
theorem mtell_c {w:World} {m:Nat} {a0 a1 a2 a3 tv sv:Value} {t0 f0:Int} {es:List Ev} (r:Row w m 84 [a0,a1,a2,a3,tv,sv,.int .i64 t0,.int .i64 f0]) (ht:Own w tv 74 4 es.length (evs es)) (hes:es.length≤1000000000) (k t a n:Int) :
 Calls Tryz.prog 131 #[.pointer (some ⟨m,0,none⟩),.agg #[.int .i64 k,.int .i64 t,.int .i64 a,.int .i64 n]] w fun e w'=>e=.returned (.tuple #[])∧∃ tv',Row w' m 84 [a0,a1,a2,a3,tv',sv,.int .i64 t0,.int .i64 f0] ∧
  Own w' tv' 74 4 (es.length+1) (evs (es ++ [⟨k,t0,a,n⟩]))∧(∀ g,tv'.ownBlock=some g→tv.ownBlock=some g∨w.heap.size≤g)∧Fr (fun x=>x=m∨tv.ownBlock=some x) w w':=by
 have c4:=r.cell (o:=4) rfl;have c6:=r.cell (o:=6) rfl;have hm:=r.lt;have hmw:¬ m=w.heap.size:=by omega
 have HR:=Lib.hid (And.intro r ht);clear r ht;go_enter Tryz.func131,Tryz.ntmps131
 go_wp2_with fail
 obtain ⟨i0,hi,hz0,hz1,hz2⟩:=info_parts Tryz.infoEvent;have rb:Row (w.alloc (.cells #[.int .i64 k,.int .i64 t0,.int .i64 a,.int .i64 n] 74)) w.heap.size 74 [.int .i64 k,.int .i64 t0,.int .i64 a,.int .i64 n]:=Row.new' rfl;have hf0:Fr Non w (w.alloc (.cells #[.int .i64 k,.int .i64 t0,.int .i64 a,.int .i64 n] 74)):=by exact fx
 have hs:(w.alloc (.cells #[.int .i64 k,.int .i64 t0,.int .i64 a,.int .i64 n] 74)).heap.size=w.heap.size+1:=by simp
 have k4:=hf0.cell c4 id;generalize w.alloc (.cells #[.int .i64 k,.int .i64 t0,.int .i64 a,.int .i64 n] 74)=W at *;obtain ⟨q0,q1,q2,q3,qz⟩:=row4 rb;have hmW:=hf0.row HR.out.1 id;have hoW:=HR.out.2.fr hf0 (fun _ _=>id);have hno:=HR.out.2.ne HR.out.1 (by decide);have hnb:tv.ownBlock≠some w.heap.size:=fun e=>by have:=HR.out.2.lt e;omega
 have HW:=Lib.hid (And.intro hmW (And.intro hoW (And.intro hno (And.intro hnb hf0))));clear hmW hoW hno hnb hf0 rb c4 c6;have cW:=@Mix.cls_drew W [m,w.heap.size];refine Mix.wp_region_mix [4,5] [(0,0),(0,1),(0,2),(0,3),(1,4),(1,5),(2,6),(2,7),(0,8),(0,9),(3,10)] (fun V=>∃ g,V=Mix.upon W [m,w.heap.size] g) (by kernel_rfl) (by kernel_rfl) cW ?_;clear cW;repeat (first|((first|refine Mix.qa ?_|refine Mix.qb ?_);intro K hK;simp only [nA,nB,nC];go_big_quiet_op;go_big_quiet_on)|refine Mix.qc ?_|refine Mix.qd ?_)
 refine Mix.S_eff rfl rfl ?_;intro K hK;simp only [nA,nB,nC];go_simp;refine hK _ _ ⟨Mix.cls_fr (D:=Non) (by exact fx) (by simp [Non];omega),?_⟩;clear hK K;refine Mix.S_eff rfl rfl ?_;intro K hK;simp only [nA,nB,nC];refine wp_app_own (.tmp 13) (.tmp 15) 56 rfl rfl (by exact HW.out.2.1.fr (D:=Non) (by exact fx) (fun _ _=>id)) i0 _ 32 Tryz.underlying56 hi hz0 hz1 hz2 rfl (by omega) (w.heap.size+1) 0 1 1 rfl (evs [⟨k,t0,a,n⟩]) rfl (by exact (Row.new' (by simp [hs])).news) (fun u hu=>by simp [evs,Ev.cs] at hu;rcases hu with rfl|rfl|rfl|rfl <;> rfl) (by omega) (by omega) (by unfold maxLen;omega) ?_;intro g cap w2 ho2 hf2 hg2;refine hK _ _ ⟨Mix.cls_fr (D:=fun x=>tv.ownBlock=some x) hf2 (by simp;exact ⟨⟨by omega,HW.out.2.2.1⟩,⟨by omega,HW.out.2.2.2.1⟩⟩),?_⟩;clear hK K;have r2:=hf2.row (show Row _ m 84 [a0,a1,a2,a3,tv,sv,.int .i64 t0,.int .i64 f0] from HW.out.1.alloc _) HW.out.2.2.1;have y4:=r2.cell (o:=4) rfl;have yz:=r2.frozen;have hm2:=r2.lt;have hsz:=hf2.size;have H2:=Lib.hid (And.intro r2 (And.intro ho2 (And.intro hf2 hg2)));clear r2 ho2 hf2 hg2;simp only [Act.put,List.setIfInBounds_toArray,List.set_cons_succ,List.set_cons_zero];repeat (first|((first|refine Mix.qa ?_|refine Mix.qb ?_);intro K hK;simp only [nA,nB,nC];go_big_quiet_op;go_big_quiet_on)|refine Mix.qc ?_|refine Mix.qd ?_)
 refine Mix.S_late rfl rfl ?_;intro K hK;simp only [nA,nB,nC];go_simp;refine hK _ _ ?_;clear hK K;refine Mix.S_done ?_;go_wp2
 refine bodyPost_end (results_none rfl _ _ _) rfl ?_;obtain ⟨r2,ho2,hf2,hg2⟩:=H2.out;have hfw:Fr (fun x=>x=m∨tv.ownBlock=some x) w w2:=Fr.then (D:=fun x=>x=m∨tv.ownBlock=some x) (by exact (HW.out.2.2.2.2.mono (fun _ _ h=>h.elim)).drew.alloc _) hf2 (fun _ _ h=>Or.inr h);refine ⟨rfl,_,r2.set_same 4 _,?_,?_,?_⟩
 · rw [evs_append];exact Own.fr (D:=fun x=>x=m) ho2 (Fr.set1 _ _ _ _) (fun g' e e2=>by subst e2;exact ho2.ne r2 (by decide) e)
 · intro g' e;simp [Value.ownBlock] at e;subst e;rcases hg2 with e|e
   · exact Or.inl e
   · simp at e;exact Or.inr (by omega)
 · exact hfw.setCell (a:=⟨m,4,none⟩) (Or.inl (Or.inl rfl)) _
theorem Tryz.infoPtr:(Tryz.prog.info? 171).map (fun i=>(i.zero,i.size,i.bytes))=some (some (.pointer none),1,8):=by kernel_rfl
theorem push_c {w:World} {m fb fo fn fc i n:Nat} {a1 a2 a3 tv sv:Value} {t0 f0:Int} {bs:List Value} {io:Option Addr} {il ic:Nat}
 (r:Row w m 84 [.slice (some ⟨fb,fo,none⟩) fn fc,a1,a2,a3,tv,sv,.int .i64 t0,.int .i64 f0]) (hst:Own w sv 171 1 n bs) (hn:n≤1000000000) (hfn:w.cell? ⟨fb,fo+i,none⟩=some (.slice io il ic)) (hi:i<fn)
 (A:List Value) (hA:A.length=56) :
 Calls Tryz.prog 83 #[.pointer (some ⟨m,0,none⟩),.int .i64 i,.agg A.toArray] w fun e w'=>e=.returned (.tuple #[])∧∃ b sv',Row w' m 84 [.slice (some ⟨fb,fo,none⟩) fn fc,a1,a2,a3,tv,sv',.int .i64 t0,.int .i64 f0] ∧
  Own w' sv' 171 1 (n+1) (bs ++ [ptr b])∧Row w' b 103 (A.set 0 (.slice io il ic))∧w.heap.size≤b∧(∀ g,sv'.ownBlock=some g→sv.ownBlock=some g∨w.heap.size≤g)∧sv'.ownBlock≠some b∧Fr (fun x=>x=m∨sv.ownBlock=some x) w w':=by
 obtain ⟨i0,hi0,hz0,hz1,hz2⟩:=info_parts Tryz.infoPtr;have c0:=r.cell (o:=0) rfl;have c5:=r.cell (o:=5) rfl;have hm:=r.lt;have hfb:=World.block_lt_of_cell? w _ hfn;have h0:(0:Int)≤(i:Int):=by omega
 have h1:(i:Int)<(fn:Int):=by omega
 have HR:=Lib.hid (And.intro r hst);clear r hst;have hW:Fr Non w ((w.alloc (.cells (A.set 0 (.slice io il ic)).toArray 103)).alloc (.cells #[.pointer (some ⟨w.heap.size,0,none⟩)] 171)):=((Fr.refl Non w).alloc _).alloc _;have hb:Row ((w.alloc (.cells (A.set 0 (.slice io il ic)).toArray 103)).alloc (.cells #[.pointer (some ⟨w.heap.size,0,none⟩)] 171)) w.heap.size 103 (A.set 0 (.slice io il ic)):=Row.alloc (by exact Row.new' rfl) _;obtain ⟨g,cap,w2,hrun,ho2,hf2,hg2,hlt2⟩:=run_app (P:=Tryz.prog) (HR.out.2.fr hW (fun _ _=>id)) 82 82 i0 _ 8 Tryz.underlying82 hi0 hz0 hz1 hz2 rfl (by omega) (w.heap.size+1) 0 1 1 [ptr w.heap.size] rfl (by exact (Row.new' (by simp)).news) (fun u hu=>by simp at hu;subst hu;rfl) (by omega) (by omega) (by unfold maxLen;omega);have r2:=hf2.row (hW.row HR.out.1 id) (HR.out.2.ne HR.out.1 (by decide));have hsb:∀ x,sv.ownBlock=some x→x<w.heap.size:=fun x e=>HR.out.2.lt e;have hb2:=hf2.row hb (fun e=>by have:=hsb _ e;omega);have y5:=r2.cell (o:=5) rfl;have yz:=r2.frozen;have hgm:g≠m:=fun e=>by subst e;exact ho2.ne r2 (by decide) rfl
 have hgb:g≠w.heap.size:=fun e=>by subst e;exact ho2.ne hb2 (by decide) rfl
 have hbm:w.heap.size≠m:=by omega
 have H2:=Lib.hid (And.intro r2 (And.intro ho2 (And.intro hb2 (And.intro (hW.mono (D':=fun x=>x=m∨sv.ownBlock=some x) (fun _ _ h=>h.elim) |>.then hf2 (fun _ _ h=>Or.inr h)) hg2))));clear r2 ho2 hb2 hf2 hg2 hW hb hsb;go_enter Tryz.func83,Tryz.ntmps83
 go_wp2_with (at_builtin;refine wpList_app rfl (.tmp 19) (.tmp 20) _ rfl rfl rfl _ rfl hrun ?_)
 refine bodyPost_end (results_none rfl _ _ _) rfl ?_;obtain ⟨r2,ho2,hb2,hf2,hg2⟩:=H2.out;refine ⟨rfl,w.heap.size,_,r2.set_same 5 _,?_,hb2.set_ne (by simp;omega) _,Nat.le_refl _,?_,?_,hf2.setCell (a:=⟨m,5,none⟩) (Or.inl (Or.inl rfl)) _⟩
 · exact Own.fr (D:=fun x=>x=m) ho2 (Fr.set1 _ _ _ _) (fun g' e e2=>by simp [Value.ownBlock] at e;omega)
 · intro g' e;simp [Value.ownBlock] at e;subst e;rcases hg2 with e|e
   · exact Or.inl e
   · simp at e;exact Or.inr (by omega)
 · simp [Value.ownBlock];exact hgb
theorem told_c {w:World} {m:Nat} {a0 a1 a2 a3 sv a6 a7:Value} {tO:Option Addr} {tn tc:Nat} (r:Row w m 84 [a0,a1,a2,a3,.slice tO tn tc,sv,a6,a7]) :
 Calls Tryz.prog 22 #[.pointer (some ⟨m,0,none⟩)] w fun e w'=>e=.returned (.slice tO tn tc)∧Row w' m 84 [a0,a1,a2,a3,.slice none 0 0,sv,a6,a7]∧Fr (fun x=>x=m) w w':=by
 have c4:=r.cell (o:=4) rfl;have cz:=r.frozen;have HR:=Lib.hid r;clear r;go_enter Tryz.func22,Tryz.ntmps22
 go_wp2_with fail
 go_ret
 exact ⟨rfl,by exact HR.out.set_same 4 _,by exact Fr.set1 _ _ _ _⟩
theorem mlive_c {D:Nat→Prop} {w:World} {m mb:Nat} {M:Mem} (h2:w.cell? ⟨m,2,none⟩=some (.pointer (some ⟨mb,0,none⟩))) (h:MI D w mb M) :
 Calls Tryz.prog 23 #[.pointer (some ⟨m,0,none⟩)] w fun e w'=>e=.returned (.int .i64 (live M.blocks))∧Fr Non w w':=by
 have hL:=Lib.hid fun w1 (h1:Fr Non w w1)=>live_i (h.frN h1);have hm:=World.block_lt_of_cell? w _ h2;clear h;generalize (live M.blocks:Int)=L at *;go_enter Tryz.func23,Tryz.ntmps23
 go_wp2_with fail
 refine (hL.out _ (by exact fx)).mono ?_;rintro e1 w1 ⟨rfl,hf⟩;go_wp2_with fail
 go_ret
 exact ⟨rfl,by exact fx⟩
section
variable {base:Nat} {P:Pr} {A:Nat→Prop} {w w' w2:World} {m:Nat} {S S' S2:St} {L:Lay}
theorem ML.upNums (h:ML base P A w m S L) {task fuel:Int} (r:Row w' m 84 (L.cells P task fuel)) (f:Fr (fun x=>x=m) w w') :
 ML base P A w' m { S with task:=task,fuel:=fuel } L:=by
 have hH:=h.base_m;refine { high:=h.high,lt:=fun x hx=>Nat.lt_of_lt_of_le (h.lt x hx) f.size,row:=r,funs:=h.funs.fr f hH,cos:=h.cos.fr f hH,mem:=h.mem.fr f (fun x hx e=>(h.sep x hx).1 e),ev:=h.ev.fr f (fun e=>h.ne_me e.symm),told:=h.told.fr f ?_,stk:=h.stk.fr f ?_,len:=h.len,nodup:=h.nodup,cls:=fun i b c hb hc=>(h.cls i b c hb hc).fr f hH (h.bl_m (List.mem_of_getElem? hb)),om:=h.om,oe:=h.oe,od:=h.od,ot:=h.ot,os:=h.os,ob:=h.ob,sep:=h.sep }
 · rintro x hx rfl;exact h.tv_m hx
 · rintro x hx rfl;exact h.sv_m hx
theorem ML.upStack (h:ML base P A w m S L) {sv':Value} {bl':List Nat} {st':List Cl} {task fuel:Int} (r:Row w' m 84 ({ L with sv:=sv',bl:=bl' }.cells P task fuel)) (f:Fr (fun x=>x=m) w w')
 (ho:Own w sv' 171 1 bl'.length (bl'.reverse.map ptr)) (hs:∀ x,sv'.ownBlock=some x→L.sv.ownBlock=some x) (hl:bl'.length=st'.length) (hn:bl'.Nodup) (hsub:∀ x∈bl',x∈L.bl)
 (hc:∀ (i b:Nat) (c:Cl),bl'[i]?=some b→st'[i]?=some c→ClAt base w b c) :
 ML base P A w' m { S with stack:=st',task:=task,fuel:=fuel } { L with sv:=sv',bl:=bl' }:=by
 have hH:=h.base_m;refine { high:=h.high,lt:=fun x hx=>Nat.lt_of_lt_of_le (h.lt x hx) f.size,row:=r,funs:=h.funs.fr f hH,cos:=h.cos.fr f hH,mem:=h.mem.fr f (fun x hx e=>(h.sep x hx).1 e),ev:=h.ev.fr f (fun e=>h.ne_me e.symm),told:=h.told.fr f ?_,stk:=ho.fr f ?_,len:=hl,nodup:=hn,cls:=fun i b c hb hcc=>(hc i b c hb hcc).fr f hH (h.bl_m (hsub _ (List.mem_of_getElem? hb))),om:=h.om,oe:=h.oe,od:=h.od,ot:=h.ot,os:=fun x hx=>h.os x (hs x hx),ob:=fun x hx=>h.ob x (hsub x hx),sep:=?_ }
 · rintro x hx rfl;exact h.tv_m hx
 · rintro x hx rfl;exact h.sv_m (hs _ hx)
 · intro x hx;obtain ⟨s1,s2,s3,s4,s5⟩:=h.sep x hx;exact ⟨s1,s2,s3,fun e=>s4 (hs x e),fun e=>s5 (hsub x e)⟩
theorem ML.upPush (h:ML base P A w m S L) {b:Nat} {sv':Value} {c:Cl} (r:Row w' m 84 ({ L with sv:=sv' }.cells P S.task S.fuel)) (ho:Own w' sv' 171 1 (L.bl.length+1) (L.bl.reverse.map ptr ++ [ptr b]))
 (hc:ClAt base w' b c) (hb:w.heap.size≤b) (hg:∀ g,sv'.ownBlock=some g→L.sv.ownBlock=some g∨w.heap.size≤g) (f:Fr (fun x=>x=m∨L.sv.ownBlock=some x) w w') :
 ML base P (fun x=>A x∨x=b∨sv'.ownBlock=some x) w' m { S with stack:=c :: S.stack } { L with sv:=sv',bl:=b :: L.bl }:=by
 have hE:∀ x,(x=m∨L.sv.ownBlock=some x)→A x:=fun x hx=>by rcases hx with rfl|hx;exact h.om;exact h.os x hx
 have hH:High base (fun x=>x=m∨L.sv.ownBlock=some x):=fun x hx=>h.high x (hE x hx);have hbs:base≤w.heap.size:=Nat.le_of_lt (Nat.lt_of_le_of_lt (h.high _ h.om) (h.lt _ h.om));have hnb:b ∉ L.bl:=fun e=>by have:=h.lt _ (h.ob _ e);omega
 obtain ⟨io,ic,hc1,hc2⟩:=hc;refine { high:=?_,lt:=?_,row:=r,funs:=h.funs.fr f hH,cos:=h.cos.fr f hH,mem:=h.mem.fr f ?_,ev:=h.ev.fr f ?_,told:=h.told.fr f ?_,stk:=by simpa using ho,len:=by simp [h.len],nodup:=List.nodup_cons.2 ⟨hnb,h.nodup⟩,cls:=?_,om:=Or.inl h.om,oe:=Or.inl h.oe,od:=fun x hx=>Or.inl (h.od x hx),ot:=fun x hx=>Or.inl (h.ot x hx),os:=fun x hx=>Or.inr (Or.inr hx),ob:=?_,sep:=?_ }
 · rintro x (hx|rfl|hx)
   · exact h.high x hx
   · omega
   · rcases hg x hx with e|e
     · exact h.high x (h.os x e)
     · omega
 · rintro x (hx|rfl|hx)
   · exact Nat.lt_of_lt_of_le (h.lt x hx) f.size
   · exact hc1.lt
   · exact ho.lt hx
 · rintro x hx (e|e)
   · exact (h.sep x hx).1 e
   · exact (h.sep x hx).2.2.2.1 e
 · rintro (e|e)
   · exact h.ne_me e.symm
   · exact h.stk.ne_map h.ev e
 · rintro x hx (e|e)
   · exact h.tv_m (e ▸ hx)
   · exact h.tv_sv x hx e
 · intro i x y hx hy;cases i with
   | zero =>
    simp only [List.getElem?_cons_zero,Option.some.injEq] at hx hy;subst hx hy;exact ⟨io,ic,hc1,hc2⟩
   | succ i =>
    simp only [List.getElem?_cons_succ] at hx hy;have hm:=List.mem_of_getElem? hx;refine (h.cls i x y hx hy).fr f hH ?_;rintro (e|e)
    · exact h.bl_m hm e
    · exact h.bl_sv hm e
 · rintro x hx;rcases List.mem_cons.1 hx with rfl|hx
   · exact Or.inr (Or.inl rfl)
   · exact Or.inl (h.ob x hx)
 · intro x hx;obtain ⟨s1,s2,s3,s4,s5⟩:=h.sep x hx;have hlt:=h.lt x (h.od x hx);refine ⟨s1,s2,s3,fun e=>?_,fun e=>?_⟩
   · rcases hg x e with e2|e2
     · exact s4 e2
     · omega
   · rcases List.mem_cons.1 e with rfl|e
     · omega
     · exact s5 e
theorem ML.aft (_h:ML base P A w m S L) {A':Nat→Prop} {L':Lay} (h':ML base P A' w' m S' L') (hA:∀ x,A' x→A x∨w.heap.size≤x) (f:Fr A w w'):Aft base P A w w' m S':=⟨A',⟨L',h'⟩,hA,f⟩
theorem ML.aftN (h:ML base P A w m S L) (f:Fr Non w w'):Aft base P A w w' m S:=⟨A,⟨L,h.frN f⟩,fun _x hx=>Or.inl hx,f.mono fun _ _ h=>h.elim⟩
theorem ML.aftMem (h:ML base P A w m S L) {D':Nat→Prop} {M':Mem} (f:Fr L.Dm w w') (hM:MI D' w' L.mb M') (hD:∀ b,D' b→L.Dm b∨(w.heap.size≤b∧b<w'.heap.size)):Aft base P A w w' m { S with mem:=M' } :=
 ⟨_,⟨_,h.upMem f hM hD⟩,fun x hx=>by
  rcases hx with hx|hx
  · exact Or.inl hx
  · rcases hD x hx with e|e
    · exact Or.inl (h.od x e)
    · exact Or.inr e.1,f.mono fun x _ hx=>h.od x hx⟩
theorem ML.aftTop (h:ML base P A w m S L) {b:Nat} {bs:List Nat} {c':Cl} (hb:L.bl=b :: bs) (hc:ClAt base w' b c') (f:Fr (fun x=>x=b) w w'):Aft base P A w w' m (S.setTop c') :=
 ⟨A,⟨L,h.upTop hb hc f⟩,fun x hx=>Or.inl hx,f.mono fun x _ hx=>hx ▸ h.ob b (by rw [hb];exact List.mem_cons_self)⟩
theorem Aft.ahead {w1:World} (f:Fr Non w w1) (k:Aft base P A w1 w' m S'):Aft base P A w w' m S':=by
 obtain ⟨A2,k1,k2,k3⟩:=k;exact ⟨A2,k1,fun x hx=>(k2 x hx).imp id fun e=>Nat.le_trans f.size e,(f.mono fun _ _ h=>h.elim).trans k3⟩
theorem ML.base_le (h:ML base P A w m S L):base≤w.heap.size:=Nat.le_of_lt (Nat.lt_of_le_of_lt (h.high _ h.om) (h.lt _ h.om))
theorem Aft.box {E:Nat→Prop} {wc:World} (f0:Fr Non w wc) (h:Aft base P A wc w' m S) (f:Fr E w' w2) (hE:∀ x,E x→w.heap.size≤x∧x<wc.heap.size) (hlt:∀ x,A x→x<w.heap.size) (hb:base≤w.heap.size):Aft base P A w w2 m S:=by
 obtain ⟨A',⟨L,h1⟩,h2,h3⟩:=h
 have hn:∀ x,A' x→¬ E x:=fun x hx e=>by
  obtain ⟨e1,e2⟩:=hE x e;rcases h2 x hx with h4|h4
  · have:=hlt x h4;omega
  · omega
 refine ⟨A',⟨L,h1.frE f (fun x hx=>Nat.le_trans hb (hE x hx).1) hn⟩,fun x hx=>(h2 x hx).imp id fun e=>Nat.le_trans f0.size e,?_⟩;exact ((f0.mono fun _ _ h=>h.elim).trans h3).then f fun x hx e=>by have:=(hE x e).1;omega
theorem ML.atTop (h:ML base P A w m S L) {b:Nat} {bs:List Nat} (hb:L.bl=b :: bs):∃ g sc,L.sv=.slice (some ⟨g,0,none⟩) (bs.length+1) sc∧w.cell? ⟨g,bs.length,none⟩=some (.pointer (some ⟨b,0,none⟩))∧bs.length+1≤sc:=by
 have hk:=h.stk;rw [hb] at hk;obtain ⟨ao,cap,e,h1,h2,h3,h4⟩:=hk.form;obtain ⟨g,rfl⟩:=h3 (by simp);refine ⟨g,cap,e,?_,by simpa using h1⟩;rw [e] at hk;exact hk.cell rfl (by simp [ptr])
theorem ML.atTop' (h:ML base P A w m S L) {c:Cl} {cs:List Cl} (hs:S.stack=c :: cs):∃ b bs,L.bl=b :: bs∧bs.length=cs.length∧ClAt base w b c:=by
 have hl:=h.len;rw [hs] at hl
 match hbl:L.bl with
 | []=>rw [hbl] at hl;cases hl
 | b :: bs =>
  rw [hbl] at hl;exact ⟨b,bs,rfl,by simpa using hl,h.cls 0 b c (by rw [hbl];rfl) (by rw [hs];rfl)⟩
theorem top_m (h:ML base P A w m S L) {b:Nat} {bs:List Nat} (hb:L.bl=b :: bs) (hn:L.bl.length≤1000000000) :
 Calls Tryz.prog 101 #[.pointer (some ⟨m,0,none⟩)] w fun e w'=>e=.returned (.pointer (some ⟨b,0,none⟩))∧Fr Non w w':=by
 obtain ⟨g,sc,e,h1,h2⟩:=h.atTop hb;rw [hb] at hn;simp at hn;exact top_c (h.c5.trans (by rw [e])) h1 (by omega)
theorem pop_m (h:ML base P A w m S L) {b:Nat} {bs:List Nat} (hb:L.bl=b :: bs) (hn:L.bl.length≤1000000000) :
 Calls Tryz.prog 134 #[.pointer (some ⟨m,0,none⟩)] w fun e w'=>e=.returned (.pointer (some ⟨b,0,none⟩))∧(∃ sv',ML base P A w' m { S with stack:=S.stack.tail } { L with sv:=sv',bl:=bs })∧Fr (fun x=>x=m) w w':=by
 obtain ⟨g,sc,e,h1,h2⟩:=h.atTop hb;have hn':=hn;rw [hb] at hn';simp at hn';refine (pop_c (h.c5.trans (by rw [e])) h.row.frozen h1 (by omega) h2).mono ?_;rintro e1 w1 ⟨rfl,w2,hf,rfl⟩;have hf2:Fr (fun x=>x=m) w (w2.setCell ⟨m,5,none⟩ (.slice (some ⟨g,0,none⟩) bs.length sc)):=(hf.mono fun _ _ h=>h.elim).trans (Fr.set1 _ _ _ _);refine ⟨rfl,⟨.slice (some ⟨g,0,none⟩) bs.length sc,?_⟩,hf2⟩;have hk:=h.stk;rw [e,hb] at hk
 have hk2:Own w (.slice (some ⟨g,0,none⟩) bs.length sc) 171 1 bs.length (bs.reverse.map ptr):=by
  obtain ⟨hk1,hk2⟩:=hk;refine ⟨by simp,?_⟩;rcases hk2 with ⟨h3,_⟩|⟨g',cap,cur,h3,h4,h5,h6,h7,h8,h9⟩
  · cases h3
  · cases h3
    refine Or.inr ⟨g,sc,cur,rfl,h4,h5,by simp at h6;omega,h7,h8,?_⟩;simp at h9 ⊢;have h10:=congrArg (List.take bs.length) h9;simp [List.take_take] at h10;exact h10
 refine (h.frN hf).upStack (by exact (hf.row h.row id).set_same 5 _) (Fr.set1 _ _ _ _) ?_ ?_ ?_ ?_ ?_ ?_
 · exact hk2.fr hf fun _ _=>id
 · intro x hx;rw [e];exact hx
 · have:=h.len;rw [hb] at this;simp at this ⊢;omega
 · have:=h.nodup;rw [hb] at this;exact (List.nodup_cons.1 this).2
 · intro x hx;rw [hb];exact List.mem_cons_of_mem _ hx
 · intro i x c hx hc;refine (h.frN hf).cls (i+1) x c (by rw [hb];exact hx) ?_
   simpa [List.getElem?_tail] using hc
end
section
variable {base:Nat} {P:Pr} {A:Nat→Prop} {w:World} {m:Nat} {S:St} {L:Lay}
theorem tell_m (h:ML base P A w m S L) (hn:S.told.length≤1000000000) (k t a n:Int) :
 Calls Tryz.prog 131 #[.pointer (some ⟨m,0,none⟩),.agg #[.int .i64 k,.int .i64 t,.int .i64 a,.int .i64 n]] w fun e w'=>e=.returned (.tuple #[]) ∧
  (∃ tv' A',ML base P A' w' m (S.tell k a n) { L with tv:=tv' }∧∀ x,A' x→A x∨w.heap.size≤x)∧Fr (fun x=>x=m∨L.tv.ownBlock=some x) w w':=by
 refine (mtell_c h.row h.told hn k t a n).mono ?_;rintro e w' ⟨rfl,tv',h1,h2,h3,h4⟩;refine ⟨rfl,⟨tv',_,h.upTold h1 (by simpa [St.tell] using h2) h3 h4,fun x hx=>?_⟩,h4⟩;rcases hx with hx|hx
 · exact Or.inl hx
 · exact (h3 x hx).imp (h.ot x) id
theorem Cl.cs_len {c:Cl} (h:c.regs.length=16) (io:Option Addr) (ic:Nat):(c.cs io ic).length=56:=by
 simp [Cl.cs,flat_len,h,Wd.cs]
theorem Cl.get_reg {c:Cl} (h:c.regs.length=16) (io:Option Addr) (ic:Nat) {i:Nat} (hi:i<16) :
 (c.cs io ic)[2+i * 3]?=some (.bool (c.reg i).p)∧(c.cs io ic)[2+i * 3+1]?=some (.int .i64 (c.reg i).a)∧(c.cs io ic)[2+i * 3+2]?=some (.int .i64 (c.reg i).n):=by
 have hr:c.regs[i]?=some (c.reg i):=by
  unfold Cl.reg;rw [Int.toNat_natCast,List.getD_eq_getElem?_getD,List.getElem?_eq_getElem (by omega)]
  rfl
 obtain ⟨h0,h1,h2⟩:=flat_get hr;have hf:(flat c.regs).length=48:=by rw [flat_len,h]
 unfold Cl.cs;refine ⟨?_,?_,?_⟩
 · rw [show 2+i * 3=i * 3+1+1 by omega,List.getElem?_cons_succ,List.getElem?_cons_succ,List.getElem?_append_left (by omega)];exact h0
 · rw [show 2+i * 3+1=i * 3+1+1+1 by omega,List.getElem?_cons_succ,List.getElem?_cons_succ,List.getElem?_append_left (by omega)];exact h1
 · rw [show 2+i * 3+2=i * 3+2+1+1 by omega,List.getElem?_cons_succ,List.getElem?_cons_succ,List.getElem?_append_left (by omega)];exact h2
theorem Cl.set_reg {c:Cl} (h:c.regs.length=16) (io:Option Addr) (ic:Nat) {i:Nat} (hi:i<16) (x:Wd) :
 (((c.cs io ic).set (2+i * 3) (.bool x.p)).set (2+i * 3+1) (.int .i64 x.a)).set (2+i * 3+2) (.int .i64 x.n)=(c.put i x).cs io ic:=by
 have hf:(flat c.regs).length=48:=by rw [flat_len,h]
 unfold Cl.cs Cl.put;rw [show 2+i * 3=i * 3+1+1 by omega,show i * 3+1+1+1=(i * 3+1)+1+1 by omega,show i * 3+1+1+2=(i * 3+2)+1+1 by omega];simp only [List.set_cons_succ];rw [List.set_append_left _ _ (by omega),List.set_append_left _ _ (by rw [List.length_set];omega),List.set_append_left _ _ (by rw [List.length_set,List.length_set];omega),flat_set,Int.toNat_natCast]
theorem Cl.put_len {c:Cl} (i:Int) (x:Wd):(c.put i x).regs.length=c.regs.length:=by simp [Cl.put]
theorem ClAt.put {c:Cl} {b i:Nat} {io:Option Addr} {ic:Nat} (hr:Row w b 103 (c.cs io ic)) (h2:InsAt base w io c.fn) (h3:c.regs.length=16) (hi:i<16) (hb:base≤b) (x:Wd) :
 ClAt base (((w.setCell ⟨b,2+i * 3,none⟩ (.bool x.p)).setCell ⟨b,2+i * 3+1,none⟩ (.int .i64 x.a)).setCell ⟨b,2+i * 3+2,none⟩ (.int .i64 x.n)) b (c.put i x):=by
 refine ⟨io,ic,?_,h2.fr (E:=fun x=>x=b) (((Fr.set1 _ _ _ _).trans (Fr.set1 _ _ _ _)).trans (Fr.set1 _ _ _ _)) (fun x hx=>by omega),by rw [Cl.put_len,h3]⟩;rw [← Cl.set_reg h3 io ic hi x];exact ((hr.set_same _ _).set_same _ _).set_same _ _
theorem Fr.set3 (w:World) (b o1 o2 o3:Nat) (v1 v2 v3:Value):Fr (fun x=>x=b) w (((w.setCell ⟨b,o1,none⟩ v1).setCell ⟨b,o2,none⟩ v2).setCell ⟨b,o3,none⟩ v3):=((Fr.set1 _ _ _ _).trans (Fr.set1 _ _ _ _)).trans (Fr.set1 _ _ _ _)
theorem push_m (h:ML base P A w m S L) (hn:S.stack.length≤1000000000) {i:Int} (h0:0≤i) (h1:i<P.funs.length) (c:Cl) (hr:c.regs.length=16) (io:Option Addr) (il ic:Nat) :
 Calls Tryz.prog 83 #[.pointer (some ⟨m,0,none⟩),.int .i64 i,.agg (Value.slice io il ic :: (c.cs io ic).tail).toArray] w fun e w'=>e=.returned (.tuple #[])∧Aft base P A w w' m (S.push P i c):=by
 obtain ⟨j,rfl⟩:=Int.eq_ofNat_of_zero_le h0;have hj:j<P.funs.length:=by omega
 obtain ⟨b,o,io',ic',e1,e2,e3⟩:=h.funs j P.funs[j] (List.getElem?_eq_getElem hj);have hrow:=h.row;unfold Lay.cells at hrow;rw [e1] at hrow;have hl:=h.len;refine (push_c hrow h.stk (by omega) e2.2 hj (Value.slice io il ic :: (c.cs io ic).tail) (by have:=Cl.cs_len hr io ic;simp only [List.length_cons,List.length_tail];omega)).mono ?_;rintro e w' ⟨rfl,b',sv',k1,k2,k3,k4,k5,k6,k7⟩
 have hf:ClAt base w' b' { c with fn:=P.fn j }:=by
  refine ⟨io',ic',?_,?_,hr⟩
  · have:P.fn j=P.funs[j]:=by unfold Pr.fn;rw [Int.toNat_natCast,List.getD_eq_getElem?_getD,List.getElem?_eq_getElem hj];rfl
    rw [this];exact k3
  · have:P.fn j=P.funs[j]:=by unfold Pr.fn;rw [Int.toNat_natCast,List.getD_eq_getElem?_getD,List.getElem?_eq_getElem hj];rfl
    show InsAt base w' io' (P.fn j);rw [this];refine e3.fr k7 ?_;intro x hx;rcases hx with rfl|hx
    · exact h.high _ h.om
    · exact h.high _ (h.os x hx)
 refine ⟨rfl,?_⟩
 have k1':Row w' m 84 ({ L with sv:=sv' }.cells P S.task S.fuel):=by
  unfold Lay.cells;rw [show ({ L with sv:=sv' }:Lay).fo=some ⟨b,o,none⟩ from e1];exact k1
 refine h.aft (h.upPush k1' k2 hf k4 k5 k7) ?_ (k7.mono ?_)
 · rintro x (hx|rfl|hx)
   · exact Or.inl hx
   · exact Or.inr k4
   · exact (k5 x hx).imp (h.os x) id
 · rintro x _ (rfl|hx)
   · exact h.om
   · exact h.os x hx
theorem done_m (h:ML base P A w m S L) (hn:S.stack.length≤1000000000) (c:Cl) (hr:c.regs.length=16) (hi:c.role=1→0≤c.into∧c.into<16) (io:Option Addr) (il ic:Nat) :
 Calls Tryz.prog 81 #[.pointer (some ⟨m,0,none⟩),.agg (Value.slice io il ic :: (c.cs io ic).tail).toArray] w fun e w'=>∃ v,e=.returned v∧Res w' w.heap.size v (doneS S c).1∧Aft base P A w w' m (doneS S c).2:=by
 obtain ⟨Q,hQ⟩:∃ Q,Q=Value.slice io il ic :: (c.cs io ic).tail:=⟨_,rfl⟩;have q53:Q[53]?=some (.int .i64 c.role):=by subst hQ;simp [Cl.cs,flat_len,hr,Wd.cs]
 have q54:Q[54]?=some (.int .i64 c.into):=by subst hQ;simp [Cl.cs,flat_len,hr,Wd.cs]
 rw [← hQ];clear hQ;have hm:=h.mlt;have hl:=h.len;have HH:=Lib.hid h;cases hs:S.stack with
 | nil =>
  have hb:L.bl=[]:=List.eq_nil_of_length_eq_zero (by rw [hl,hs];rfl);have hk:=h.stk;rw [hb] at hk;obtain ⟨ao,cap,e,_⟩:=hk.form;have c5:=h.c5;rw [e] at c5;simp only [List.length_nil] at c5;unfold doneS;rw [if_pos hs];clear hk h e hi hn hl hb q53 q54 hs;rename_i hcap;clear hcap;go_enter Tryz.func81,Tryz.ntmps81
  go_wp2_with fail
  go_ret
  exact ⟨_,rfl,Or.inr ⟨_,2,0,rfl,rfl,Row.new' (by simp),by omega⟩,HH.out.aftN (by exact fx)⟩
 | cons d ds =>
  obtain ⟨b,bs,hb,hbl,hcl⟩:=h.atTop' hs;obtain ⟨g,sc,e,hg,_⟩:=h.atTop hb;have c5:=h.c5;rw [e] at c5;have h0:¬ ((bs.length:Int)+1=0):=by omega
  have hd0:(((bs.length:Int)+1) == 0)=false:=beq_false_of_ne h0;obtain ⟨R,hR⟩:∃ R,R=doneS S c:=⟨_,rfl⟩;rw [← hR];unfold doneS at hR;rw [if_neg (by rw [hs];simp)] at hR;by_cases h1:c.role=1
  · obtain ⟨i0,i1⟩:=hi h1;obtain ⟨i,hi⟩:=Int.eq_ofNat_of_zero_le i0;rw [if_pos h1,hi] at hR;rw [h1] at q53;rw [hi] at q54 i1;have hT:=Lib.hid fun w1 (f:Fr Non w w1)=>top_m (HH.out.frN f) hb (by omega);have hi16:(i:Int)<16:=i1;have hi0:(0:Int)≤(i:Int):=by omega
    have HR:=Lib.hid hR;have HC:=Lib.hid (And.intro hcl (And.intro hb hs));clear h e hn hl hR hbl hg hcl hb h1 hi i0 i1 hs hr;go_enter Tryz.func81,Tryz.ntmps81
    go_wp2_with fail
    have b53:(w.alloc (.cells Q.toArray 103)).cell? ⟨w.heap.size,53,none⟩=some (.int .i64 1):=(Row.new' rfl:Row (w.alloc (.cells Q.toArray 103)) w.heap.size 103 Q).cell q53;have b54:(w.alloc (.cells Q.toArray 103)).cell? ⟨w.heap.size,54,none⟩=some (.int .i64 i):=(Row.new' rfl:Row (w.alloc (.cells Q.toArray 103)) w.heap.size 103 Q).cell q54;have hf0:Fr Non w (w.alloc (.cells Q.toArray 103)):=by exact fx
    have hs0:(w.alloc (.cells Q.toArray 103)).heap.size=w.heap.size+1:=by simp
    generalize w.alloc (.cells Q.toArray 103)=W at *;clear c5 q53 q54 b53;have HW:=Lib.hid hf0;clear hf0;have cW:=@Mix.cls_drew W [w.heap.size];refine Mix.wp_region_mix [3] [(0,0),(0,2),(1,3),(2,1),(0,5),(0,6),(2,4),(0,7),(2,8)] (fun V=>∃ g,V=Mix.upon W [w.heap.size] g) (by kernel_rfl) (by kernel_rfl) cW ?_;clear cW;repeat (first|((first|refine Mix.qa ?_|refine Mix.qb ?_);intro K hK;simp only [nA,nB,nC];go_big_quiet_op;go_big_quiet_on)|refine Mix.qc ?_|refine Mix.qd ?_)
    refine Mix.S_eff rfl rfl ?_;intro K hK;simp only [nA,nB,nC];go_simp;refine (hT.out _ (by exact HW.out.drew)).mono ?_;rintro e1 w1 ⟨rfl,hf⟩;refine hK _ _ ⟨Mix.cls_fr (D:=Non) hf (by simp [Non];omega),?_⟩;clear hK K;have hf1:Fr Non w w1:=Fr.trans (by exact HW.out.drew) hf;have hs1:=hf.size;simp only [World.size_drew] at hs1;clear hf;repeat (first|((first|refine Mix.qa ?_|refine Mix.qb ?_);intro K hK;simp only [nA,nB,nC];go_big_quiet_op;go_big_quiet_on)|refine Mix.qc ?_|refine Mix.qd ?_)
    refine Mix.S_eff rfl rfl ?_;intro K hK;simp only [nA,nB,nC];go_simp;refine (number_c _ 0).mono ?_;rintro e1 w2 ⟨rfl,hf⟩;refine hK _ _ ⟨Mix.cls_fr (D:=Non) hf (by simp [Non];omega),?_⟩;clear hK K;have hf2:Fr Non w w2:=hf1.trans hf;have hs2:=hf.size;clear hf hf1;obtain ⟨io',ic',hrow,hins,hreg⟩:=HC.out.1.fr hf2 (high_non base) id;have hzz:=hrow.frozen;have hbl:=hrow.lt;have hbw:b<w.heap.size:=by obtain ⟨_,_,hrow',_⟩:=HC.out.1;exact hrow'.lt
    obtain ⟨e0,e1,e2⟩:=Cl.get_reg hreg io' ic' (i:=i) (by omega);have y0:=hrow.cell e0;have y1:=hrow.cell e1;have y2:=hrow.cell e2;have HF:=Lib.hid (And.intro hf2 (And.intro hrow (And.intro hins hreg)));clear hf2 hrow hins hreg e0 e1 e2;repeat (first|((first|refine Mix.qa ?_|refine Mix.qb ?_);intro K hK;simp only [nA,nB,nC];go_big_quiet_op;go_big_quiet_on)|refine Mix.qc ?_|refine Mix.qd ?_)
    refine Mix.S_eff rfl rfl ?_;intro K hK;simp only [nA,nB,nC];go_simp;refine hK _ _ ⟨Mix.cls_fr (D:=fun x=>x=b) (by exact Fr.set3 _ _ _ _ _ _ _ _) (by simp;omega),?_⟩;clear hK K;repeat (first|((first|refine Mix.qa ?_|refine Mix.qb ?_);intro K hK;simp only [nA,nB,nC];go_big_quiet_op;go_big_quiet_on)|refine Mix.qc ?_|refine Mix.qd ?_)
    refine Mix.S_done ?_;go_wp2_with fail
    go_ret
    rw [HR.out];obtain ⟨hf2,hrow,hins,hreg⟩:=HF.out;have htop:S.top=d:=by unfold St.top;rw [HC.out.2.2];rfl
    refine ⟨_,rfl,Or.inl ⟨rfl,rfl⟩,Aft.ahead hf2 ((HH.out.frN hf2).aftTop HC.out.2.1 (by rw [htop];exact ClAt.put hrow hins hreg (by omega) (HH.out.high _ (HH.out.ob _ (by rw [HC.out.2.1];exact List.mem_cons_self))) (num 0)) (Fr.set3 _ _ _ _ _ _ _ _))⟩
  · have h1':(c.role == 1)=false:=beq_false_of_ne h1;rw [if_neg h1] at hR;have HR:=Lib.hid hR;clear h e hn hl hR hbl hg hcl hb hs hr hi h1;go_enter Tryz.func81,Tryz.ntmps81
    go_wp2_with fail
    go_ret
    rw [HR.out];exact ⟨_,rfl,Or.inl ⟨rfl,rfl⟩,HH.out.aftN (by exact fx)⟩
theorem aborted_m (h:ML base P A w m S L) (hn:S.stack.length≤1000000000) (c:Cl) (hr:c.regs.length=16) (io:Option Addr) (il ic:Nat) :
 Calls Tryz.prog 82 #[.pointer (some ⟨m,0,none⟩),.agg (Value.slice io il ic :: (c.cs io ic).tail).toArray] w fun e w'=>∃ v,e=.returned v∧Res w' w.heap.size v (abortedS S c).1∧Aft base P A w w' m (abortedS S c).2:=by
 obtain ⟨Q,hQ⟩:∃ Q,Q=Value.slice io il ic :: (c.cs io ic).tail:=⟨_,rfl⟩;have q55:Q[55]?=some (.int .i64 c.label):=by subst hQ;simp [Cl.cs,flat_len,hr,Wd.cs]
 rw [← hQ];clear hQ hr;have hm:=h.mlt;have hl:=h.len;have HH:=Lib.hid h;cases hs:S.stack with
 | nil =>
  have hb:L.bl=[]:=List.eq_nil_of_length_eq_zero (by rw [hl,hs];rfl);have hk:=h.stk;rw [hb] at hk;obtain ⟨ao,cap,e,hcap⟩:=hk.form;have c5:=h.c5;rw [e] at c5;simp only [List.length_nil] at c5;unfold abortedS;rw [if_pos hs];clear hk h e hn hl hb q55 hs hcap;go_enter Tryz.func82,Tryz.ntmps82
  go_wp2_with fail
  go_ret
  exact ⟨_,rfl,Or.inr ⟨_,3,0,rfl,rfl,Row.new' (by simp),by omega⟩,HH.out.aftN (by exact fx)⟩
 | cons d ds =>
  obtain ⟨b,bs,hb,hbl,hcl⟩:=h.atTop' hs;obtain ⟨g,sc,e,hg,hsc⟩:=h.atTop hb;have c5:=h.c5;rw [e] at c5;have h0:¬ ((bs.length:Int)+1=0):=by omega
  have hd0:(((bs.length:Int)+1) == 0)=false:=beq_false_of_ne h0;obtain ⟨R,hR⟩:∃ R,R=abortedS S c:=⟨_,rfl⟩;rw [← hR];unfold abortedS at hR;rw [if_neg (by rw [hs];simp)] at hR;have hT:=Lib.hid fun w1 (f:Fr Non w w1)=>top_m (HH.out.frN f) hb (by omega);have HR:=Lib.hid hR;have HC:=Lib.hid (And.intro hcl (And.intro hb hs));clear h e hn hl hR hbl hg hcl hb hs hsc;go_enter Tryz.func82,Tryz.ntmps82
  go_wp2_with fail
  have b55:(w.alloc (.cells Q.toArray 103)).cell? ⟨w.heap.size,55,none⟩=some (.int .i64 c.label):=(Row.new' rfl:Row (w.alloc (.cells Q.toArray 103)) w.heap.size 103 Q).cell q55;have hf0:Fr Non w (w.alloc (.cells Q.toArray 103)):=by exact fx
  have hs0:(w.alloc (.cells Q.toArray 103)).heap.size=w.heap.size+1:=by simp
  generalize w.alloc (.cells Q.toArray 103)=W at *;clear c5 q55;have HW:=Lib.hid hf0;clear hf0;have cW:=@Mix.cls_drew W [w.heap.size];refine Mix.wp_region_mix [3] [(0,0),(0,2),(1,3),(2,1),(0,4),(0,5),(2,6)] (fun V=>∃ g,V=Mix.upon W [w.heap.size] g) (by kernel_rfl) (by kernel_rfl) cW ?_;clear cW;repeat (first|((first|refine Mix.qa ?_|refine Mix.qb ?_);intro K hK;simp only [nA,nB,nC];go_big_quiet_op;go_big_quiet_on)|refine Mix.qc ?_|refine Mix.qd ?_)
  refine Mix.S_eff rfl rfl ?_;intro K hK;simp only [nA,nB,nC];go_simp;refine (hT.out _ (by exact HW.out.drew)).mono ?_;rintro e1 w1 ⟨rfl,hf⟩;refine hK _ _ ⟨Mix.cls_fr (D:=Non) hf (by simp [Non];omega),?_⟩;clear hK K;have hf1:Fr Non w w1:=Fr.trans (by exact HW.out.drew) hf;have hs1:=hf.size;simp only [World.size_drew] at hs1;clear hf;obtain ⟨io',ic',hrow,hins,hreg⟩:=HC.out.1.fr hf1 (high_non base) id;have hzz:=hrow.frozen;have hbl:=hrow.lt;have hbw:b<w.heap.size:=by obtain ⟨_,_,hrow',_⟩:=HC.out.1;exact hrow'.lt
  have y1:=hrow.cell (o:=1) rfl;have HF:=Lib.hid (And.intro hf1 (And.intro hrow (And.intro hins hreg)));clear hf1 hrow hins hreg;repeat (first|((first|refine Mix.qa ?_|refine Mix.qb ?_);intro K hK;simp only [nA,nB,nC];go_big_quiet_op;go_big_quiet_on)|refine Mix.qc ?_|refine Mix.qd ?_)
  refine Mix.S_eff rfl rfl ?_;intro K hK;simp only [nA,nB,nC];go_simp;refine hK _ _ ⟨Mix.cls_fr (D:=fun x=>x=b) (by exact Fr.set1 _ _ _ _) (by simp;omega),?_⟩;clear hK K;repeat (first|((first|refine Mix.qa ?_|refine Mix.qb ?_);intro K hK;simp only [nA,nB,nC];go_big_quiet_op;go_big_quiet_on)|refine Mix.qc ?_|refine Mix.qd ?_)
  refine Mix.S_done ?_;go_wp2_with fail
  go_ret
  rw [HR.out];obtain ⟨hf2,hrow,hins,hreg⟩:=HF.out;have htop:S.top=d:=by unfold St.top;rw [HC.out.2.2];rfl
  refine ⟨_,rfl,Or.inl ⟨rfl,rfl⟩,Aft.ahead hf2 ((HH.out.frN hf2).aftTop HC.out.2.1 ?_ (Fr.set1 _ _ _ _))⟩;rw [htop];exact ⟨io',ic',hrow.set_same 1 _,hins.fr (E:=fun x=>x=b) (Fr.set1 _ _ _ _) (fun x hx=>hx ▸ HH.out.high _ (HH.out.ob _ (by rw [HC.out.2.1];exact List.mem_cons_self))),hreg⟩
end
structure PrOk (P:Pr):Prop where
 res:∀ x∈P.cos,0≤x.resume∧x.resume<P.funs.length
 can:∀ x∈P.cos,0≤x.cancel∧x.cancel<P.funs.length
theorem stateS_co {P:Pr} {M:Mem} {p:Wd} (h:(stateS P M p).2.2=0):(stateS P M p).2.1∈P.cos:=by
 unfold stateS at *;split at h
 · rename_i h1;exact absurd h h1
 · split at h
   · rename_i h1;exact absurd h h1
   · split at h
     · cases h
     · rename_i h1 h2 h3;rw [if_neg h1,if_neg h2,if_neg h3];unfold Pr.co;simp only [not_or,Int.not_lt,Int.not_le] at h3;rw [List.getD_eq_getElem?_getD,List.getElem?_eq_getElem (by omega)];exact List.getElem_mem _
theorem Cl.set_frame {c:Cl} (h:c.regs.length=16) (io:Option Addr) (il ic:Nat) (x:Wd) :
 (((Value.slice io il ic :: (c.cs io ic).tail).set 50 (.bool x.p)).set 51 (.int .i64 x.a)).set 52 (.int .i64 x.n)=Value.slice io il ic :: (({ c with frame:=x }:Cl).cs io ic).tail:=by
 have hf:(flat c.regs).length=48:=by rw [flat_len,h]
 unfold Cl.cs;rw [List.tail_cons];generalize hF:flat c.regs=F at *;simp [hf,Wd.cs]
theorem Cl.new_lit (p:Wd) (r i l:Int):(Value.slice none 0 0 :: ((Cl.new p r i l).cs none 0).tail).toArray=#[.slice none 0 0,.int .i64 0,.bool false,.int .i64 0,.int .i64 0,.bool false,.int .i64 0,.int .i64 0,.bool false,.int .i64 0,.int .i64 0,.bool false,.int .i64 0,.int .i64 0,.bool false,.int .i64 0,.int .i64 0,.bool false,.int .i64 0,.int .i64 0,.bool false,.int .i64 0,.int .i64 0,.bool false,.int .i64 0,.int .i64 0,.bool false,.int .i64 0,.int .i64 0,.bool false,.int .i64 0,.int .i64 0,.bool false,.int .i64 0,.int .i64 0,.bool false,.int .i64 0,.int .i64 0,.bool false,.int .i64 0,.int .i64 0,.bool false,.int .i64 0,.int .i64 0,.bool false,.int .i64 0,.int .i64 0,.bool false,.int .i64 0,.int .i64 0,.bool p.p,.int .i64 p.a,.int .i64 p.n,.int .i64 r,.int .i64 i,.int .i64 l]:=rfl
theorem wpList_loadcall {ops:Array Oper} {rest:List Oper} {a:Act} {w:World} {Q:Exit→Act→World→Prop} {dst:Option Tmp} {type:TypeId} {pos:String} {after:Array Edge} (t g:Nat)
 (hx:a.eval (.tmp t)=.pointer (some ⟨g,0,none⟩)) (h:∃ cs,Row w g 103 cs∧cs.length=56∧wpList Tryz.prog ops Q rest (a.put dst (.agg cs.toArray)) w):wpList Tryz.prog ops Q ({ dst:=dst,op:=.load 103 (.tmp t),type:=type,pos:=pos,after:=after,guard:=none } :: rest) a w:=by
 obtain ⟨cs,h1,h2,h3⟩:=h;refine wpList_load_row rfl 103 (.tmp t) rfl g hx 103 cs.toArray (0,0) _ h1 Tryz.underlying103 rfl ?_ h3;simp only [List.size_toArray,h2]
 kernel_rfl
theorem Res.lo {w:World} {lo lo':Nat} {v:Value} {r:Option (Int × Int)} (h:Res w lo v r) (hl:lo'≤lo):Res w lo' v r:=by
 rcases h with h|⟨b,k,n,h1,h2,h3,h4⟩
 · exact Or.inl h
 · exact Or.inr ⟨b,k,n,h1,h2,h3,Nat.le_trans hl h4⟩
section
variable {base:Nat} {P:Pr} {A:Nat→Prop} {w:World} {m:Nat} {S:St} {L:Lay}
theorem state_m (h:ML base P A w m S L) (p:Bool) (a n:Int) :
 Calls Tryz.prog 80 #[.pointer (some ⟨m,0,none⟩),.agg #[.bool p,.int .i64 a,.int .i64 n]] w fun e w'=>e=.returned (.tuple #[.int .i64 (stateS P S.mem ⟨p,a,n⟩).1,.agg (stateS P S.mem ⟨p,a,n⟩).2.1.cs.toArray,.int .i64 (stateS P S.mem ⟨p,a,n⟩).2.2])∧Fr Non w w' :=
 state_c h.c1 h.c2 h.mem h.cos.at p a n
theorem goOn_m (h:ML base P A w m S L) (hn:S.stack.length≤1000000000) (hP:PrOk P) (p:Bool) (a n:Int) (c:Cl) (hr:c.regs.length=16) (hi:c.role=1→0≤c.into∧c.into<16) (io:Option Addr) (il ic:Nat) :
 Calls Tryz.prog 48 #[.pointer (some ⟨m,0,none⟩),.agg #[.bool p,.int .i64 a,.int .i64 n],.agg (Value.slice io il ic :: (c.cs io ic).tail).toArray] w fun e w'=>∃ v,e=.returned v∧Res w' w.heap.size v (goOnS P S ⟨p,a,n⟩ c).1∧Aft base P A w w' m (goOnS P S ⟨p,a,n⟩ c).2:=by
 have hq:=Cl.set_frame hr io il ic ⟨p,a,n⟩;have hql:(Value.slice io il ic :: (c.cs io ic).tail).length=56:=by have:=Cl.cs_len hr io ic;simp only [List.length_cons,List.length_tail];omega
 generalize Value.slice io il ic :: (c.cs io ic).tail=Q at *;have hm:=h.mlt;have hS:=Lib.hid fun w1 (f:Fr Non w w1)=>state_m (h.frN f) p a n;have hco:=@stateS_co P S.mem ⟨p,a,n⟩;obtain ⟨R,hR⟩:∃ R,R=goOnS P S ⟨p,a,n⟩ c:=⟨_,rfl⟩;rw [← hR];unfold goOnS at hR;generalize stateS P S.mem ⟨p,a,n⟩=T at *;obtain ⟨s,⟨xn,xr,xc,xw,xa⟩,er⟩:=T;simp only [Cr.cs] at hS hR hco;have HR:=Lib.hid hR;have HH:=Lib.hid (And.intro h (And.intro hn (And.intro hP (And.intro hr (And.intro hi (And.intro hco (And.intro hq hql)))))));clear h hn hP hr hi hR hco hq hql;by_cases he:er=0
 · subst he;by_cases hs1:s = -1
   · subst hs1;go_enter Tryz.func48,Tryz.ntmps48
     go_wp2_with fail
     refine (hS.out _ (by exact fx)).mono ?_;rintro e1 w1 ⟨rfl,hf⟩;have xw':Row w1 w.heap.size 40 [.bool p,.int .i64 a,.int .i64 n]:=hf.row (by exact (Row.new' rfl:Row (w.alloc (.cells #[.bool p,.int .i64 a,.int .i64 n] 40)) w.heap.size 40 [.bool p,.int .i64 a,.int .i64 n]).alloc _) id;have xq:Row w1 (w.heap.size+1) 103 Q:=hf.row (by exact Row.new' (by simp)) id;have hf1:Fr Non w w1:=Fr.trans (by exact fx) hf;have HF:=Lib.hid (And.intro hf1 xq);obtain ⟨q0,q1,q2,qz⟩:=row3 xw';have hqz:=xq.frozen;have hql:=xq.lt;have hwl:=xw'.lt;have z0:w1.cell? ⟨w.heap.size+1,50,none⟩=some (Q.getD 50 undef):=xq.cell (by rw [List.getD_eq_getElem?_getD,List.getElem?_eq_getElem (by have:=HH.out.2.2.2.2.2.2.2;omega)];rfl);have z1:w1.cell? ⟨w.heap.size+1,51,none⟩=some (Q.getD 51 undef):=xq.cell (by rw [List.getD_eq_getElem?_getD,List.getElem?_eq_getElem (by have:=HH.out.2.2.2.2.2.2.2;omega)];rfl);have z2:w1.cell? ⟨w.heap.size+1,52,none⟩=some (Q.getD 52 undef):=xq.cell (by rw [List.getD_eq_getElem?_getD,List.getElem?_eq_getElem (by have:=HH.out.2.2.2.2.2.2.2;omega)];rfl);clear hf hf1 xq xw';go_wp2_with (refine wpList_loadcall 5 (w.heap.size+1) rfl ?_)
     refine ⟨_,((((HF.out.2.set_same 50 _).set_same 51 _).set_same 52 _).alloc _),by simp [HH.out.2.2.2.2.2.2.2],?_⟩;obtain ⟨hML,hn,hP,hr,hi,hco,hq,hql'⟩:=HH.out;rw [hq];have hfW:Fr Non w ((((w1.setCell ⟨w.heap.size+1,50,none⟩ (.bool p)).setCell ⟨w.heap.size+1,51,none⟩ (.int .i64 a)).setCell ⟨w.heap.size+1,52,none⟩ (.int .i64 n)).alloc (.cells #[.string xn,.int .i64 xr,.int .i64 xc,.int .i64 xw,.int .i64 xa] 87)):=(((HF.out.1.set_new (by omega)).set_new (by omega)).set_new (by omega)).alloc _;generalize (((w1.setCell ⟨w.heap.size+1,50,none⟩ (.bool p)).setCell ⟨w.heap.size+1,51,none⟩ (.int .i64 a)).setCell ⟨w.heap.size+1,52,none⟩ (.int .i64 n)).alloc (.cells #[.string xn,.int .i64 xr,.int .i64 xc,.int .i64 xw,.int .i64 xa] 87)=W at *;have hD:=done_m (hML.frN hfW) hn { c with frame:=⟨p,a,n⟩ } hr hi io il ic;have hR:=HR.out;rw [if_neg (by simp),if_pos (by first|trivial|simp)] at hR;rw [← hR] at hD;have HW:=Lib.hid hfW;have HD:=Lib.hid hD;clear hML hn hP hr hi hco hq hql' hfW hD hR;go_wp2_with fail
     refine HD.out.mono ?_;rintro e2 w2 ⟨v,rfl,hres,haft⟩;have HE:=Lib.hid (And.intro hres haft);clear hres haft;go_wp2_with fail
     go_ret
     exact ⟨_,rfl,HE.out.1.lo HW.out.size,HE.out.2.ahead HW.out⟩
   · have hs1':(s == -1)=false:=beq_false_of_ne hs1;by_cases hs2:s = -2
     · subst hs2;go_enter Tryz.func48,Tryz.ntmps48
       go_wp2_with fail
       refine (hS.out _ (by exact fx)).mono ?_;rintro e1 w1 ⟨rfl,hf⟩;have xw':Row w1 w.heap.size 40 [.bool p,.int .i64 a,.int .i64 n]:=hf.row (by exact (Row.new' rfl:Row (w.alloc (.cells #[.bool p,.int .i64 a,.int .i64 n] 40)) w.heap.size 40 [.bool p,.int .i64 a,.int .i64 n]).alloc _) id;have xq:Row w1 (w.heap.size+1) 103 Q:=hf.row (by exact Row.new' (by simp)) id;have hf1:Fr Non w w1:=Fr.trans (by exact fx) hf;have HF:=Lib.hid (And.intro hf1 xq);obtain ⟨q0,q1,q2,qz⟩:=row3 xw';have hqz:=xq.frozen;have hql:=xq.lt;have hwl:=xw'.lt;have z0:w1.cell? ⟨w.heap.size+1,50,none⟩=some (Q.getD 50 undef):=xq.cell (by rw [List.getD_eq_getElem?_getD,List.getElem?_eq_getElem (by have:=HH.out.2.2.2.2.2.2.2;omega)];rfl);have z1:w1.cell? ⟨w.heap.size+1,51,none⟩=some (Q.getD 51 undef):=xq.cell (by rw [List.getD_eq_getElem?_getD,List.getElem?_eq_getElem (by have:=HH.out.2.2.2.2.2.2.2;omega)];rfl);have z2:w1.cell? ⟨w.heap.size+1,52,none⟩=some (Q.getD 52 undef):=xq.cell (by rw [List.getD_eq_getElem?_getD,List.getElem?_eq_getElem (by have:=HH.out.2.2.2.2.2.2.2;omega)];rfl);clear hf hf1 xq xw';go_wp2_with (refine wpList_loadcall 5 (w.heap.size+1) rfl ?_)
       refine ⟨_,((((HF.out.2.set_same 50 _).set_same 51 _).set_same 52 _).alloc _),by simp [HH.out.2.2.2.2.2.2.2],?_⟩;obtain ⟨hML,hn,hP,hr,hi,hco,hq,hql'⟩:=HH.out;rw [hq];have hfW:Fr Non w ((((w1.setCell ⟨w.heap.size+1,50,none⟩ (.bool p)).setCell ⟨w.heap.size+1,51,none⟩ (.int .i64 a)).setCell ⟨w.heap.size+1,52,none⟩ (.int .i64 n)).alloc (.cells #[.string xn,.int .i64 xr,.int .i64 xc,.int .i64 xw,.int .i64 xa] 87)):=(((HF.out.1.set_new (by omega)).set_new (by omega)).set_new (by omega)).alloc _;generalize (((w1.setCell ⟨w.heap.size+1,50,none⟩ (.bool p)).setCell ⟨w.heap.size+1,51,none⟩ (.int .i64 a)).setCell ⟨w.heap.size+1,52,none⟩ (.int .i64 n)).alloc (.cells #[.string xn,.int .i64 xr,.int .i64 xc,.int .i64 xw,.int .i64 xa] 87)=W at *;have hD:=aborted_m (hML.frN hfW) hn { c with frame:=⟨p,a,n⟩ } hr io il ic;have hR:=HR.out;rw [if_neg (by simp),if_neg (by simp),if_pos (by first|trivial|simp)] at hR;rw [← hR] at hD;have HW:=Lib.hid hfW;have HD:=Lib.hid hD;clear hML hn hP hr hi hco hq hql' hfW hD hR;go_wp2_with fail
       refine HD.out.mono ?_;rintro e2 w2 ⟨v,rfl,hres,haft⟩;have HE:=Lib.hid (And.intro hres haft);clear hres haft;go_wp2_with fail
       go_ret
       exact ⟨_,rfl,HE.out.1.lo HW.out.size,HE.out.2.ahead HW.out⟩
     · have hs2':(s == -2)=false:=beq_false_of_ne hs2;go_enter Tryz.func48,Tryz.ntmps48
       go_wp2_with fail
       refine (hS.out _ (by exact fx)).mono ?_;rintro e1 w1 ⟨rfl,hf⟩;have xw':Row w1 w.heap.size 40 [.bool p,.int .i64 a,.int .i64 n]:=hf.row (by exact (Row.new' rfl:Row (w.alloc (.cells #[.bool p,.int .i64 a,.int .i64 n] 40)) w.heap.size 40 [.bool p,.int .i64 a,.int .i64 n]).alloc _) id;have xq:Row w1 (w.heap.size+1) 103 Q:=hf.row (by exact Row.new' (by simp)) id;have hf1:Fr Non w w1:=Fr.trans (by exact fx) hf;have HF:=Lib.hid (And.intro hf1 xq);obtain ⟨q0,q1,q2,qz⟩:=row3 xw';have hqz:=xq.frozen;have hql:=xq.lt;have hwl:=xw'.lt;have z0:w1.cell? ⟨w.heap.size+1,50,none⟩=some (Q.getD 50 undef):=xq.cell (by rw [List.getD_eq_getElem?_getD,List.getElem?_eq_getElem (by have:=HH.out.2.2.2.2.2.2.2;omega)];rfl);have z1:w1.cell? ⟨w.heap.size+1,51,none⟩=some (Q.getD 51 undef):=xq.cell (by rw [List.getD_eq_getElem?_getD,List.getElem?_eq_getElem (by have:=HH.out.2.2.2.2.2.2.2;omega)];rfl);have z2:w1.cell? ⟨w.heap.size+1,52,none⟩=some (Q.getD 52 undef):=xq.cell (by rw [List.getD_eq_getElem?_getD,List.getElem?_eq_getElem (by have:=HH.out.2.2.2.2.2.2.2;omega)];rfl);clear hf hf1 xq xw';go_wp2_with (refine wpList_loadcall 5 (w.heap.size+1) rfl ?_)
       refine ⟨_,((((HF.out.2.set_same 50 _).set_same 51 _).set_same 52 _).alloc _),by simp [HH.out.2.2.2.2.2.2.2],?_⟩;obtain ⟨hML,hn,hP,hr,hi,hco,hq,hql'⟩:=HH.out;rw [hq];have hfW:Fr Non w ((((w1.setCell ⟨w.heap.size+1,50,none⟩ (.bool p)).setCell ⟨w.heap.size+1,51,none⟩ (.int .i64 a)).setCell ⟨w.heap.size+1,52,none⟩ (.int .i64 n)).alloc (.cells #[.string xn,.int .i64 xr,.int .i64 xc,.int .i64 xw,.int .i64 xa] 87)):=(((HF.out.1.set_new (by omega)).set_new (by omega)).set_new (by omega)).alloc _;generalize (((w1.setCell ⟨w.heap.size+1,50,none⟩ (.bool p)).setCell ⟨w.heap.size+1,51,none⟩ (.int .i64 a)).setCell ⟨w.heap.size+1,52,none⟩ (.int .i64 n)).alloc (.cells #[.string xn,.int .i64 xr,.int .i64 xc,.int .i64 xw,.int .i64 xa] 87)=W at *;have hx:=hP.res _ (hco (by simp));have hD:=push_m (hML.frN hfW) hn hx.1 hx.2 { c with frame:=⟨p,a,n⟩ } hr io il ic;have hR:=HR.out;rw [if_neg (by simp),if_neg hs1,if_neg hs2] at hR;have HW:=Lib.hid hfW;have HD:=Lib.hid hD;clear hML hn hP hr hi hco hq hql' hfW hD hR hx;go_wp2_with fail
       refine HD.out.mono ?_;rintro e2 w2 ⟨rfl,haft⟩;have HE:=Lib.hid haft;clear haft;go_wp2_with fail
       go_ret
       rw [HR.out,if_neg (by simp),if_neg hs1,if_neg hs2];exact ⟨_,rfl,Or.inl ⟨rfl,rfl⟩,HE.out.ahead HW.out⟩
 · have he':(er == 0)=false:=beq_false_of_ne he;have hen:(er != 0)=true:=by simp [he]
   go_enter Tryz.func48,Tryz.ntmps48
   go_wp2_with fail
   refine (hS.out _ (by exact fx)).mono ?_;rintro e1 w1 ⟨rfl,hf⟩;have xw':Row w1 w.heap.size 40 [.bool p,.int .i64 a,.int .i64 n]:=hf.row (by exact (Row.new' rfl:Row (w.alloc (.cells #[.bool p,.int .i64 a,.int .i64 n] 40)) w.heap.size 40 [.bool p,.int .i64 a,.int .i64 n]).alloc _) id;have xq:Row w1 (w.heap.size+1) 103 Q:=hf.row (by exact Row.new' (by simp)) id;have hf1:Fr Non w w1:=Fr.trans (by exact fx) hf;have HF:=Lib.hid (And.intro hf1 xq);obtain ⟨q0,q1,q2,qz⟩:=row3 xw';have hqz:=xq.frozen;have hql:=xq.lt;have hwl:=xw'.lt;have z0:w1.cell? ⟨w.heap.size+1,50,none⟩=some (Q.getD 50 undef):=xq.cell (by rw [List.getD_eq_getElem?_getD,List.getElem?_eq_getElem (by have:=HH.out.2.2.2.2.2.2.2;omega)];rfl);have z1:w1.cell? ⟨w.heap.size+1,51,none⟩=some (Q.getD 51 undef):=xq.cell (by rw [List.getD_eq_getElem?_getD,List.getElem?_eq_getElem (by have:=HH.out.2.2.2.2.2.2.2;omega)];rfl);have z2:w1.cell? ⟨w.heap.size+1,52,none⟩=some (Q.getD 52 undef):=xq.cell (by rw [List.getD_eq_getElem?_getD,List.getElem?_eq_getElem (by have:=HH.out.2.2.2.2.2.2.2;omega)];rfl);clear hf hf1 xq xw';have hE:=Lib.hid fun w1=>failed_r w1 er he;go_wp2_with fail
   refine (hE.out _).mono ?_;rintro e2 w2 ⟨v,rfl,hres,hf2⟩;have HE:=Lib.hid (And.intro hres hf2);clear hres hf2;go_wp2_with fail
   go_ret
   rw [HR.out,if_pos he];exact ⟨_,rfl,HE.out.1.lo (by simp;omega),HH.out.1.aftN (Fr.trans (by exact HF.out.1.alloc _) HE.out.2)⟩
end
end Go.Proofs.YtlbomnbpahmphaaGreat
