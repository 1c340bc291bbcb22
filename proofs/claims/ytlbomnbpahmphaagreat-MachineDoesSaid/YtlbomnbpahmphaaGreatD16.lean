/- Walks: the checker's 'within' and 'shapeOf'. No condition. -/
import Derived.Test.YtlbomnbpahmphaaGreatD15
import Derived.Test.YtlbomnbpahmphaaGreatD14
set_option maxRecDepth 100000
set_option maxHeartbeats 4000000
namespace Go.Proofs.YtlbomnbpahmphaaGreat
open Go.RowKit
theorem within_c (w:World) (n most:Int):Calls Tryz.prog 93 #[.int .i64 n,.int .i64 most] w fun e w'=>e=.returned (.bool (withinS n most))∧Fr Non w w':=by
 obtain ⟨r,hr⟩:∃ r,r=withinS n most:=⟨_,rfl⟩;rw [← hr];unfold withinS at hr;have HR:=Lib.hid hr;clear hr;by_cases h0:0≤n
 · have hd:decide (0≤n)=true:=decide_eq_true h0;go_enter Tryz.func93,Tryz.ntmps93
   go_wp2
   go_ret
   exact ⟨by rw [HR.out,hd];simp,by exact fx⟩
 · have hd:decide (0≤n)=false:=decide_eq_false h0;go_enter Tryz.func93,Tryz.ntmps93
   go_wp2
   go_ret
   exact ⟨by rw [HR.out,hd];simp,by exact fx⟩
theorem shapeOf_c (w:World) (x:In) (la:Option Addr) (lc:Nat):Calls Tryz.prog 117 #[.agg #[.int .i64 x.op,.int .i64 x.a,.int .i64 x.b,.int .i64 x.c,.slice la x.l.length lc]] w fun e w' =>
 e=.returned (.tuple #[.agg #[.int .i64 (shapeS x.op).a,.int .i64 (shapeS x.op).b,.int .i64 (shapeS x.op).c,.int .i64 (shapeS x.op).l],.bool (shapeS x.op).ok])∧Fr Non w w':=by
 obtain ⟨op,a,b,c,l⟩:=x;simp only;obtain ⟨r,hr⟩:∃ r,r=shapeS op:=⟨_,rfl⟩;rw [← hr];by_cases h:0≤op∧op≤29
 · have hc:op=0∨op=1∨op=2∨op=3∨op=4∨op=5∨op=6∨op=7∨op=8∨op=9∨op=10∨op=11∨op=12∨op=13∨op=14∨op=15∨op=16∨op=17∨op=18∨op=19∨op=20∨op=21∨op=22∨op=23∨op=24∨op=25∨op=26∨op=27∨op=28∨op=29:=by omega
   rcases hc with rfl|rfl|rfl|rfl|rfl|rfl|rfl|rfl|rfl|rfl|rfl|rfl|rfl|rfl|rfl|rfl|rfl|rfl|rfl|rfl|rfl|rfl|rfl|rfl|rfl|rfl|rfl|rfl|rfl|rfl
   all_goals simp [shapeS] at hr
   all_goals subst hr
   all_goals clear h
   all_goals go_enter Tryz.func117,Tryz.ntmps117
   all_goals go_wp2
   all_goals exact bodyPost_ret (by simp [results,Tryz.results117,go_sem]) rfl ⟨rfl,by exact fx⟩
 · rw [show shapeS op=⟨0,0,0,0,false⟩ from by unfold shapeS;rw [if_neg (by omega),if_neg (by omega),if_neg (by omega),if_neg (by omega),if_neg (by omega),if_neg (by omega),if_neg (by omega),if_neg (by omega),if_neg (by omega),if_neg (by omega),if_neg (by omega),if_neg (by omega),if_neg (by omega),if_neg (by omega),if_neg (by omega),if_neg (by omega),if_neg (by omega),if_neg (by omega),if_neg (by omega)]] at hr;subst hr;have b0:(op == 0)=false:=beq_false_of_ne (by omega);have b1:(op == 1)=false:=beq_false_of_ne (by omega);have b2:(op == 2)=false:=beq_false_of_ne (by omega);have b3:(op == 3)=false:=beq_false_of_ne (by omega);have b4:(op == 4)=false:=beq_false_of_ne (by omega);have b5:(op == 5)=false:=beq_false_of_ne (by omega);have b6:(op == 6)=false:=beq_false_of_ne (by omega);have b7:(op == 7)=false:=beq_false_of_ne (by omega);have b8:(op == 8)=false:=beq_false_of_ne (by omega);have b9:(op == 9)=false:=beq_false_of_ne (by omega);have b10:(op == 10)=false:=beq_false_of_ne (by omega);have b11:(op == 11)=false:=beq_false_of_ne (by omega);have b12:(op == 12)=false:=beq_false_of_ne (by omega);have b13:(op == 13)=false:=beq_false_of_ne (by omega);have b14:(op == 14)=false:=beq_false_of_ne (by omega);have b15:(op == 15)=false:=beq_false_of_ne (by omega);have b16:(op == 16)=false:=beq_false_of_ne (by omega);have b17:(op == 17)=false:=beq_false_of_ne (by omega);have b18:(op == 18)=false:=beq_false_of_ne (by omega);have b19:(op == 19)=false:=beq_false_of_ne (by omega);have b20:(op == 20)=false:=beq_false_of_ne (by omega);have b21:(op == 21)=false:=beq_false_of_ne (by omega);have b22:(op == 22)=false:=beq_false_of_ne (by omega);have b23:(op == 23)=false:=beq_false_of_ne (by omega);have b24:(op == 24)=false:=beq_false_of_ne (by omega);have b25:(op == 25)=false:=beq_false_of_ne (by omega);have b26:(op == 26)=false:=beq_false_of_ne (by omega);have b27:(op == 27)=false:=beq_false_of_ne (by omega);have b28:(op == 28)=false:=beq_false_of_ne (by omega);have b29:(op == 29)=false:=beq_false_of_ne (by omega);clear h;go_enter Tryz.func117,Tryz.ntmps117
   go_wp2
   exact bodyPost_ret (v:=.tuple #[.agg #[.int .i64 0,.int .i64 0,.int .i64 0,.int .i64 0],.bool false]) (by simp [results,Tryz.results117,go_sem]) rfl ⟨rfl,by exact fx⟩
theorem writes_c (w:World) (x:In) (la:Option Addr) (lc:Nat):Calls Tryz.prog 123 #[.agg #[.int .i64 x.op,.int .i64 x.a,.int .i64 x.b,.int .i64 x.c,.slice la x.l.length lc]] w fun e w' =>
 e=.returned (.tuple #[.int .i64 (writesS x).1,.bool (writesS x).2])∧Fr Non w w':=by
 have hS:=Lib.hid fun w1=>shapeOf_c w1 x la lc;obtain ⟨r,hr⟩:∃ r,r=writesS x:=⟨_,rfl⟩;rw [← hr];unfold writesS at hr;obtain ⟨op,a,b,c,l⟩:=x;simp only at hS hr ⊢;generalize shapeS op=sh at *;obtain ⟨sa,sb,sc,sl,ok⟩:=sh;simp only at hS hr;have HR:=Lib.hid hr;clear hr;cases h2:(sa == 2)
 all_goals go_enter Tryz.func123,Tryz.ntmps123
 all_goals go_wp2_with fail
 all_goals refine (hS.out _).mono ?_
 all_goals rintro e1 w1 ⟨rfl,hf⟩
 all_goals have hf1:Fr Non w w1:=Fr.trans (by exact fx) hf
 all_goals have rx:Row w1 w.heap.size 128 [.int .i64 op,.int .i64 a,.int .i64 b,.int .i64 c,.slice la l.length lc]:=hf.row (by exact Row.new' rfl) id
 all_goals obtain ⟨x0,x1,x2,x3,x4,xz⟩:=row5 rx
 all_goals have hxl:=rx.lt
 all_goals clear hf rx
 all_goals go_wp2_with fail
 all_goals go_ret2
 all_goals exact ⟨by rw [HR.out,h2];rfl,by exact fx⟩
theorem falls_c (w:World) (x:In) (la:Option Addr) (lc:Nat):Calls Tryz.prog 94 #[.agg #[.int .i64 x.op,.int .i64 x.a,.int .i64 x.b,.int .i64 x.c,.slice la x.l.length lc]] w fun e w' =>
 e=.returned (.bool (fallsS x.op))∧Fr Non w w':=by
 have hS:=Lib.hid fun w1=>shapeOf_c w1 x la lc;obtain ⟨r,hr⟩:∃ r,r=fallsS x.op:=⟨_,rfl⟩;rw [← hr];unfold fallsS at hr;obtain ⟨op,a,b,c,l⟩:=x;simp only at hS hr ⊢;generalize shapeS op=sh at *;obtain ⟨sa,sb,sc,sl,ok⟩:=sh;simp only at hS hr;by_cases h:op=13∨op=15∨op=27∨op=28∨op=29
 · rw [if_pos h] at hr;subst hr;clear hS;rcases h with rfl|rfl|rfl|rfl|rfl
   all_goals go_enter Tryz.func94,Tryz.ntmps94
   all_goals go_wp2_with fail
   all_goals go_ret
   all_goals exact ⟨rfl,by exact fx⟩
 · rw [if_neg h] at hr;subst hr;have b13:(op == 13)=false:=beq_false_of_ne (by omega);have b15:(op == 15)=false:=beq_false_of_ne (by omega);have b27:(op == 27)=false:=beq_false_of_ne (by omega);have b28:(op == 28)=false:=beq_false_of_ne (by omega);have b29:(op == 29)=false:=beq_false_of_ne (by omega);clear h;go_enter Tryz.func94,Tryz.ntmps94
   go_wp2_with fail
   refine (hS.out _).mono ?_;rintro e1 w1 ⟨rfl,hf⟩;have hf1:Fr Non w w1:=Fr.trans (by exact fx) hf;clear hf;go_wp2_with fail
   go_ret
   exact ⟨rfl,by exact fx⟩
structure Chk (base:Nat) (P:Pr) (kinds:List Int) (f:List In) (kind:Int) (w:World) (c:Nat):Prop where
 row:∃ fo fc co cc kb kc io ic,Row w c 132 [.slice fo P.funs.length fc,.slice co P.cos.length cc,.slice (some ⟨kb,0,none⟩) kinds.length kc,.slice io f.length ic,.int .i64 kind] ∧
  (∃ arr,Row w kb 3 arr∧∀ (i:Nat) (n:Int),kinds[i]?=some n→arr[i]?=some (.int .i64 n))∧InsAt base w io f
theorem Chk.fr {base:Nat} {P:Pr} {kinds:List Int} {f:List In} {kind:Int} {w w':World} {c:Nat} (h:Chk base P kinds f kind w c) (g:Fr Non w w'):Chk base P kinds f kind w' c:=by
 obtain ⟨fo,fc,co,cc,kb,kc,io,ic,h1,⟨arr,h2,h3⟩,h4⟩:=h;exact ⟨fo,fc,co,cc,kb,kc,io,ic,g.row h1 id,⟨arr,g.row h2 id,h3⟩,h4.fr g (high_non _)⟩
section
variable {base:Nat} {P:Pr} {kinds:List Int} {f:List In} {kind:Int} {w:World} {c:Nat}
theorem field_c (h:Chk base P kinds f kind w c) (fd n:Int):Calls Tryz.prog 118 #[.pointer (some ⟨c,0,none⟩),.int .i64 fd,.int .i64 n] w fun e w'=>e=.returned (.bool (fieldS kinds P.cos.length fd n))∧Fr Non w w':=by
 obtain ⟨fo,fc,co,cc,kb,kc,io,ic,h1,⟨arr,h2,h3⟩,h4⟩:=h;have c1:=h1.cell (o:=1) rfl;have c2:=h1.cell (o:=2) rfl;have hcl:=h1.lt;have hkl:=h2.lt;obtain ⟨r,hr⟩:∃ r,r=fieldS kinds P.cos.length fd n:=⟨_,rfl⟩;rw [← hr];unfold fieldS at hr;have HR:=Lib.hid hr;have HK:=Lib.hid (And.intro h2 h3);clear hr h1 h2 h3 h4;have hW:=Lib.hid fun w1 k=>within_c w1 n k;have hkk:Hid (∀ i:Nat,i<kinds.length→w.cell? ⟨kb,i,none⟩=some (.int .i64 (kinds.getD i 0))):=Lib.hid fun i hi=>HK.out.1.cell (HK.out.2 i _ (by rw [List.getD_eq_getElem?_getD,List.getElem?_eq_getElem hi];rfl));generalize kinds.length=kl at *;by_cases h1:fd=1∨fd=2
 · rcases h1 with rfl|rfl
   all_goals go_enter Tryz.func118,Tryz.ntmps118
   all_goals go_wp2_with fail
   all_goals refine (hW.out _ _).mono ?_
   all_goals rintro e1 w1 ⟨rfl,hf⟩
   all_goals go_wp2_with fail
   all_goals go_ret
   all_goals exact ⟨by rw [HR.out,if_pos (by simp)];rfl,hf⟩
 · have b1:(fd == 1)=false:=beq_false_of_ne (by omega);have b2:(fd == 2)=false:=beq_false_of_ne (by omega);by_cases h3:fd=3
   · subst h3;go_enter Tryz.func118,Tryz.ntmps118
     go_wp2_with fail
     go_ret
     exact ⟨by rw [HR.out,if_neg (by first|omega|simp|(simp;omega)),if_pos (by first|trivial|rfl|simp)];rfl,by exact fx⟩
   have b3:(fd == 3)=false:=beq_false_of_ne h3;by_cases h4:fd=4
   · subst h4;go_enter Tryz.func118,Tryz.ntmps118
     go_wp2_with fail
     refine (hW.out _ _).mono ?_;rintro e1 w1 ⟨rfl,hf⟩;go_wp2_with fail
     go_ret
     exact ⟨by rw [HR.out,if_neg (by first|omega|simp|(simp;omega)),if_neg (by first|omega|simp|(simp;omega)),if_pos (by first|trivial|rfl|simp)];rfl,hf⟩
   have b4:(fd == 4)=false:=beq_false_of_ne h4;by_cases h5:fd=5
   · subst h5;go_enter Tryz.func118,Tryz.ntmps118
     go_wp2_with fail
     go_ret
     exact ⟨by rw [HR.out,if_neg (by first|omega|simp|(simp;omega)),if_neg (by first|omega|simp|(simp;omega)),if_neg (by first|omega|simp|(simp;omega)),if_pos (by first|trivial|rfl|simp)];rfl,by exact fx⟩
   have b5:(fd == 5)=false:=beq_false_of_ne h5;by_cases h6:fd=6
   · subst h6;cases hwi:withinS n kl with
     | false =>
      go_enter Tryz.func118,Tryz.ntmps118
      go_wp2_with fail
      refine (hW.out _ _).mono ?_;rintro e1 w1 ⟨rfl,hf⟩;rw [hwi];go_wp2_with fail
      go_ret
      exact ⟨by rw [HR.out,if_neg (by first|omega|simp|(simp;omega)),if_neg (by first|omega|simp|(simp;omega)),if_neg (by first|omega|simp|(simp;omega)),if_neg (by first|omega|simp|(simp;omega)),if_pos (by first|trivial|rfl|simp),hwi];rfl,hf⟩
     | true =>
      have hwi2:=hwi;unfold withinS at hwi2;simp only [Bool.and_eq_true,decide_eq_true_eq] at hwi2;obtain ⟨i,rfl⟩:=Int.eq_ofNat_of_zero_le hwi2.1;have hi0:(0:Int)≤(i:Int):=hwi2.1;have hi1:(i:Int)<(kl:Int):=hwi2.2;have hki:=hkk.out i (by omega);generalize hkg:kinds.getD i 0=kg at *;go_enter Tryz.func118,Tryz.ntmps118
      go_wp2_with fail
      refine (hW.out _ _).mono ?_;rintro e1 w1 ⟨rfl,hf⟩;rw [hwi];have hki1:=hf.cell hki id;have c21:=hf.cell c2 id;go_wp2_with fail
      go_ret
      exact ⟨by rw [HR.out,if_neg (by first|omega|simp|(simp;omega)),if_neg (by first|omega|simp|(simp;omega)),if_neg (by first|omega|simp|(simp;omega)),if_neg (by first|omega|simp|(simp;omega)),if_pos (by first|trivial|rfl|simp),hwi,Int.toNat_natCast,hkg];simp,hf⟩
   have b6:(fd == 6)=false:=beq_false_of_ne h6;by_cases h7:fd=7
   · subst h7;go_enter Tryz.func118,Tryz.ntmps118
     go_wp2_with fail
     refine (hW.out _ _).mono ?_;rintro e1 w1 ⟨rfl,hf⟩;go_wp2_with fail
     go_ret
     exact ⟨by rw [HR.out,if_neg (by first|omega|simp|(simp;omega)),if_neg (by first|omega|simp|(simp;omega)),if_neg (by first|omega|simp|(simp;omega)),if_neg (by first|omega|simp|(simp;omega)),if_neg (by first|omega|simp|(simp;omega)),if_pos (by first|trivial|rfl|simp)];rfl,hf⟩
   have b7:(fd == 7)=false:=beq_false_of_ne h7;go_enter Tryz.func118,Tryz.ntmps118
   go_wp2_with fail
   go_ret
   exact ⟨by rw [HR.out,if_neg (by first|omega|simp|(simp;omega)),if_neg (by first|omega|simp|(simp;omega)),if_neg (by first|omega|simp|(simp;omega)),if_neg (by first|omega|simp|(simp;omega)),if_neg (by first|omega|simp|(simp;omega)),if_neg (by first|omega|simp|(simp;omega))];rfl,by exact fx⟩
theorem allowed_c (h:Chk base P kinds f kind w c) (x:In) (la:Option Addr) (lc:Nat):Calls Tryz.prog 119 #[.pointer (some ⟨c,0,none⟩),.agg #[.int .i64 x.op,.int .i64 x.a,.int .i64 x.b,.int .i64 x.c,.slice la x.l.length lc]] w fun e w' =>
 e=.returned (.bool (allowedS kind x.op))∧Fr Non w w':=by
 obtain ⟨fo,fc,co,cc,kb,kc,io,ic,h1,h2,h3⟩:=h;have c4:=h1.cell (o:=4) rfl;have hcl:=h1.lt;obtain ⟨op,a,b,c',l⟩:=x;obtain ⟨r,hr⟩:∃ r,r=allowedS kind op:=⟨_,rfl⟩;simp only;rw [← hr];unfold allowedS at hr;have HR:=Lib.hid hr;clear hr h1 h2 h3;by_cases h1:op=1
 · subst h1;go_enter Tryz.func119,Tryz.ntmps119
   go_wp2_with fail
   go_ret
   exact ⟨by rw [HR.out,if_pos (by first|trivial|rfl|simp)];rfl,by exact fx⟩
 have b1:(op == 1)=false:=beq_false_of_ne h1;by_cases h2:op=20∨op=21∨op=23∨op=24∨op=27∨op=28
 · rcases h2 with rfl|rfl|rfl|rfl|rfl|rfl
   all_goals go_enter Tryz.func119,Tryz.ntmps119
   all_goals go_wp2_with fail
   all_goals go_ret
   all_goals exact ⟨by rw [HR.out,if_neg (by simp),if_pos (by simp)];rfl,by exact fx⟩
 have b20:(op == 20)=false:=beq_false_of_ne (by omega);have b21:(op == 21)=false:=beq_false_of_ne (by omega);have b23:(op == 23)=false:=beq_false_of_ne (by omega);have b24:(op == 24)=false:=beq_false_of_ne (by omega);have b27:(op == 27)=false:=beq_false_of_ne (by omega);have b28:(op == 28)=false:=beq_false_of_ne (by omega);by_cases h3:op=29
 · subst h3;go_enter Tryz.func119,Tryz.ntmps119
   go_wp2_with fail
   go_ret
   exact ⟨by rw [HR.out,if_neg (by simp),if_neg (by simp),if_pos (by first|trivial|rfl|simp)];rfl,by exact fx⟩
 have b29:(op == 29)=false:=beq_false_of_ne h3;go_enter Tryz.func119,Tryz.ntmps119
 go_wp2_with fail
 go_ret
 exact ⟨by rw [HR.out,if_neg h1,if_neg h2,if_neg h3];rfl,by exact fx⟩
theorem coroutine_c (w:World) (kb kc:Nat) (ck:∀ i:Nat,i<kinds.length→w.cell? ⟨kb,i,none⟩=some (.int .i64 (kinds.getD i 0))) (x:Cr) :
 Calls Tryz.prog 63 #[.slice (some ⟨kb,0,none⟩) kinds.length kc,.agg #[.string x.name,.int .i64 x.resume,.int .i64 x.cancel,.int .i64 x.words,.int .i64 x.args]] w fun e w'=>e=.returned (.bool (coroutineS kinds x))∧Fr Non w w':=by
 obtain ⟨nm,rs,cn,wd,ar⟩:=x;obtain ⟨r,hr⟩:∃ r,r=coroutineS kinds ⟨nm,rs,cn,wd,ar⟩:=⟨_,rfl⟩;rw [← hr];unfold coroutineS at hr;simp only at hr ⊢;have HR:=Lib.hid hr;have HC:=Lib.hid ck;clear hr ck;have hW:=Lib.hid fun w1 n k=>within_c w1 n k;generalize hkl:kinds.length=kl at *;cases h1:withinS rs kl with
 | false =>
  go_enter Tryz.func63,Tryz.ntmps63
  go_wp2_with fail
  refine (hW.out _ _ _).mono ?_;rintro e1 w1 ⟨rfl,hf⟩;rw [h1];have hf1:Fr Non w w1:=Fr.trans (by exact fx) hf;clear hf;go_wp2_with fail
  go_ret
  exact ⟨by rw [HR.out,h1];rfl,hf1⟩
 | true =>
  cases h2:withinS cn kl with
  | false =>
   go_enter Tryz.func63,Tryz.ntmps63
   go_wp2_with fail
   refine (hW.out _ _ _).mono ?_;rintro e1 w1 ⟨rfl,hf⟩;rw [h1];have hf1:Fr Non w w1:=Fr.trans (by exact fx) hf;have rx:Row w1 w.heap.size 87 [.string nm,.int .i64 rs,.int .i64 cn,.int .i64 wd,.int .i64 ar]:=hf.row (by exact Row.new' rfl) id;obtain ⟨x0,x1,x2,x3,x4,xz⟩:=row5 rx;clear hf rx;go_wp2_with fail
   refine (hW.out _ _ _).mono ?_;rintro e1 w2 ⟨rfl,hf⟩;rw [h2];have hf2:=hf1.trans hf;clear hf hf1;go_wp2_with fail
   go_ret
   exact ⟨by rw [HR.out,h1,h2];rfl,hf2⟩
  | true =>
   have h2':=h2;unfold withinS at h2';simp only [Bool.and_eq_true,decide_eq_true_eq] at h2';obtain ⟨i,rfl⟩:=Int.eq_ofNat_of_zero_le h2'.1;have hi0:(0:Int)≤(i:Int):=h2'.1;have hi1:(i:Int)<(kl:Int):=h2'.2;have hki:=HC.out i (by omega);have hR:=HR.out;rw [h1,h2,Int.toNat_natCast] at hR;clear HR;generalize kinds.getD i 0=kg at *;have HR:=Lib.hid hR;clear hR h2';have hcase:(kg=2∧(kg == 2)=true)∨(kg≠2∧(kg == 2)=false):=by by_cases h:kg=2 <;> simp [h]
   go_enter Tryz.func63,Tryz.ntmps63
   go_wp2_with fail
   refine (hW.out _ _ _).mono ?_;rintro e1 w1 ⟨rfl,hf⟩;rw [h1];have hf1:Fr Non w w1:=Fr.trans (by exact fx) hf;have rx:Row w1 w.heap.size 87 [.string nm,.int .i64 rs,.int .i64 i,.int .i64 wd,.int .i64 ar]:=hf.row (by exact Row.new' rfl) id;obtain ⟨x0,x1,x2,x3,x4,xz⟩:=row5 rx;clear hf xz;go_wp2_with fail
   refine (hW.out _ _ _).mono ?_;rintro e1 w2 ⟨rfl,hf⟩;rw [h2];have hf2:=hf1.trans hf;have rx2:=hf.row rx id;obtain ⟨y0,y1,y2,y3,y4,yz⟩:=row5 rx2;have hki2:=hf2.cell hki id;clear hf hf1 rx x0 x1 x2 x3 x4 yz hki;rcases hcase with ⟨rfl,hk⟩|⟨hk0,hk⟩
   · have hw3:(3≤wd∧decide (3≤wd)=true)∨(¬ 3≤wd∧decide (3≤wd)=false):=by by_cases h:3≤wd <;> simp [h]
     rcases hw3 with ⟨ha,hb⟩|⟨ha,hb⟩
     · have hw4:(wd≤1048576∧decide (wd≤1048576)=true)∨(¬ wd≤1048576∧decide (wd≤1048576)=false):=by by_cases h:wd≤1048576 <;> simp [h]
       rcases hw4 with ⟨hc,hd⟩|⟨hc,hd⟩
       · have hq1:IntKind.i64.wrap (wd - 3)=wd - 3:=IntWalk.i64_in _ (by omega);have hq2:IntKind.i64.wrap (wd - 3+1)=wd - 3+1:=IntWalk.i64_in _ (by omega);go_wp2_with fail
         refine (hW.out _ _ _).mono ?_;rintro e1 w3 ⟨rfl,hf⟩;have hf3:=hf2.trans hf;clear hf hf2;go_wp2_with fail
         go_ret
         exact ⟨by rw [HR.out,hb,hd];simp,hf3⟩
       · go_wp2_with fail
         go_ret
         exact ⟨by rw [HR.out,hb,hd];simp,hf2⟩
     · go_wp2_with fail
       go_ret
       exact ⟨by rw [HR.out,hb];simp,hf2⟩
   · go_wp2_with fail
     go_ret
     refine ⟨?_,hf2⟩;have:(kg != 2)=true:=by simp [hk0]
     rw [HR.out,this]
     rfl
end
section
variable {base:Nat} {P:Pr} {kinds:List Int} {f:List In} {kind:Int} {w:World} {c:Nat}
theorem one1_c (h:Chk base P kinds f kind w c) (q:Nat) (hq:w.cell? ⟨q,0,none⟩=some (.pointer (some ⟨c,0,none⟩))) (n:Int) :
 Calls Tryz.prog 121 #[.int .i64 n,.pointer (some ⟨q,0,none⟩)] w fun e w'=>e=.returned (.bool (!withinS n f.length))∧Fr Non w w':=by
 obtain ⟨fo,fc,co,cc,kb,kc,io,ic,h1,_⟩:=h;have c3:=h1.cell (o:=3) rfl;have hcl:=h1.lt;have hW:=Lib.hid fun w1 k=>within_c w1 n k;have hql:=World.block_lt_of_cell? w _ hq;clear h1;generalize f.length=fl at *;go_enter Tryz.func121,Tryz.ntmps121
 go_wp2_with fail
 refine (hW.out _ _).mono ?_;rintro e1 w1 ⟨rfl,hf⟩;go_wp2_with fail
 go_ret
 exact ⟨rfl,hf⟩
theorem indexFunc_c (h:Chk base P kinds f kind w c) (q:Nat) (hq:w.cell? ⟨q,0,none⟩=some (.pointer (some ⟨c,0,none⟩))) (l:List Int) (la:Option Addr) (lc:Nat) (hl:ArgsAt w la l) (hn:l.length≤17592186043904) :
 Calls Tryz.prog 139 #[.slice la l.length lc,.func (.func 121) #[] #[.pointer (some ⟨q,0,none⟩)]] w fun e w'=>(∃ r:Int,e=.returned (.int .i64 r)∧decide (0≤r)=!(l.all fun j=>withinS j f.length))∧Fr Non w w':=by
 have HH:=Lib.hid (And.intro h (And.intro hq hl));clear h hq hl;go_enter Tryz.func139,Tryz.ntmps139
 go_wp2_with fail
 go_loopw [8] (fun v8 wr=>∃ i:Nat,i≤l.length∧v8=.int .i64 i∧(∀ j,j<i→∀ n,l[j]?=some n→withinS n f.length=true)∧Fr Non w wr) (fun v8 _=>l.length - (intOf v8).toNat)
 case atStart=>exact ⟨0,Nat.zero_le _,rfl,fun j hj=>by omega,Fr.refl _ _⟩
 case round =>
  obtain ⟨i,hi,rfl,hall,hfr⟩:=hrel;by_cases hil:i<l.length
  · have hil':(i:Int)<(l.length:Int):=by omega
    have hi0:(0:Int)≤(i:Int):=by omega
    have hw1:IntKind.i64.wrap ((i:Int)+1)=(i:Int)+1:=IntWalk.i64_in _ (by omega);obtain ⟨ab,ao,rfl,hcell⟩:=HH.out.2.2 i l[i] (List.getElem?_eq_getElem hil);have hcr:=hfr.cell hcell id;have hget:=List.getElem?_eq_getElem hil;have hO:=Lib.hid (one1_c (HH.out.1.fr hfr) q (hfr.cell HH.out.2.1 id) l[i]);have HX:=Lib.hid (And.intro hall (And.intro hfr hget));clear hall hfr hcell;generalize l[i]=li at *;clear hget;go_wp2_with fail
    refine hO.out.mono ?_;rintro e1 w1 ⟨rfl,hf⟩;have hf1:=HX.out.2.1.trans hf;clear hf;cases hwi:withinS li f.length with
    | true =>
     go_wp2_with fail
     refine ⟨⟨i+1,by omega,rfl,?_,hf1⟩,by simp [intOf];omega⟩;intro j hj n hn;rcases Nat.lt_succ_iff_lt_or_eq.1 hj with h|rfl
     · exact HX.out.1 j h n hn
     · rw [HX.out.2.2] at hn;cases hn
       exact hwi
    | false =>
     go_wp2_with fail
     go_ret
     refine ⟨⟨i,rfl,?_⟩,hf1⟩
     have:(l.all fun j=>withinS j f.length)=false:=by
      rw [List.all_eq_false];exact ⟨li,List.mem_of_getElem? HX.out.2.2,by simp [hwi]⟩
     rw [this];simp
  · have:i=l.length:=by omega
    subst this;have HX:=Lib.hid (And.intro hall hfr);clear hall;go_wp2_with fail
    go_ret
    refine ⟨⟨-1,rfl,?_⟩,HX.out.2⟩
    have:(l.all fun j=>withinS j f.length)=true:=by
     rw [List.all_eq_true];intro x hx;obtain ⟨j,hj,rfl⟩:=List.getElem_of_mem hx;exact HX.out.1 j hj _ (List.getElem?_eq_getElem hj)
    rw [this];simp
theorem containsFunc_c (h:Chk base P kinds f kind w c) (q:Nat) (hq:w.cell? ⟨q,0,none⟩=some (.pointer (some ⟨c,0,none⟩))) (l:List Int) (la:Option Addr) (lc:Nat) (hl:ArgsAt w la l) (hn:l.length≤17592186043904) :
 Calls Tryz.prog 120 #[.slice la l.length lc,.func (.func 121) #[] #[.pointer (some ⟨q,0,none⟩)]] w fun e w'=>e=.returned (.bool (!(l.all fun j=>withinS j f.length)))∧Fr Non w w':=by
 have hI:=Lib.hid (indexFunc_c h q hq l la lc hl hn);clear h hq hl;generalize (l.all fun j=>withinS j f.length)=r at *;go_enter Tryz.func120,Tryz.ntmps120
 go_wp2_with fail
 refine hI.out.mono ?_;rintro e1 w1 ⟨⟨k,rfl,hk⟩,hf⟩;have HK:=Lib.hid hk;clear hk;go_wp2_with fail
 go_ret
 exact ⟨by rw [← HK.out];rfl,hf⟩
end
section
variable {base:Nat} {P:Pr} {kinds:List Int} {f:List In} {kind:Int} {w:World} {c:Nat}
theorem one_c (h:Chk base P kinds f kind w c) (x:In) (la:Option Addr) (lc:Nat) (hl:ArgsAt w la x.l) (hn:x.l.length≤17592186043904) :
 Calls Tryz.prog 95 #[.pointer (some ⟨c,0,none⟩),.agg #[.int .i64 x.op,.int .i64 x.a,.int .i64 x.b,.int .i64 x.c,.slice la x.l.length lc]] w fun e w'=>e=.returned (.bool (oneS kinds P.cos.length f.length kind x))∧Fr Non w w':=by
 have hmf:∀ (fn:Fn) (first cap:Array Value) (W:World),(Instr.makeFunc fn first cap).run Tryz.prog W=.ok (.func fn first cap) W:=fun _ _ _ _=>rfl;have hS:=Lib.hid fun w1=>shapeOf_c w1 x la lc;have hF:=Lib.hid fun w1 (g:Fr Non w w1) fd n=>field_c (h.fr g) fd n;have hA:=Lib.hid fun w1 (g:Fr Non w w1)=>allowed_c (h.fr g) x la lc;have hC:=Lib.hid fun w1 (g:Fr Non w w1) q (hq:w1.cell? ⟨q,0,none⟩=some (.pointer (some ⟨c,0,none⟩)))=>containsFunc_c (h.fr g) q hq x.l la lc (hl.fr g (fun _ _ _ h=>h)) hn;obtain ⟨r,hr⟩:∃ r,r=oneS kinds P.cos.length f.length kind x:=⟨_,rfl⟩;rw [← hr];unfold oneS at hr;have hcl:c<w.heap.size:=by obtain ⟨_,_,_,_,_,_,_,_,h1,_⟩:=h;exact h1.lt
 clear h hl;obtain ⟨op,a,b,cc,l⟩:=x;simp only at hS hA hC hr hn ⊢;generalize shapeS op=sh at *;obtain ⟨sa,sb,sc,sl,ok⟩:=sh;simp only at hS hr;generalize (l.all fun j=>withinS j f.length)=al at *;have HR:=Lib.hid hr;clear hr;go_enter Tryz.func95,Tryz.ntmps95
 go_wp2_with fail
 refine (hS.out _).mono ?_;rintro e1 w1 ⟨rfl,hf⟩;have hf1:Fr Non w w1:=Fr.trans (by exact fx) hf;have rq:Row w1 w.heap.size 130 [.pointer (some ⟨c,0,none⟩)]:=hf.row (by exact (Row.new' rfl).alloc _) id;have rx:Row w1 (w.heap.size+1) 128 [.int .i64 op,.int .i64 a,.int .i64 b,.int .i64 cc,.slice la l.length lc]:=hf.row (by exact Row.new' (by simp)) id;have fV:Fr Non w1 (w1.alloc (.cells #[.int .i64 sa,.int .i64 sb,.int .i64 sc,.int .i64 sl] 187)):=(Fr.refl _ _).alloc _;have rs:Row (w1.alloc (.cells #[.int .i64 sa,.int .i64 sb,.int .i64 sc,.int .i64 sl] 187)) w1.heap.size 187 [.int .i64 sa,.int .i64 sb,.int .i64 sc,.int .i64 sl]:=Row.new' rfl;have HW:=Lib.hid (And.intro (hf1.trans fV) (And.intro (fV.row rq id) (And.intro (fV.row rx id) rs)));have hwl:w.heap.size<w1.heap.size:=rq.lt;have hwl1:w.heap.size+1<w1.heap.size:=rx.lt;clear hf hf1 rq rx fV rs;cases ok with
 | false =>
  go_wp2_with fail
  go_ret
  exact ⟨by rw [HR.out];rfl,HW.out.1⟩
 | true =>
  have hV:∃ V,V=w1.alloc (.cells #[.int .i64 sa,.int .i64 sb,.int .i64 sc,.int .i64 sl] 187)∧w1.heap.size<V.heap.size:=⟨_,rfl,by simp⟩;obtain ⟨V,hVe,hVl⟩:=hV;generalize hg:w1.heap.size=g at *;have q0:=HW.out.2.1.cell (o:=0) rfl;obtain ⟨x0,x1,x2,x3,x4,xz⟩:=row5 HW.out.2.2.1;obtain ⟨s0,s1,s2,s3,sz⟩:=row4 HW.out.2.2.2;go_wp2_with fail
  refine (hF.out _ HW.out.1 sa a).mono ?_;rintro e1 v1 ⟨rfl,hf⟩;have hs1:=hf.size;have HW1:=Lib.hid (And.intro (HW.out.1.trans hf) (And.intro (hf.row HW.out.2.1 id) (And.intro (hf.row HW.out.2.2.1 id) (hf.row HW.out.2.2.2 id))));clear hf q0 x0 x1 x2 x3 x4 xz s0 s1 s2 s3 sz;have q0:=HW1.out.2.1.cell (o:=0) rfl;obtain ⟨x0,x1,x2,x3,x4,xz⟩:=row5 HW1.out.2.2.1;obtain ⟨s0,s1,s2,s3,sz⟩:=row4 HW1.out.2.2.2;cases hb1:fieldS kinds P.cos.length sa a with
  | false =>
   go_wp2_with fail
   go_ret
   exact ⟨by rw [HR.out,hb1];simp,HW1.out.1⟩
  | true =>
   go_wp2_with fail
   refine (hF.out _ HW1.out.1 sb b).mono ?_;rintro e1 v2 ⟨rfl,hf⟩;have hs2:=hf.size;have HW2:=Lib.hid (And.intro (HW1.out.1.trans hf) (And.intro (hf.row HW1.out.2.1 id) (And.intro (hf.row HW1.out.2.2.1 id) (hf.row HW1.out.2.2.2 id))));clear hf q0 x0 x1 x2 x3 x4 xz s0 s1 s2 s3 sz;have q0:=HW2.out.2.1.cell (o:=0) rfl;obtain ⟨x0,x1,x2,x3,x4,xz⟩:=row5 HW2.out.2.2.1;obtain ⟨s0,s1,s2,s3,sz⟩:=row4 HW2.out.2.2.2;cases hb2:fieldS kinds P.cos.length sb b with
   | false =>
    go_wp2_with fail
    go_ret
    exact ⟨by rw [HR.out,hb1,hb2];simp,HW2.out.1⟩
   | true =>
    go_wp2_with fail
    refine (hF.out _ HW2.out.1 sc cc).mono ?_;rintro e1 v3 ⟨rfl,hf⟩;have hs3:=hf.size;have HW3:=Lib.hid (And.intro (HW2.out.1.trans hf) (And.intro (hf.row HW2.out.2.1 id) (And.intro (hf.row HW2.out.2.2.1 id) (hf.row HW2.out.2.2.2 id))));clear hf q0 x0 x1 x2 x3 x4 xz s0 s1 s2 s3 sz;have q0:=HW3.out.2.1.cell (o:=0) rfl;obtain ⟨x0,x1,x2,x3,x4,xz⟩:=row5 HW3.out.2.2.1;obtain ⟨s0,s1,s2,s3,sz⟩:=row4 HW3.out.2.2.2;cases hb3:fieldS kinds P.cos.length sc cc with
    | false =>
     go_wp2_with fail
     go_ret
     exact ⟨by rw [HR.out,hb1,hb2,hb3];simp,HW3.out.1⟩
    | true =>
     go_wp2_with fail
     refine (hA.out _ HW3.out.1).mono ?_;rintro e1 v4 ⟨rfl,hf⟩;have hs4:=hf.size;have HW4:=Lib.hid (And.intro (HW3.out.1.trans hf) (And.intro (hf.row HW3.out.2.1 id) (And.intro (hf.row HW3.out.2.2.1 id) (hf.row HW3.out.2.2.2 id))));clear hf q0 x0 x1 x2 x3 x4 xz s0 s1 s2 s3 sz;have q0:=HW4.out.2.1.cell (o:=0) rfl;obtain ⟨x0,x1,x2,x3,x4,xz⟩:=row5 HW4.out.2.2.1;obtain ⟨s0,s1,s2,s3,sz⟩:=row4 HW4.out.2.2.2;cases hb4:allowedS kind op with
     | false =>
      go_wp2_with fail
      go_ret
      exact ⟨by rw [HR.out,hb1,hb2,hb3,hb4];simp,HW4.out.1⟩
     | true =>
      have hsl:(0≤sl∧decide (0≤sl)=true∧decide (sl<0)=false)∨(¬ 0≤sl∧decide (0≤sl)=false∧decide (sl<0)=true):=by
       by_cases h:0≤sl
       · exact Or.inl ⟨h,decide_eq_true h,decide_eq_false (by omega)⟩
       · exact Or.inr ⟨h,decide_eq_false h,decide_eq_true (by omega)⟩
      rcases hsl with ⟨h5,h6,h7⟩|⟨h5,h6,h7⟩
      · have hlc:((l.length:Int)=sl∧((l.length:Int) == sl)=true)∨(¬ (l.length:Int)=sl∧((l.length:Int) == sl)=false):=by
         by_cases h:(l.length:Int)=sl
         · exact Or.inl ⟨h,by simp [h]⟩
         · exact Or.inr ⟨h,beq_false_of_ne h⟩
        rcases hlc with ⟨h8,h9⟩|⟨h8,h9⟩
        · go_wp2_with fail
          refine (hC.out _ HW4.out.1 w.heap.size q0).mono ?_;rintro e1 v5 ⟨rfl,hf⟩;go_wp2_with fail
          go_ret
          refine ⟨?_,HW4.out.1.trans hf⟩;rw [HR.out,hb1,hb2,hb3,hb4];have:((l.length:Int) != sl)=false:=by simp [h8]
          rw [this,h7];simp
        · go_wp2_with fail
          go_ret
          refine ⟨?_,HW4.out.1⟩;rw [HR.out,hb1,hb2,hb3,hb4];have:((l.length:Int) != sl)=true:=by simp [h8]
          rw [this,h6];simp
      · have hlc:((l.length:Int)=0∧((l.length:Int) == 0)=true)∨(¬ (l.length:Int)=0∧((l.length:Int) == 0)=false):=by
         by_cases h:(l.length:Int)=0
         · exact Or.inl ⟨h,by simp [h]⟩
         · exact Or.inr ⟨h,beq_false_of_ne h⟩
        rcases hlc with ⟨h8,h9⟩|⟨h8,h9⟩
        · go_wp2_with fail
          go_ret
          refine ⟨?_,HW4.out.1⟩;rw [HR.out,hb1,hb2,hb3,hb4];rw [h6,h7,h9];simp
        · go_wp2_with fail
          refine (hC.out _ HW4.out.1 w.heap.size q0).mono ?_;rintro e1 v5 ⟨rfl,hf⟩;go_wp2_with fail
          go_ret
          refine ⟨?_,HW4.out.1.trans hf⟩;rw [HR.out,hb1,hb2,hb3,hb4];rw [h6,h7,h9];simp
end
end Go.Proofs.YtlbomnbpahmphaaGreat
