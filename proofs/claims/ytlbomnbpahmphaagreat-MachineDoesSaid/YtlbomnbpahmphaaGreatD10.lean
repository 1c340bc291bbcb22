/- The memory's functions, the layout hidden: what each answers, and what it leaves. Condition: the memory lies somewhere in blocks of its own. -/
import Derived.Test.YtlbomnbpahmphaaGreatD09
import Derived.Test.YtlbomnbpahmphaaGreatD08
import Derived.Test.YtlbomnbpahmphaaGreatD04
namespace Go.Proofs.YtlbomnbpahmphaaGreat
open Go.RowKit
set_option maxRecDepth 100000
set_option maxHeartbeats 400000
def MI (D:Nat→Prop) (w:World) (mb:Nat) (M:Mem):Prop:=∃ ao cap bb arr wb zb,MemL D w mb ao cap bb arr wb zb M
section
variable {D E:Nat→Prop} {w w':World} {mb:Nat} {M:Mem}
theorem MI.fr (h:MI D w mb M) (f:Fr E w w') (hd:∀ x,D x→¬ E x):MI D w' mb M:=by
 obtain ⟨ao,cap,bb,arr,wb,zb,h⟩:=h;exact ⟨ao,cap,bb,arr,wb,zb,h.fr f hd⟩
theorem MI.frN (h:MI D w mb M) (f:Fr Non w w'):MI D w' mb M:=h.fr f fun _ _=>id
theorem MI.lt (h:MI D w mb M):mb<w.heap.size:=by obtain ⟨_,_,_,_,_,_,h⟩:=h;exact h.head.lt
theorem MI.new {room:Int} (h0:0≤room) (h1:room≤1048576) (r:Row w mb 135 [.int .i64 room,.int .i64 0,.int .i64 0,.slice none 0 0]):MI (fun x=>x=mb) w mb ⟨room,[]⟩ :=
 ⟨none,0,0,[],fun _=>0,fun _=>0,{ head:=r,own:=rfl,row:=Or.inl ⟨rfl,rfl,rfl⟩,blk:=fun i b hb=>by simp at hb,one:=fun i j hi=>absurd hi (by simp),lt:=fun i hi=>absurd hi (by simp),ok:=⟨h1,by simpa [used] using h0,fun b hb=>by simp at hb⟩ }⟩
theorem load_i (h:MI D w mb M) (p:Bool) (a n:Int) :
 Calls Tryz.prog 84 #[.pointer (some ⟨mb,0,none⟩),.agg #[.bool p,.int .i64 a,.int .i64 n]] w fun e w' =>
  e=.returned (.tuple #[.agg #[.bool (M.load ⟨p,a,n⟩).1.p,.int .i64 (M.load ⟨p,a,n⟩).1.a,.int .i64 (M.load ⟨p,a,n⟩).1.n],.int .i64 (M.load ⟨p,a,n⟩).2])∧Fr Non w w':=by
 obtain ⟨ao,cap,bb,arr,wb,zb,h⟩:=h;exact load_c h p a n
theorem store_i (h:MI D w mb M) (p:Bool) (a n:Int) (q:Bool) (c m:Int) :
 Calls Tryz.prog 39 #[.pointer (some ⟨mb,0,none⟩),.agg #[.bool p,.int .i64 a,.int .i64 n],.agg #[.bool q,.int .i64 c,.int .i64 m]] w fun e w' =>
  e=.returned (.int .i64 (M.store ⟨p,a,n⟩ ⟨q,c,m⟩).2)∧MI D w' mb (M.store ⟨p,a,n⟩ ⟨q,c,m⟩).1∧Fr D w w':=by
 obtain ⟨ao,cap,bb,arr,wb,zb,h⟩:=h;exact (store_c h p a n q c m).mono fun e w' ⟨h1,h2,h3⟩=>⟨h1,⟨_,_,_,_,_,_,h2⟩,h3⟩
theorem free_i (h:MI D w mb M) (p:Bool) (a n:Int) :
 Calls Tryz.prog 111 #[.pointer (some ⟨mb,0,none⟩),.agg #[.bool p,.int .i64 a,.int .i64 n]] w fun e w' =>
  e=.returned (.int .i64 (M.free ⟨p,a,n⟩).2)∧MI D w' mb (M.free ⟨p,a,n⟩).1∧Fr D w w':=by
 obtain ⟨ao,cap,bb,arr,wb,zb,h⟩:=h;exact (free_c h p a n).mono fun e w' ⟨h1,⟨arr',h2⟩,h3⟩=>⟨h1,⟨_,_,_,_,_,_,h2⟩,h3⟩
theorem alloc_i (h:MI D w mb M) (n:Int) (hB:M.blocks.length<1000000000000) :
 Calls Tryz.prog 72 #[.pointer (some ⟨mb,0,none⟩),.int .i64 n] w fun e w' =>
  e=.returned (.tuple #[.agg #[.bool (M.alloc n).2.1.p,.int .i64 (M.alloc n).2.1.a,.int .i64 (M.alloc n).2.1.n],.int .i64 (M.alloc n).2.2]) ∧
  (∃ D',MI D' w' mb (M.alloc n).1∧∀ b,D' b→D b∨(w.heap.size≤b∧b<w'.heap.size))∧Fr D w w':=by
 obtain ⟨ao,cap,bb,arr,wb,zb,h⟩:=h;exact (alloc_c h n hB).mono fun e w' ⟨h1,⟨D',ao',cap',bb',arr',wb',zb',h3,h4⟩,h5⟩=>⟨h1,⟨D',⟨_,_,_,_,_,_,h3⟩,h4⟩,h5⟩
theorem live_i (h:MI D w mb M):Calls Tryz.prog 56 #[.pointer (some ⟨mb,0,none⟩)] w fun e w'=>e=.returned (.int .i64 (live M.blocks))∧Fr Non w w':=by
 obtain ⟨ao,cap,bb,arr,wb,zb,h⟩:=h;exact memLive_c h
theorem clear_i (h:MI D w mb M) (p:Bool) (a n m:Int) :
 Calls Tryz.prog 126 #[.pointer (some ⟨mb,0,none⟩),.agg #[.bool p,.int .i64 a,.int .i64 n],.int .i64 m] w fun e w' =>
  e=.returned (.int .i64 (M.clear ⟨p,a,n⟩ m).2)∧MI D w' mb (M.clear ⟨p,a,n⟩ m).1∧Fr D w w':=by
 obtain ⟨ao,cap,bb,arr,wb,zb,h⟩:=h;unfold Mem.clear;by_cases hm:m<0
 · rw [if_pos hm];exact (clear_neg h p a n m hm).mono fun e w' ⟨h1,h2⟩=>⟨h1,⟨_,_,_,_,_,_,h.fr h2 (fun _ _=>id)⟩,h2.mono fun _ _ h=>h.elim⟩
 · rw [if_neg hm];by_cases he:M.errp ⟨p,a,n⟩ m=0
   · rw [if_neg (by simpa using he)];obtain ⟨k,rfl⟩:=Int.eq_ofNat_of_zero_le (show 0≤m by omega);exact (clear_good h p a n k he).mono fun e w' ⟨h1,h2,h3⟩=>⟨h1,⟨_,_,_,_,_,_,h2⟩,h3⟩
   · rw [if_pos he];exact (clear_bad h p a n m (by omega) he).mono fun e w' ⟨h1,h2⟩=>⟨h1,⟨_,_,_,_,_,_,h.fr h2 (fun _ _=>id)⟩,h2.mono fun _ _ h=>h.elim⟩
theorem copy_i (h:MI D w mb M) (p:Bool) (a n:Int) (q:Bool) (b r m:Int) :
 Calls Tryz.prog 125 #[.pointer (some ⟨mb,0,none⟩),.agg #[.bool p,.int .i64 a,.int .i64 n],.agg #[.bool q,.int .i64 b,.int .i64 r],.int .i64 m] w fun e w' =>
  e=.returned (.int .i64 (M.copy ⟨p,a,n⟩ ⟨q,b,r⟩ m).2)∧MI D w' mb (M.copy ⟨p,a,n⟩ ⟨q,b,r⟩ m).1∧Fr D w w':=by
 obtain ⟨ao,cap,bb,arr,wb,zb,h⟩:=h;by_cases hm:m<0
 · unfold Mem.copy;rw [if_pos hm];exact (copy_neg w mb p a n q b r m hm).mono fun e w' ⟨h1,h2⟩=>⟨h1,⟨_,_,_,_,_,_,h.fr h2 (fun _ _=>id)⟩,h2.mono fun _ _ h=>h.elim⟩
 · obtain ⟨k,rfl⟩:=Int.eq_ofNat_of_zero_le (show 0≤m by omega);exact (copy_nat h p a n q b r k).mono fun e w' ⟨h1,h2,h3⟩=>⟨h1,⟨_,_,_,_,_,_,h2⟩,h3⟩
end
def addS (a b:Int):Int × Bool:=(IntKind.i64.wrap (a+b),decide (IntKind.i64.wrap (a+b)<a) == decide (b<0))
def subS (a b:Int):Int × Bool:=(IntKind.i64.wrap (a - b),decide (a<IntKind.i64.wrap (a - b)) == decide (b<0))
def sizeS (a:Int):Int:=if a<0 then IntKind.u64.wrap (-(IntKind.u64.wrap a)) else IntKind.u64.wrap a
def bitS (b:Bool):Int:=if b then 1 else 0
theorem bit_c (w:World) (b:Bool):Calls Tryz.prog 129 #[.bool b] w fun e w'=>e=.returned (.int .i64 (bitS b))∧Fr Non w w':=by
 cases b
 all_goals go_enter Tryz.func129,Tryz.ntmps129
 all_goals go_wp2
 all_goals go_ret
 all_goals exact ⟨rfl,by exact fx⟩
theorem add_c (w:World) (a b:Int):Calls Tryz.prog 141 #[.int .i64 a,.int .i64 b] w fun e w'=>e=.returned (.tuple #[.int .i64 (addS a b).1,.bool (addS a b).2])∧Fr Non w w':=by
 obtain ⟨s,hs⟩:∃ s,IntKind.i64.wrap (a+b)=s:=⟨_,rfl⟩;unfold addS;rw [hs];go_enter Tryz.func141,Tryz.ntmps141
 go_wp2
 go_ret2
 exact ⟨rfl,by exact fx⟩
theorem sub_c (w:World) (a b:Int):Calls Tryz.prog 142 #[.int .i64 a,.int .i64 b] w fun e w'=>e=.returned (.tuple #[.int .i64 (subS a b).1,.bool (subS a b).2])∧Fr Non w w':=by
 obtain ⟨s,hs⟩:∃ s,IntKind.i64.wrap (a - b)=s:=⟨_,rfl⟩;unfold subS;rw [hs];go_enter Tryz.func142,Tryz.ntmps142
 go_wp2
 go_ret2
 exact ⟨rfl,by exact fx⟩
theorem size_c (w:World) (a:Int):Calls Tryz.prog 149 #[.int .i64 a] w fun e w'=>e=.returned (.int .u64 (sizeS a))∧Fr Non w w':=by
 by_cases h:a<0
 · have hd:decide (a<0)=true:=decide_eq_true h;unfold sizeS;rw [if_pos h];go_enter Tryz.func149,Tryz.ntmps149
   go_wp2
   go_ret
   exact ⟨rfl,by exact fx⟩
 · have hd:decide (a<0)=false:=decide_eq_false h;unfold sizeS;rw [if_neg h];go_enter Tryz.func149,Tryz.ntmps149
   go_wp2
   go_ret
   exact ⟨rfl,by exact fx⟩
def errS (n:Int):Option (Int × Int):=if n=0 then none else some (if n=10 then (5,0) else (6,n))
def Res (w:World) (lo:Nat) (v:Value) (r:Option (Int × Int)):Prop :=
 (r=none∧v=.pointer none)∨∃ b k n,r=some (k,n)∧v=.pointer (some ⟨b,0,none⟩)∧Row w b 44 [.int .i64 k,.int .i64 n]∧lo≤b
theorem Res.fr {w w':World} {lo:Nat} {v:Value} {r:Option (Int × Int)} {D:Nat→Prop} (h:Res w lo v r) (f:Fr D w w') (hd:∀ x,D x→x<lo):Res w' lo v r:=by
 rcases h with h|⟨b,k,n,h1,h2,h3,h4⟩
 · exact Or.inl h
 · exact Or.inr ⟨b,k,n,h1,h2,f.row h3 (fun hb=>by have:=hd b hb;omega),h4⟩
theorem failed_r (w:World) (n:Int) (hn:n≠0):Calls Tryz.prog 38 #[.int .i64 n] w fun e w'=>∃ v,e=.returned v∧Res w' w.heap.size v (errS n)∧Fr Non w w':=by
 refine (failed_c w n).mono ?_;rintro e1 w1 ⟨b,rfl,hr,hg,hf⟩;refine ⟨_,rfl,Or.inr ⟨b,_,_,?_,rfl,hr,hg⟩,hf⟩;unfold errS;rw [if_neg hn];split <;> rfl
theorem checked_c (w:World) (n:Int):Calls Tryz.prog 102 #[.int .i64 n] w fun e w'=>∃ v,e=.returned v∧Res w' w.heap.size v (errS n)∧Fr Non w w':=by
 by_cases h:n=0
 · subst h;obtain ⟨r,hr⟩:∃ r,r=errS 0:=⟨_,rfl⟩;rw [← hr];have hr2:=Lib.hid hr;clear hr;go_enter Tryz.func102,Tryz.ntmps102
   go_wp2
   go_ret
   exact ⟨_,rfl,Or.inl ⟨hr2.out,rfl⟩,by exact fx⟩
 · have hb:(n == 0)=false:=beq_false_of_ne h;have hF:=Lib.hid fun w1=>failed_r w1 n h;generalize errS n=r at *;go_enter Tryz.func102,Tryz.ntmps102
   go_wp2_with fail
   refine (hF.out w).mono ?_;rintro e1 w1 ⟨v,rfl,hr,hf⟩;have HH:=Lib.hid (And.intro hr hf);clear hr hf;go_wp2
   go_ret
   obtain ⟨hr,hf⟩:=HH.out;exact ⟨_,rfl,hr,hf⟩
theorem numbers_c (w:World) (b c:Nat) (x y:Wd) (hc:∀ (j:Nat) (u:Value),(flat [x,y])[j]?=some u→w.cell? ⟨b,0+j,none⟩=some u) :
 Calls Tryz.prog 128 #[.slice (some ⟨b,0,none⟩) 2 c] w fun e w'=>e=.returned (.bool (!x.p && !y.p))∧Fr Non w w':=by
 obtain ⟨xp,xa,xn⟩:=x;obtain ⟨yp,ya,yn⟩:=y;have x0:=hc 0 _ rfl;have x1:=hc 1 _ rfl;have x2:=hc 2 _ rfl;have y0:=hc 3 _ rfl;have y1:=hc 4 _ rfl;have y2:=hc 5 _ rfl;simp only [Nat.zero_add] at x0 x1 x2 y0 y1 y2;have HX:=Lib.hid (And.intro x0 (And.intro x1 (And.intro x2 (And.intro y0 (And.intro y1 y2)))));clear hc x0 x1 x2 y0 y1 y2;go_enter Tryz.func128,Tryz.ntmps128
 go_wp2_with fail
 go_loopw [7] (fun v7 wr=>((v7=.int .i64 0)∨(v7=.int .i64 1∧xp=false)∨(v7=.int .i64 2∧xp=false∧yp=false))∧Fr Non w wr) (fun v7 _=>2 - (intOf v7).toNat)
 case atStart=>exact ⟨Or.inl rfl,Fr.refl _ _⟩
 case round =>
  obtain ⟨hrel,hfr⟩:=hrel;rcases hrel with rfl|⟨rfl,rfl⟩|⟨rfl,rfl,rfl⟩
  · have x0:=hfr.cell HX.out.1 id;have x1:=hfr.cell HX.out.2.1 id;have x2:=hfr.cell HX.out.2.2.1 id;cases xp
    · go_wp2_with fail
      exact ⟨⟨by simp,by exact fx⟩,by simp [intOf]⟩
    · go_wp2_with fail
      go_ret
      exact ⟨rfl,by exact fx⟩
  · have y0:=hfr.cell HX.out.2.2.2.1 id;have y1:=hfr.cell HX.out.2.2.2.2.1 id;have y2:=hfr.cell HX.out.2.2.2.2.2 id;cases yp
    · go_wp2_with fail
      exact ⟨⟨by simp,by exact fx⟩,by simp [intOf]⟩
    · go_wp2_with fail
      go_ret
      exact ⟨rfl,by exact fx⟩
  · go_wp2_with fail
    go_ret
    exact ⟨rfl,by exact fx⟩
theorem wrapU_nat (n:Int):∃ k:Nat,IntKind.u64.wrap n=k∧k<18446744073709551616:=by
 have h1:0≤IntKind.u64.wrap n∧IntKind.u64.wrap n<18446744073709551616:=by
  have:=Int.emod_nonneg n (show (18446744073709551616:Int)≠0 by decide);have:=Int.emod_lt_of_pos n (show (0:Int)<18446744073709551616 by decide);simp [IntKind.wrap,IntKind.signed,IntKind.bits];omega
 exact ⟨(IntKind.u64.wrap n).toNat,by omega,by omega⟩
theorem sizeS_nat (a:Int):∃ k:Nat,sizeS a=k∧k<18446744073709551616:=by
 unfold sizeS;split <;> exact wrapU_nat _
def mulS (a b:Int):Int × Bool :=
 let p:=(sizeS a).toNat * (sizeS b).toNat
 let high:Int:=((p / 18446744073709551616:Nat):Int)
 let low:Int:=((p % 18446744073709551616:Nat):Int)
 if decide (a<0) != decide (b<0) then (IntKind.i64.wrap (IntKind.u64.wrap (-low)),high == 0 && decide (low≤9223372036854775808)) else (IntKind.i64.wrap low,high == 0 && decide (low≤9223372036854775807))
theorem mul_c (w:World) (a b:Int):Calls Tryz.prog 143 #[.int .i64 a,.int .i64 b] w fun e w'=>e=.returned (.tuple #[.int .i64 (mulS a b).1,.bool (mulS a b).2])∧Fr Non w w':=by
 obtain ⟨x,hx,hx2⟩:=sizeS_nat a;obtain ⟨y,hy,hy2⟩:=sizeS_nat b;obtain ⟨R,hR⟩:∃ R,R=mulS a b:=⟨_,rfl⟩;rw [← hR];have hR2:=hR;unfold mulS at hR2;simp only [hx,hy,Int.toNat_natCast] at hR2;have HR:=Lib.hid hR2;have hS:=Lib.hid fun w1=>size_c w1 a;have hT:=Lib.hid fun w1=>size_c w1 b;have hM:=Lib.hid fun w1=>Tryz.bits_Mul64 x y hx2 hy2 w1;rw [hx] at hS;rw [hy] at hT;clear hR hR2 hx hy hx2 hy2;generalize hh:x * y / 18446744073709551616=hi at *;generalize hl:x * y % 18446744073709551616=lo at *;clear hh hl
 have hz:(hi=0)∨(((hi:Int) == 0)=false):=by
  by_cases h:hi=0
  · exact Or.inl h
  · exact Or.inr (beq_false_of_ne (by omega))
 have hab:((decide (a<0)=true)∨(decide (a<0)=false))∧((decide (b<0)=true)∨(decide (b<0)=false)):=by
  exact ⟨by cases decide (a<0) <;> simp,by cases decide (b<0) <;> simp⟩
 obtain ⟨ha|ha,hb|hb⟩:=hab
 all_goals rcases hz with rfl|hz
 all_goals go_enter Tryz.func143,Tryz.ntmps143
 all_goals go_wp2_with fail
 all_goals refine (hS.out w).mono ?_
 all_goals rintro e1 w1 ⟨rfl,hf1⟩
 all_goals go_wp2_with fail
 all_goals refine (hT.out w1).mono ?_
 all_goals rintro e2 w2 ⟨rfl,hf2⟩
 all_goals go_wp2_with fail
 all_goals refine (hM.out w2).mono ?_
 all_goals rintro e3 w3 ⟨rfl,rfl⟩
 all_goals have hff:Fr Non w w3:=hf1.trans hf2
 all_goals clear hf1 hf2
 all_goals go_wp2_with fail
 all_goals go_ret2
 all_goals refine ⟨?_,by exact fx⟩
 all_goals rw [HR.out]
 all_goals first|simp only [ha,hb,hz,IntWalk.i64_left]|simp only [ha,hb,IntWalk.i64_left]
 all_goals simp
def reckonS (op a b:Int):Int × Bool:=if op=8 then addS a b else if op=9 then subS a b else mulS a b
theorem reckon_c (w:World) (op a b:Int):Calls Tryz.prog 130 #[.int .i64 op,.int .i64 a,.int .i64 b] w fun e w'=>e=.returned (.tuple #[.int .i64 (reckonS op a b).1,.bool (reckonS op a b).2])∧Fr Non w w':=by
 unfold reckonS;have hA:=Lib.hid fun w1=>add_c w1 a b;have hB:=Lib.hid fun w1=>sub_c w1 a b;have hC:=Lib.hid fun w1=>mul_c w1 a b;by_cases h8:op=8
 · subst h8;rw [if_pos rfl];generalize addS a b=R at *;go_enter Tryz.func130,Tryz.ntmps130
   go_wp2_with fail
   refine (hA.out w).mono ?_;rintro e1 w1 ⟨rfl,hf⟩;go_wp2_with fail
   go_ret2
   exact ⟨rfl,by exact fx⟩
 · rw [if_neg h8];have h8':(op == 8)=false:=beq_false_of_ne h8;by_cases h9:op=9
   · subst h9;rw [if_pos rfl];generalize subS a b=R at *;go_enter Tryz.func130,Tryz.ntmps130
     go_wp2_with fail
     refine (hB.out w).mono ?_;rintro e1 w1 ⟨rfl,hf⟩;go_wp2_with fail
     go_ret2
     exact ⟨rfl,by exact fx⟩
   · rw [if_neg h9];have h9':(op == 9)=false:=beq_false_of_ne h9;generalize mulS a b=R at *;go_enter Tryz.func130,Tryz.ntmps130
     go_wp2_with fail
     refine (hC.out w).mono ?_;rintro e1 w1 ⟨rfl,hf⟩;go_wp2_with fail
     go_ret2
     exact ⟨rfl,by exact fx⟩
theorem Tryz.infoEvent:(Tryz.prog.info? 74).map (fun i=>(i.zero,i.size,i.bytes))=some (some (.agg #[.int .i64 0,.int .i64 0,.int .i64 0,.int .i64 0]),4,32):=by kernel_rfl
structure Ev where
 kind:Int
 task:Int
 a:Int
 n:Int
def Ev.cs (e:Ev):List Value:=[.int .i64 e.kind,.int .i64 e.task,.int .i64 e.a,.int .i64 e.n]
def evs (l:List Ev):List Value:=l.flatMap Ev.cs
theorem evs_append (l m:List Ev):evs (l ++ m)=evs l ++ evs m:=by simp [evs]
end Go.Proofs.YtlbomnbpahmphaaGreat
