/- Walk: the tiny program of layer 3. No condition. -/
import Derived.Test.YtlbomnbpahmphaaGreatD20
import Derived.Test.YtlbomnbpahmphaaGreatD14
set_option maxRecDepth 100000
set_option maxHeartbeats 2000000
namespace Go.Proofs.YtlbomnbpahmphaaGreat
open Go.RowKit
def tinyP:Pr:=⟨[[⟨1,1,0,0,[]⟩,⟨3,2,1,0,[]⟩,⟨14,2,0,0,[7]⟩,⟨0,3,1,0,[]⟩,⟨4,1,3,0,[]⟩,⟨0,4,7,0,[]⟩,⟨20,4,0,0,[]⟩,⟨1,1,1,0,[]⟩,⟨0,4,8,0,[]⟩,⟨4,1,4,0,[]⟩,⟨27,0,0,0,[]⟩],[⟨29,0,0,0,[]⟩]],[⟨⟨#[]⟩,0,1,3,0⟩]⟩
theorem tiny_at {W:World} {n:Nat} (r1:Row W (n+1) 3 [.int .i64 7]) (r2:Row W (n+1+1) 128 [.int .i64 1,.int .i64 1,.int .i64 0,.int .i64 0,.slice none 0 0,.int .i64 3,.int .i64 2,.int .i64 1,.int .i64 0,.slice none 0 0,.int .i64 14,.int .i64 2,.int .i64 0,.int .i64 0,.slice (some ⟨n+1,0,none⟩) 1 1,.int .i64 0,.int .i64 3,.int .i64 1,.int .i64 0,.slice none 0 0,.int .i64 4,.int .i64 1,.int .i64 3,.int .i64 0,.slice none 0 0,.int .i64 0,.int .i64 4,.int .i64 7,.int .i64 0,.slice none 0 0,.int .i64 20,.int .i64 4,.int .i64 0,.int .i64 0,.slice none 0 0,.int .i64 1,.int .i64 1,.int .i64 1,.int .i64 0,.slice none 0 0,.int .i64 0,.int .i64 4,.int .i64 8,.int .i64 0,.slice none 0 0,.int .i64 4,.int .i64 1,.int .i64 4,.int .i64 0,.slice none 0 0,.int .i64 27,.int .i64 0,.int .i64 0,.int .i64 0,.slice none 0 0]) (r3:Row W (n+1+1+1) 128 [.int .i64 29,.int .i64 0,.int .i64 0,.int .i64 0,.slice none 0 0]) (r4:Row W (n+1+1+1+1) 78 [.slice (some ⟨n+1+1,0,none⟩) 11 11,.slice (some ⟨n+1+1+1,0,none⟩) 1 1]) (r5:Row W (n+1+1+1+1+1) 87 [.string ⟨#[]⟩,.int .i64 0,.int .i64 1,.int .i64 3,.int .i64 0]):PrAt W.heap.size tinyP W (.agg #[.slice (some ⟨n+1+1+1+1,0,none⟩) 2 2,.slice (some ⟨n+1+1+1+1+1,0,none⟩) 1 1]):=by
 have b1:=r1.lt;have b2:=r2.lt;have b3:=r3.lt;have b4:=r4.lt;have b5:=r5.lt;refine ⟨⟨_,_,_,_,rfl,?_,?_⟩,?_⟩
 · intro i f hi
   match i,hi with
   | 0,hi =>
    cases hi
    refine ⟨_,0,_,_,rfl,⟨b4,r4.cell rfl⟩,?_⟩;intro j x hx
    match j,hx with
    | 0,hx=>cases hx;exact ⟨_,0,none,0,rfl,⟨b2,r2.cell rfl⟩,⟨b2,r2.cell rfl⟩,⟨b2,r2.cell rfl⟩,⟨b2,r2.cell rfl⟩,⟨b2,r2.cell rfl⟩,fun i n h=>by cases h⟩
    | 1,hx=>cases hx;exact ⟨_,0,none,0,rfl,⟨b2,r2.cell rfl⟩,⟨b2,r2.cell rfl⟩,⟨b2,r2.cell rfl⟩,⟨b2,r2.cell rfl⟩,⟨b2,r2.cell rfl⟩,fun i n h=>by cases h⟩
    | 2,hx=>cases hx;exact ⟨_,0,_,1,rfl,⟨b2,r2.cell rfl⟩,⟨b2,r2.cell rfl⟩,⟨b2,r2.cell rfl⟩,⟨b2,r2.cell rfl⟩,⟨b2,r2.cell rfl⟩,fun i n h=>by
     match i,h with
     | 0,h=>cases h;exact ⟨_,0,rfl,b1,r1.cell rfl⟩⟩
    | 3,hx=>cases hx;exact ⟨_,0,none,0,rfl,⟨b2,r2.cell rfl⟩,⟨b2,r2.cell rfl⟩,⟨b2,r2.cell rfl⟩,⟨b2,r2.cell rfl⟩,⟨b2,r2.cell rfl⟩,fun i n h=>by cases h⟩
    | 4,hx=>cases hx;exact ⟨_,0,none,0,rfl,⟨b2,r2.cell rfl⟩,⟨b2,r2.cell rfl⟩,⟨b2,r2.cell rfl⟩,⟨b2,r2.cell rfl⟩,⟨b2,r2.cell rfl⟩,fun i n h=>by cases h⟩
    | 5,hx=>cases hx;exact ⟨_,0,none,0,rfl,⟨b2,r2.cell rfl⟩,⟨b2,r2.cell rfl⟩,⟨b2,r2.cell rfl⟩,⟨b2,r2.cell rfl⟩,⟨b2,r2.cell rfl⟩,fun i n h=>by cases h⟩
    | 6,hx=>cases hx;exact ⟨_,0,none,0,rfl,⟨b2,r2.cell rfl⟩,⟨b2,r2.cell rfl⟩,⟨b2,r2.cell rfl⟩,⟨b2,r2.cell rfl⟩,⟨b2,r2.cell rfl⟩,fun i n h=>by cases h⟩
    | 7,hx=>cases hx;exact ⟨_,0,none,0,rfl,⟨b2,r2.cell rfl⟩,⟨b2,r2.cell rfl⟩,⟨b2,r2.cell rfl⟩,⟨b2,r2.cell rfl⟩,⟨b2,r2.cell rfl⟩,fun i n h=>by cases h⟩
    | 8,hx=>cases hx;exact ⟨_,0,none,0,rfl,⟨b2,r2.cell rfl⟩,⟨b2,r2.cell rfl⟩,⟨b2,r2.cell rfl⟩,⟨b2,r2.cell rfl⟩,⟨b2,r2.cell rfl⟩,fun i n h=>by cases h⟩
    | 9,hx=>cases hx;exact ⟨_,0,none,0,rfl,⟨b2,r2.cell rfl⟩,⟨b2,r2.cell rfl⟩,⟨b2,r2.cell rfl⟩,⟨b2,r2.cell rfl⟩,⟨b2,r2.cell rfl⟩,fun i n h=>by cases h⟩
    | 10,hx=>cases hx;exact ⟨_,0,none,0,rfl,⟨b2,r2.cell rfl⟩,⟨b2,r2.cell rfl⟩,⟨b2,r2.cell rfl⟩,⟨b2,r2.cell rfl⟩,⟨b2,r2.cell rfl⟩,fun i n h=>by cases h⟩
   | 1,hi =>
    cases hi
    refine ⟨_,0,_,_,rfl,⟨b4,r4.cell rfl⟩,?_⟩;intro j x hx
    match j,hx with
    | 0,hx=>cases hx;exact ⟨_,0,none,0,rfl,⟨b3,r3.cell rfl⟩,⟨b3,r3.cell rfl⟩,⟨b3,r3.cell rfl⟩,⟨b3,r3.cell rfl⟩,⟨b3,r3.cell rfl⟩,fun i n h=>by cases h⟩
 · intro _;refine ⟨_,0,rfl,fun j u hu=>?_⟩;have hj:=(List.getElem?_eq_some_iff.1 hu).1
   match j,hu with
   | 0,hu=>cases hu;exact ⟨b5,r5.cell rfl⟩
   | 1,hu=>cases hu;exact ⟨b5,r5.cell rfl⟩
   | 2,hu=>cases hu;exact ⟨b5,r5.cell rfl⟩
   | 3,hu=>cases hu;exact ⟨b5,r5.cell rfl⟩
   | 4,hu=>cases hu;exact ⟨b5,r5.cell rfl⟩
 · decide
theorem tiny_res {W:World} {n:Nat} {x0 x1:Value} (r0:Row W n 25 [x0,x1]) (a:Array Value) (ha:a.getD 0 undef=ptr n):(results Tryz.f30 a).run Tryz.prog W=.ok (.agg #[x0,x1]) W:=by
 have q0:=r0.cell (o:=0) rfl;have q1:=r0.cell (o:=1) rfl;have ha2:a[0]?.getD undef=.pointer (some ⟨n,0,none⟩):=by rw [← Array.getD_eq_getD_getElem?];exact ha
 simp [results,Tryz.results30,go_sem,ha2,q0,q1]
theorem tiny_c (w:World):Calls Tryz.prog 30 #[] w fun e w'=>∃ v,e=.returned v∧PrAt w'.heap.size tinyP w' v∧Fr Non w w':=by
 go_enter Tryz.func30,Tryz.ntmps30
 go_wp2_with fail
 refine bodyPost_ret (v:=.agg #[.slice (some ⟨w.heap.size+1+1+1+1,0,none⟩) 2 2,.slice (some ⟨w.heap.size+1+1+1+1+1,0,none⟩) 1 1]) ?_ rfl ?_
 · exact tiny_res (n:=w.heap.size) ((((((Row.new' rfl).alloc _).alloc _).alloc _).alloc _).alloc _) _ rfl
 · refine ⟨_,rfl,tiny_at (n:=w.heap.size) ?_ ?_ ?_ ?_ ?_,?_⟩
   · exact ((((Row.new' (by simp)).alloc _).alloc _).alloc _).alloc _
   · exact (((Row.new' (by simp)).alloc _).alloc _).alloc _
   · exact ((Row.new' (by simp)).alloc _).alloc _
   · exact (Row.new' (by simp)).alloc _
   · exact Row.new' (by simp)
   · exact fx
def tiny1:St:=(startS tinyP (St.new 9) 0 []).1
def tiny2:St:=(pollS tinyP tiny1 ⟨true,1,0⟩ 1 50).2
def tiny3:St:=(pollS tinyP tiny2 ⟨true,1,0⟩ 1 50).2
def tiny4:St:=(cancelS tinyP tiny3 ⟨true,1,0⟩ 1 50).2
theorem tiny_valid:validS tinyP=true:=by kernel_rfl
theorem tiny_start:startS tinyP (St.new 9) 0 []=(tiny1,⟨true,1,0⟩,2,0):=by kernel_rfl
theorem tiny_poll1:pollS tinyP tiny1 ⟨true,1,0⟩ 1 50=((0,7),tiny2)∧tiny2.fuel=43:=⟨by kernel_rfl,by kernel_rfl⟩
theorem tiny_poll2:pollS tinyP tiny2 ⟨true,1,0⟩ 1 50=((2,8),tiny3):=by kernel_rfl
theorem tiny_cancel:cancelS tinyP tiny3 ⟨true,1,0⟩ 1 50=((2,0),tiny4):=by kernel_rfl
theorem tiny_live:live tiny4.mem.blocks=0:=by kernel_rfl
theorem tiny_few:FewB tiny1 50∧FewB tiny2 50∧FewB tiny3 50:=by
 have h:(tiny1.told.length=0∧tiny2.told.length=0∧tiny3.told.length=0)∧(tiny1.mem.blocks.length=1∧tiny2.mem.blocks.length=1∧tiny3.mem.blocks.length=1):=⟨⟨by kernel_rfl,by kernel_rfl,by kernel_rfl⟩,⟨by kernel_rfl,by kernel_rfl,by kernel_rfl⟩⟩;unfold FewB;omega
theorem tiny_lab:∀ f∈tinyP.funs,∀ x∈f,x.l.length≤17592186043904:=by
 intro f hf x hx;have:∀ f∈tinyP.funs,∀ x∈f,x.l.length≤1:=by decide +kernel
 have:=this f hf x hx;omega
theorem new_ok {base:Nat} {P:Pr} {w:World} {v:Value} (h:PrAt base P w v) (hb:base≤w.heap.size) (hv:validS P=true) (words:Int) :
 Calls Tryz.prog 8 #[v,.int .i64 words] w fun e w'=>∃ m A,e=.returned (.tuple #[.pointer (some ⟨m,0,none⟩),.int .i64 0])∧Fr Non w w'∧MInv base P A w' m (St.new words)∧∀ x,A x→w.heap.size≤x :=
 (new_m h hb words).mono fun e w' ⟨hf,hm⟩=>by
  rw [if_pos hv] at hm;obtain ⟨m,A,rfl,hI,hA⟩:=hm;exact ⟨m,A,rfl,hf,hI,hA⟩
theorem new_no {base:Nat} {P:Pr} {w:World} {v:Value} (h:PrAt base P w v) (hb:base≤w.heap.size) (hv:¬ validS P=true) (words:Int) :
 Calls Tryz.prog 8 #[v,.int .i64 words] w fun e w'=>e=.returned (.tuple #[.pointer none,.int .i64 30])∧Fr Non w w' :=
 (new_m h hb words).mono fun e w' ⟨hf,hm⟩=>by
  rw [if_neg hv] at hm;exact ⟨hm,hf⟩
theorem works03_c (w:World):Calls Tryz.prog 6 #[] w fun e w'=>e=.returned (.bool true)∧Fr Non w w':=by
 go_enter Tryz.func6,Tryz.ntmps6
 go_wp2_with fail
 refine (tiny_c _).mono ?_;rintro e1 w1 ⟨v,rfl,hP,hf1⟩;have HF1:=Lib.hid hf1;clear hf1;have hN:=new_ok hP (Nat.le_refl _) tiny_valid 9;have HN:=Lib.hid hN;clear hN hP;go_wp2_with fail
 refine HN.out.mono ?_;rintro e2 w2 ⟨m,A,rfl,hf2,hI,hA⟩;have hs2:=hf2.size;have hs1:=HF1.out.size;have hX:Fr (fun x=>w.heap.size≤x) w w2:=(HF1.out.trans hf2).mono fun _ _ h=>h.elim;have hAw:∀ x,A x→w.heap.size≤x:=fun x hx=>by have:=hA x hx;omega
 have hlt:=hI.lt;have hst:=start_i hI (by show (0:Nat)<1000000;decide) 0 [] (valid_args tiny_valid) none 0 (fun i n h=>by simp at h);rw [tiny_start] at hst;have HS:=Lib.hid hst;have HX:=Lib.hid (And.intro hX (And.intro hAw hlt));clear hI hA hf2 hst hX hAw hlt;go_wp2_with fail
 refine HS.out.mono ?_;rintro e3 w3 ⟨rfl,A3,hI3,hA3,hF3⟩;have hs3:=hF3.size;have hlt3:=hI3.lt;have H3:=Lib.hid (And.intro hI3 (And.intro (HX.out.1.then hF3 fun x hx e=>HX.out.2.1 x e) (And.intro (show ∀ x,A3 x→w.heap.size≤x from fun x hx=>by rcases hA3 x hx with h|h;exact HX.out.2.1 x h;omega) hlt3)));clear hI3 hA3 hF3 HS HX hlt3;go_wp2_with fail
 have hfW:Fr Non w3 ((w3.alloc (.cells #[.bool true,.int .i64 1,.int .i64 0] 40)).alloc (.cells #[.int .i64 2,.int .i64 0] 44)):=by exact fx
 have r3:Row ((w3.alloc (.cells #[.bool true,.int .i64 1,.int .i64 0] 40)).alloc (.cells #[.int .i64 2,.int .i64 0] 44)) w3.heap.size 40 [.bool true,.int .i64 1,.int .i64 0]:=(Row.new' rfl).alloc _;have r4:Row ((w3.alloc (.cells #[.bool true,.int .i64 1,.int .i64 0] 40)).alloc (.cells #[.int .i64 2,.int .i64 0] 44)) (w3.heap.size+1) 44 [.int .i64 2,.int .i64 0]:=Row.new' (by simp);have hsW:((w3.alloc (.cells #[.bool true,.int .i64 1,.int .i64 0] 40)).alloc (.cells #[.int .i64 2,.int .i64 0] 44)).heap.size=w3.heap.size+1+1:=by simp
 generalize ((w3.alloc (.cells #[.bool true,.int .i64 1,.int .i64 0] 40)).alloc (.cells #[.int .i64 2,.int .i64 0] 44))=V3 at *;have hPo:=poll_m (H3.out.1.frN hfW) (valid_good tiny_valid tiny_lab) true 1 0 1 50 tiny_few.1;rw [tiny_poll1.1] at hPo;simp only [tiny_poll1.2] at hPo;refine hPo.mono ?_;clear hPo;rintro e4 w4 ⟨rfl,A4,hI4,hA4,hF4⟩;have hs4:=hF4.size;have n3:¬ A3 w3.heap.size:=fun e=>by have:=H3.out.2.2.2 _ e;omega
 have n4:¬ A3 (w3.heap.size+1):=fun e=>by have:=H3.out.2.2.2 _ e;omega
 have r3:=hF4.row r3 n3;have r4:=hF4.row r4 n4;have m3:¬ A4 w3.heap.size:=fun e=>by rcases hA4 _ e with h|h;exact n3 h;omega
 have m4:¬ A4 (w3.heap.size+1):=fun e=>by rcases hA4 _ e with h|h;exact n4 h;omega
 have H4:=Lib.hid (And.intro hI4 (And.intro (H3.out.2.1.then ((hfW.mono fun _ _ h=>h.elim:Fr A3 w3 V3).trans hF4) fun x hx e=>H3.out.2.2.1 x e) (And.intro (show ∀ x,A4 x→w.heap.size≤x from fun x hx=>by rcases hA4 x hx with h|h;exact H3.out.2.2.1 x h;omega) (And.intro hI4.lt (And.intro m3 (And.intro m4 r4))))));generalize w3.heap.size=g3 at *;obtain ⟨q0,q1,q2,qz⟩:=row3 r3;have lt3:=r3.lt;have ne3:¬ g3=w4.heap.size:=by omega
 clear hI4 hA4 hF4 H3 n3 n4 m3 m4 r4 hfW hsW;go_wp2_with fail
 have hfW:Fr Non w4 (w4.alloc (.cells #[.int .i64 0,.int .i64 7] 44)):=by exact fx
 have r3:=hfW.row r3 id;have r4:=hfW.row H4.out.2.2.2.2.2.2 id;have r5:Row (w4.alloc (.cells #[.int .i64 0,.int .i64 7] 44)) w4.heap.size 44 [.int .i64 0,.int .i64 7]:=Row.new' rfl;have hsW:(w4.alloc (.cells #[.int .i64 0,.int .i64 7] 44)).heap.size=w4.heap.size+1:=by simp
 generalize (w4.alloc (.cells #[.int .i64 0,.int .i64 7] 44))=V4 at *;have hPo:=poll_m (H4.out.1.frN hfW) (valid_good tiny_valid tiny_lab) true 1 0 1 50 tiny_few.2.1;rw [tiny_poll2] at hPo;refine hPo.mono ?_;clear hPo q0 q1 q2 qz;generalize tiny3.fuel=fu3;rintro e5 w5 ⟨rfl,A5,hI5,hA5,hF5⟩;have hs5:=hF5.size;have hl4:=H4.out.2.2.2.1;have n5:¬ A4 w4.heap.size:=fun e=>by have:=hl4 _ e;omega
 have r3:=hF5.row r3 H4.out.2.2.2.2.1;have r4:=hF5.row r4 H4.out.2.2.2.2.2.1;have r5:=hF5.row r5 n5;have lt3:=r3.lt;have lt4:=r4.lt;have k3:g3<w4.heap.size:=by omega
 have m3:¬ A5 g3:=fun e=>by rcases hA5 _ e with h|h;exact H4.out.2.2.2.2.1 h;omega
 have m4:¬ A5 (g3+1):=fun e=>by rcases hA5 _ e with h|h;exact H4.out.2.2.2.2.2.1 h;omega
 have m5:¬ A5 w4.heap.size:=fun e=>by rcases hA5 _ e with h|h;exact n5 h;omega
 have H5:=Lib.hid (And.intro hI5 (And.intro (H4.out.2.1.then ((hfW.mono fun _ _ h=>h.elim:Fr A4 w4 V4).trans hF5) fun x hx e=>H4.out.2.2.1 x e) (And.intro (show ∀ x,A5 x→w.heap.size≤x from fun x hx=>by rcases hA5 x hx with h|h;exact H4.out.2.2.1 x h;omega) (And.intro hI5.lt (And.intro m3 (And.intro m4 (And.intro m5 (And.intro r4 r5))))))));generalize w4.heap.size=g4 at *;obtain ⟨q0,q1,q2,qz⟩:=row3 r3;have ne3:¬ g3=w5.heap.size:=by omega
 clear hI5 hA5 hF5 H4 n5 m3 m4 m5 r4 r5 hfW hsW hl4;go_wp2_with fail
 have hfW:Fr Non w5 (w5.alloc (.cells #[.int .i64 2,.int .i64 8] 44)):=by exact fx
 have r4:=hfW.row H5.out.2.2.2.2.2.2.2.1 id;have r5:=hfW.row H5.out.2.2.2.2.2.2.2.2 id;have r7:Row (w5.alloc (.cells #[.int .i64 2,.int .i64 8] 44)) w5.heap.size 44 [.int .i64 2,.int .i64 8]:=Row.new' rfl;have hsW:(w5.alloc (.cells #[.int .i64 2,.int .i64 8] 44)).heap.size=w5.heap.size+1:=by simp
 generalize (w5.alloc (.cells #[.int .i64 2,.int .i64 8] 44))=V5 at *;have hPo:=cancel_m (H5.out.1.frN hfW) (valid_good tiny_valid tiny_lab) true 1 0 1 50 tiny_few.2.2;rw [tiny_cancel] at hPo;refine hPo.mono ?_;clear hPo q0 q1 q2 qz;generalize tiny4.fuel=fu4;rintro e6 w6 ⟨rfl,A6,hI6,hA6,hF6⟩;have hs6:=hF6.size;have hl5:=H5.out.2.2.2.1;have n7:¬ A5 w5.heap.size:=fun e=>by have:=hl5 _ e;omega
 have r4:=hF6.row r4 H5.out.2.2.2.2.2.1;have r5:=hF6.row r5 H5.out.2.2.2.2.2.2.1;have r7:=hF6.row r7 n7;have hfin:Fr (fun x=>w.heap.size≤x) w w6:=H5.out.2.1.then ((hfW.mono fun _ _ h=>h.elim:Fr A5 w5 V5).trans hF6) fun x hx e=>H5.out.2.2.1 x e;have hlv:=Lib.hid fun w7 (f:Fr Non w6 w7)=>live_m (hI6.frN f);rw [tiny_live] at hlv;have H6:=Lib.hid hfin;generalize w5.heap.size=g5 at *;obtain ⟨a0,a1,az⟩:=row2 r4;obtain ⟨b0,b1,bz⟩:=row2 r5;obtain ⟨c0,c1,cz⟩:=row2 r7;have lt4:=r4.lt;have lt5:=r5.lt;have lt7:=r7.lt;have k4:¬ g3+1=w6.heap.size:=by omega
 have k5:¬ g4=w6.heap.size:=by omega
 have k7:¬ g5=w6.heap.size:=by omega
 clear hI6 hA6 hF6 H5 n7 r3 r4 r5 r7 hfW hsW hl5 hfin;go_wp2_with fail
 refine (hlv.out _ (by exact fx)).mono ?_;rintro e7 w7 ⟨rfl,hf7⟩;have H7:=Lib.hid (show Fr Non w w7 from ((H6.out.then (by exact Fr.trans (by exact fx) hf7:Fr Non w6 w7) fun _ _ h=>h.elim).mono fun x hx h=>by omega));clear hf7;go_wp2_with fail
 go_ret
 exact ⟨rfl,H7.out⟩
end Go.Proofs.YtlbomnbpahmphaaGreat
