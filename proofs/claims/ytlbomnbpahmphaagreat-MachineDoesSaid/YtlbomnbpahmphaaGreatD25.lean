/- The plain law: all words of a machine are numbers of 64 bits. Condition: so are the program's constants. -/
import Derived.Test.YtlbomnbpahmphaaGreatD11
import Derived.Test.YtlbomnbpahmphaaGreatD02
set_option maxRecDepth 100000
set_option maxHeartbeats 1000000
namespace Go.Proofs.YtlbomnbpahmphaaGreat
def I64 (n:Int):Prop:=-9223372036854775808≤n∧n≤9223372036854775807
def Wd.ok (x:Wd):Prop:=I64 x.n
def Mem.fits (M:Mem):Prop:=∀ b∈M.blocks,∀ x∈b.words,x.ok
def Cl.fits (c:Cl):Prop:=∀ x∈c.regs,x.ok
theorem wrap_ok (n:Int):I64 (IntKind.i64.wrap n):=by
 have h1:=Int.emod_nonneg n (show (18446744073709551616:Int)≠0 by decide);have h2:=Int.emod_lt_of_pos n (show (0:Int)<18446744073709551616 by decide);have e1:(2:Int) ^ 64=18446744073709551616:=by decide
 have e2:(2:Int) ^ (64 - 1)=9223372036854775808:=by decide
 unfold I64;simp only [IntKind.wrap,IntKind.signed,IntKind.bits,Bool.true_and,decide_eq_true_eq,e1,e2];split <;> omega
theorem zero_ok:Wd.zero.ok:=by simp [Wd.ok,I64,Wd.zero]
theorem num_ok {n:Int} (h:I64 n):(num n).ok:=h
theorem off_ok {p:Wd} (h:p.ok) (n:Int):(offS p n).ok:=by
 unfold offS;split
 · exact wrap_ok _
 · exact h
theorem moff_ok (p:Wd) (n:Int):(moffS p n).1.ok:=by
 unfold moffS;split
 · exact wrap_ok _
 · exact zero_ok
theorem off_zero {p:Wd} (h:p.ok):offS p 0=p:=by
 unfold offS;split
 · rename_i hp;rw [Int.add_zero,IntWalk.i64_in _ h,← hp]
 · rfl
theorem bit_ok (b:Bool):I64 (bitS b):=by cases b <;> simp [bitS,I64]
theorem reckon_ok (op a b:Int):I64 (reckonS op a b).1:=by
 unfold reckonS;split
 · exact wrap_ok _
 · split
   · exact wrap_ok _
   · unfold mulS;simp only;split <;> exact wrap_ok _
section
variable {M:Mem} {P:Pr} {c:Cl} {x:Wd}
theorem blk_fits (h:M.fits) (a:Int):∀ x∈(M.blk a).words,x.ok:=by
 unfold Mem.blk;rw [List.getD_eq_getElem?_getD];cases hb:M.blocks[(a - 1).toNat]? with
 | none=>intro x hx;cases hx
 | some b=>exact h b (List.mem_of_getElem? hb)
theorem put_fits (h:M.fits) {b:Blk} (hb:∀ x∈b.words,x.ok) (k:Nat):(M.put k b).fits:=fun d hd=>by
 rcases List.mem_or_eq_of_mem_set hd with hd|rfl
 · exact h d hd
 · exact hb
theorem getD_ok {l:List Wd} (h:∀ x∈l,x.ok) (i:Nat):(l.getD i Wd.zero).ok:=by
 rw [List.getD_eq_getElem?_getD];cases hb:l[i]? with
 | none=>exact zero_ok
 | some b=>exact h b (List.mem_of_getElem? hb)
theorem load_ok (h:M.fits) (p:Wd):(M.load p).1.ok:=by
 unfold Mem.load;split
 · exact zero_ok
 · split
   · exact zero_ok
   · exact getD_ok (blk_fits h _) _
theorem set_ok {l:List Wd} (h:∀ x∈l,x.ok) (hx:x.ok) (i:Nat):∀ y∈l.set i x,y.ok:=fun y hy=>by
 rcases List.mem_or_eq_of_mem_set hy with hy|rfl
 · exact h y hy
 · exact hx
theorem store_fits (h:M.fits) (hx:x.ok) (p:Wd):(M.store p x).1.fits:=by
 unfold Mem.store;split
 · exact h
 · exact put_fits h (set_ok (blk_fits h _) hx _) _
theorem clear_fits (h:M.fits) (p:Wd) (n:Int):(M.clear p n).1.fits:=by
 unfold Mem.clear;split
 · exact h
 · split
   · exact h
   · exact put_fits h (b:=(M.blk p.a).clear _ _) (blk_fits h _) _
theorem free_fits (h:M.fits) (p:Wd):(M.free p).1.fits:=by
 unfold Mem.free;split
 · exact h
 · split
   · exact h
   · exact put_fits h (fun x hx=>by cases hx) _
theorem alloc_fits (h:M.fits) (n:Int):(M.alloc n).1.fits∧(M.alloc n).2.1.ok:=by
 unfold Mem.alloc;split
 · exact ⟨h,zero_ok⟩
 · split
   · exact ⟨h,zero_ok⟩
   · refine ⟨fun b hb=>?_,by simp [Wd.ok,I64]⟩;rcases List.mem_append.1 hb with hb|hb
     · exact h b hb
     · rw [List.mem_singleton] at hb;subst hb;intro x hx;rw [(List.mem_replicate.1 hx).2];exact zero_ok
theorem reads_ok (h:M.fits) (p:Wd):∀ k:Nat,∀ x∈(M.reads p k).1,x.ok
 | 0=>fun x hx=>by cases hx
 | k+1=>by
  have ih:=reads_ok h p k;rw [Mem.reads];split
  · exact ih
  · split
    · exact ih
    · intro x hx;rcases List.mem_append.1 hx with hx|hx
      · exact ih x hx
      · rw [List.mem_singleton] at hx;subst hx;exact load_ok h _
theorem copy_fits (h:M.fits) (p q:Wd) (n:Int):(M.copy p q n).1.fits:=by
 unfold Mem.copy;split
 · exact h
 · split
   · exact h
   · split
     · exact h
     · refine put_fits h (fun x hx=>?_) _;rcases List.mem_append.1 hx with hx|hx
       · exact blk_fits h _ x (List.mem_of_mem_take hx)
       · rcases List.mem_append.1 hx with hx|hx
         · exact reads_ok h _ _ x hx
         · exact blk_fits h _ x (List.mem_of_mem_drop hx)
theorem frame_fits (h:M.fits) {co:Int} (hc:I64 co):(frameS P M co).1.fits∧(frameS P M co).2.1.ok:=by
 obtain ⟨h1,h2⟩:=alloc_fits h (P.co co).words;unfold frameS;split
 · exact ⟨h1,zero_ok⟩
 · exact ⟨store_fits (store_fits h1 (num_ok (by simp [I64])) _) (num_ok hc) _,h2⟩
theorem args_fits (p:Wd):∀ (l:List Int) (i:Nat) (M:Mem),M.fits→(∀ n∈l,I64 n)→(argsS M p i l).fits
 | [],_,_,h,_=>h
 | n :: l,i,_M,h,hl=>args_fits p l (i+1) _ (store_fits h (num_ok (hl n List.mem_cons_self)) _) fun m hm=>hl m (List.mem_cons_of_mem _ hm)
theorem reg_ok (h:c.fits) (i:Int):(c.reg i).ok:=getD_ok h _
theorem Cl.fits.put (h:c.fits) (hx:x.ok) (i:Int):(c.put i x).fits:=set_ok h hx _
theorem ite_c {α:Type} {C:α→Prop} {p:Prop} [Decidable p] {a b:α} (h1:p→C a) (h2:¬ p→C b):C (if p then a else b):=by
 by_cases h:p
 · rw [if_pos h];exact h1 h
 · rw [if_neg h];exact h2 h
theorem words_fit (hM:M.fits) (hc:c.fits) (hf:c.frame.ok) {x:In} (hb:I64 x.b):(wordsS P M c x).1.fits∧(wordsS P M c x).2.1.fits:=by
 unfold wordsS;refine ite_c (C:=fun r:Mem × Cl × Int=>r.1.fits∧r.2.1.fits) (fun _=>⟨hM,hc.put (num_ok hb) _⟩) fun _=>?_;refine ite_c (C:=fun r:Mem × Cl × Int=>r.1.fits∧r.2.1.fits) (fun _=>⟨hM,hc.put (off_ok hf _) _⟩) fun _=>?_;refine ite_c (C:=fun r:Mem × Cl × Int=>r.1.fits∧r.2.1.fits) (fun _=>⟨hM,hc.put (moff_ok _ _) _⟩) fun _=>?_;refine ite_c (C:=fun r:Mem × Cl × Int=>r.1.fits∧r.2.1.fits) (fun _=>⟨hM,hc.put (load_ok hM _) _⟩) fun _=>?_;refine ite_c (C:=fun r:Mem × Cl × Int=>r.1.fits∧r.2.1.fits) (fun _=>⟨store_fits hM (reg_ok hc _) _,hc⟩) fun _=>?_;refine ite_c (C:=fun r:Mem × Cl × Int=>r.1.fits∧r.2.1.fits) (fun _=>⟨copy_fits hM _ _ _,hc⟩) fun _=>?_;refine ite_c (C:=fun r:Mem × Cl × Int=>r.1.fits∧r.2.1.fits) (fun _=>ite_c (C:=fun r:Mem × Cl × Int=>r.1.fits∧r.2.1.fits) (fun _=>⟨copy_fits hM _ _ _,hc⟩) fun _=>⟨clear_fits (copy_fits hM _ _ _) _ _,hc⟩) fun _=>?_;refine ite_c (C:=fun r:Mem × Cl × Int=>r.1.fits∧r.2.1.fits) (fun _=>⟨clear_fits hM _ _,hc⟩) fun _=>?_;refine ite_c (C:=fun r:Mem × Cl × Int=>r.1.fits∧r.2.1.fits) (fun _=>⟨(alloc_fits hM _).1,hc.put (alloc_fits hM _).2 _⟩) fun _=>?_;refine ite_c (C:=fun r:Mem × Cl × Int=>r.1.fits∧r.2.1.fits) (fun _=>⟨free_fits hM _,hc⟩) fun _=>?_;refine ite_c (C:=fun r:Mem × Cl × Int=>r.1.fits∧r.2.1.fits) (fun _=>⟨(frame_fits hM hb).1,hc.put (frame_fits hM hb).2 _⟩) fun _=>?_;exact ⟨hM,hc⟩
end
theorem wrap_cases (n:Int):∃ k:Int,IntKind.i64.wrap n=n - k * 18446744073709551616:=by
 have e1:(2:Int) ^ 64=18446744073709551616:=by decide
 have e2:(2:Int) ^ (64 - 1)=9223372036854775808:=by decide
 simp only [IntKind.wrap,IntKind.signed,IntKind.bits,Bool.true_and,decide_eq_true_eq,e1,e2];have:=Int.mul_ediv_add_emod n 18446744073709551616;split
 · exact ⟨n / 18446744073709551616+1,by omega⟩
 · exact ⟨n / 18446744073709551616,by omega⟩
theorem add_flag {a b:Int} (ha:I64 a) (hb:I64 b):((decide (IntKind.i64.wrap (a+b) > a) == decide (b > 0)) || b == 0)=(addS a b).2:=by
 unfold I64 at ha hb;have h0:=wrap_ok (a+b);obtain ⟨k,hk⟩:=wrap_cases (a+b);unfold I64 at h0;unfold addS;rw [hk] at h0 ⊢;simp only;have hk1:k=0∨k=1∨k = -1:=by omega
 by_cases hb0:b=0
 · subst hb0;have:k=0:=by omega
   subst this;simp
 · have e0:(b == 0)=false:=beq_false_of_ne hb0;rw [e0,Bool.or_false];by_cases h1:a+b - k * 18446744073709551616<a
   · rw [decide_eq_true h1,decide_eq_false (show ¬ a+b - k * 18446744073709551616 > a by omega)];by_cases h2:b<0
     · rw [decide_eq_true h2,decide_eq_false (show ¬ b > 0 by omega)];rfl
     · rw [decide_eq_false h2,decide_eq_true (show b > 0 by omega)];rfl
   · rw [decide_eq_false h1,decide_eq_true (show a+b - k * 18446744073709551616 > a by omega)];by_cases h2:b<0
     · rw [decide_eq_true h2,decide_eq_false (show ¬ b > 0 by omega)];rfl
     · rw [decide_eq_false h2,decide_eq_true (show b > 0 by omega)];rfl
theorem sub_flag {a b:Int} (ha:I64 a) (hb:I64 b):((decide (IntKind.i64.wrap (a - b)<a) == decide (b > 0)) || b == 0)=(subS a b).2:=by
 unfold I64 at ha hb;have h0:=wrap_ok (a - b);obtain ⟨k,hk⟩:=wrap_cases (a - b);unfold I64 at h0;unfold subS;rw [hk] at h0 ⊢;simp only;by_cases hb0:b=0
 · subst hb0;have:k=0:=by omega
   subst this;simp
 · have e0:(b == 0)=false:=beq_false_of_ne hb0;rw [e0,Bool.or_false];by_cases h1:a - b - k * 18446744073709551616<a
   · rw [decide_eq_true h1,decide_eq_false (show ¬ a<a - b - k * 18446744073709551616 by omega)];by_cases h2:b<0
     · rw [decide_eq_true h2,decide_eq_false (show ¬ b > 0 by omega)];rfl
     · rw [decide_eq_false h2,decide_eq_true (show b > 0 by omega)];rfl
   · rw [decide_eq_false h1,decide_eq_true (show a<a - b - k * 18446744073709551616 by omega)];by_cases h2:b<0
     · rw [decide_eq_true h2,decide_eq_false (show ¬ b > 0 by omega)];rfl
     · rw [decide_eq_false h2,decide_eq_true (show b > 0 by omega)];rfl
theorem size_abs {a:Int} (ha:I64 a):(sizeS a).toNat=a.natAbs:=by
 unfold I64 at ha;unfold sizeS;by_cases h:a<0
 · rw [if_pos h]
   have h1:IntKind.u64.wrap a=a+18446744073709551616:=by
    simp [IntKind.wrap,IntKind.signed,IntKind.bits];omega
   rw [h1]
   have h2:IntKind.u64.wrap (-(a+18446744073709551616)) = -a:=by
    simp [IntKind.wrap,IntKind.signed,IntKind.bits];omega
   rw [h2];omega
 · rw [if_neg h]
   have h1:IntKind.u64.wrap a=a:=by
    simp [IntKind.wrap,IntKind.signed,IntKind.bits];omega
   rw [h1];omega
theorem mul_is {a b:Int} (ha:I64 a) (hb:I64 b):((mulS a b).2=true ↔ I64 (a * b))∧((mulS a b).2=true→(mulS a b).1=a * b):=by
 have h1:=size_abs ha;have h2:=size_abs hb;unfold mulS;simp only [h1,h2];have hp:a.natAbs * b.natAbs=(a * b).natAbs:=(Int.natAbs_mul a b).symm;rw [hp]
 have hs:(0≤a * b∧(decide (a<0) != decide (b<0))=false)∨(a * b≤0∧(decide (a<0) != decide (b<0))=true):=by
  by_cases h3:a<0
  · by_cases h4:b<0
    · left;exact ⟨Int.le_of_lt (Int.mul_pos_of_neg_of_neg h3 h4),by simp [h3,h4]⟩
    · right;exact ⟨Int.mul_nonpos_of_nonpos_of_nonneg (by omega) (by omega),by simp [h3,h4]⟩
  · by_cases h4:b<0
    · right;exact ⟨Int.mul_nonpos_of_nonneg_of_nonpos (by omega) (by omega),by simp [h3,h4]⟩
    · left;exact ⟨Int.mul_nonneg (by omega) (by omega),by simp [h3,h4]⟩
 generalize a * b=p at *;have hdm:=Nat.div_add_mod p.natAbs 18446744073709551616;have hml:=Nat.mod_lt p.natAbs (show 0<18446744073709551616 by decide);generalize p.natAbs / 18446744073709551616=hi at *;generalize p.natAbs % 18446744073709551616=lo at *;unfold I64;rcases hs with ⟨hs1,hs2⟩|⟨hs1,hs2⟩
 · rw [hs2];simp only [Bool.false_eq_true,if_false,Bool.and_eq_true,beq_iff_eq,decide_eq_true_eq];refine ⟨by constructor <;> intro h <;> omega,fun h=>?_⟩;rw [IntWalk.i64_in _ (by omega)];omega
 · rw [hs2];simp only [if_true,Bool.and_eq_true,beq_iff_eq,decide_eq_true_eq];refine ⟨by constructor <;> intro h <;> omega,fun h=>?_⟩
   have hu:IntKind.u64.wrap (-(lo:Int))=if lo=0 then 0 else 18446744073709551616 - (lo:Int):=by
    simp [IntKind.wrap,IntKind.signed,IntKind.bits];split <;> omega
   rw [hu];by_cases h0:lo=0
   · rw [if_pos h0,IntWalk.i64_in _ (by omega)];omega
   · rw [if_neg h0]
     have:IntKind.i64.wrap (18446744073709551616 - (lo:Int)) = -(lo:Int):=by
      have e1:(2:Int) ^ 64=18446744073709551616:=by decide
      have e2:(2:Int) ^ (64 - 1)=9223372036854775808:=by decide
      simp only [IntKind.wrap,IntKind.signed,IntKind.bits,Bool.true_and,decide_eq_true_eq,e1,e2];split <;> omega
     rw [this];omega
theorem div_in {n b:Int} (hn:I64 n) (hb0:b≠0) (hno:b = -1→n≠-9223372036854775808):I64 (n.tdiv b):=by
 unfold I64 at *;have h1:(n.tdiv b).natAbs=n.natAbs / b.natAbs:=Int.natAbs_tdiv n b;have h2:n.natAbs / b.natAbs≤n.natAbs:=Nat.div_le_self _ _;by_cases hb1:b=1
 · subst hb1;rw [Int.tdiv_one];exact hn
 · by_cases hb2:b = -1
   · subst hb2;have:=hno rfl;rw [Int.tdiv_neg,Int.tdiv_one];omega
   · have h3:n.natAbs / b.natAbs≤n.natAbs / 2:=Nat.div_le_div_left (by omega) (by omega);omega
theorem mul_flag {a b:Int} (ha:I64 a) (hb:I64 b) (hb0:b≠0) (hno:¬ (b = -1∧a = -9223372036854775808)) :
 (IntKind.i64.wrap ((IntKind.i64.wrap (a * b)).tdiv b) == a)=(mulS a b).2∧((mulS a b).2=true→IntKind.i64.wrap (a * b)=(mulS a b).1):=by
 obtain ⟨h1,h2⟩:=mul_is ha hb
 have hdi:I64 ((IntKind.i64.wrap (a * b)).tdiv b):=div_in (wrap_ok _) hb0 fun e=>by
  subst e;have hne:a≠-9223372036854775808:=fun e=>hno ⟨rfl,e⟩;unfold I64 at ha;rw [IntWalk.i64_in _ (by omega)];omega
 rw [IntWalk.i64_in _ hdi];by_cases h:I64 (a * b)
 · have hw:IntKind.i64.wrap (a * b)=a * b:=IntWalk.i64_in _ h;rw [hw,h1.2 h];refine ⟨by rw [Int.mul_tdiv_cancel _ hb0];simp,fun e=>(h2 (h1.2 h)).symm⟩
 · have hf:(mulS a b).2=false:=by
    cases hm:(mulS a b).2 with
    | false=>rfl
    | true=>exact absurd (h1.1 hm) h
   rw [hf];refine ⟨?_,fun e=>by cases e⟩;refine beq_false_of_ne fun e=>h ?_;obtain ⟨k,hk⟩:=wrap_cases (a * b);have hwr:=wrap_ok (a * b);have hq:=Int.mul_tdiv_add_tmod (IntKind.i64.wrap (a * b)) b;rw [e] at hq
   have hr:((IntKind.i64.wrap (a * b)).tmod b).natAbs<b.natAbs:=by
    have:=Int.natAbs_tmod (IntKind.i64.wrap (a * b)) b;rw [this];exact Nat.mod_lt _ (by omega)
   generalize (IntKind.i64.wrap (a * b)).tmod b=t at *;rw [Int.mul_comm b a] at hq;unfold I64 at *;generalize a * b=p at *;have:k=0:=by omega
   subst this;omega
theorem mul_edge {a b:Int} (h:(a = -1∧b = -9223372036854775808)∨(b = -1∧a = -9223372036854775808)):(mulS a b).2=false:=by
 rcases h with ⟨rfl,rfl⟩|⟨rfl,rfl⟩ <;> decide
theorem mul_zero' {a b:Int} (ha:I64 a) (hb:I64 b) (h:a=0∨b=0):mulS a b=(0,true):=by
 obtain ⟨h1,h2⟩:=mul_is ha hb;have h0:a * b=0:=by rcases h with rfl|rfl <;> simp
 rw [h0] at h1 h2;have h3:=h1.2 (by simp [I64]);exact Prod.ext (h2 h3) h3
end Go.Proofs.YtlbomnbpahmphaaGreat
namespace Go.Proofs.YtlbomnbpahmphaaGreat
open Go.RowKit
def outR (e:Int):Int × Int:=if e=10 then (5,0) else (6,e)
theorem nnum_c (w:World) (n:Int):Calls Tryz.prog 45 #[.int .i64 n] w fun e w'=>e=.returned (.agg #[.bool false,.int .i64 0,.int .i64 n])∧Fr Non w w':=by
 go_enter Tryz.func45,Tryz.ntmps45
 go_wp2
 exact bodyPost_ret (v:=.agg #[.bool false,.int .i64 0,.int .i64 n]) (by simp [results,Tryz.results45,go_sem]) rfl ⟨rfl,fx⟩
theorem noff_c (w:World) (p:Bool) (a n k:Int):Calls Tryz.prog 44 #[.agg #[.bool p,.int .i64 a,.int .i64 n],.int .i64 k] w fun e w'=>e=.returned (.agg #[.bool p,.int .i64 a,.int .i64 (wrap64 (n+k))])∧Fr Non w w':=by
 go_enter Tryz.func44,Tryz.ntmps44
 go_wp2
 exact bodyPost_ret (v:=.agg #[.bool p,.int .i64 a,.int .i64 (wrap64 (n+k))]) (by simp [results,Tryz.results44,go_sem]) rfl ⟨rfl,fx⟩
theorem nout_c (w:World) (n:Int):Calls Tryz.prog 52 #[.int .i64 n] w fun e w'=>e=.returned (.tuple #[.int .i64 (outR n).1,.int .i64 (outR n).2])∧Fr Non w w':=by
 unfold outR;by_cases h:n=10
 · subst h;rw [if_pos rfl];go_enter Tryz.func52,Tryz.ntmps52
   go_wp2
   go_ret2
   exact ⟨rfl,by exact fx⟩
 · have hb:(n == 10)=false:=beq_false_of_ne h;rw [if_neg h];go_enter Tryz.func52,Tryz.ntmps52
   go_wp2
   go_ret2
   exact ⟨rfl,by exact fx⟩
theorem nbit_c (w:World) (b:Bool):Calls Tryz.prog 110 #[.bool b] w fun e w'=>e=.returned (.int .i64 (bitS b))∧Fr Non w w':=by
 cases b
 all_goals go_enter Tryz.func110,Tryz.ntmps110
 all_goals go_wp2
 all_goals go_ret
 all_goals exact ⟨rfl,by exact fx⟩
theorem nreckon_add (w:World) (a b:Int) (ha:I64 a) (hb:I64 b):Calls Tryz.prog 109 #[.int .i64 8,.int .i64 a,.int .i64 b] w fun e w'=>e=.returned (.tuple #[.int .i64 (addS a b).1,.bool (addS a b).2])∧Fr Non w w':=by
 have hf:=add_flag ha hb;have hv:(addS a b).1=wrap64 (a+b):=IntWalk.i64_left _;rw [IntWalk.i64_left] at hf;rw [← hf,hv];clear hf hv ha hb;by_cases hc:a<wrap64 (a+b) ↔ 0<b
 · have e:(decide (wrap64 (a+b) > a) == decide (b > 0))=true:=by simp [hc]
   rw [e,Bool.true_or];clear e;go_enter Tryz.func109,Tryz.ntmps109
   go_wp2_with fail
   go_ret2
   exact ⟨rfl,by exact fx⟩
 · go_enter Tryz.func109,Tryz.ntmps109
   go_wp2_with fail
   go_ret2
   exact ⟨rfl,by exact fx⟩
theorem nreckon_sub (w:World) (a b:Int) (ha:I64 a) (hb:I64 b):Calls Tryz.prog 109 #[.int .i64 9,.int .i64 a,.int .i64 b] w fun e w'=>e=.returned (.tuple #[.int .i64 (subS a b).1,.bool (subS a b).2])∧Fr Non w w':=by
 have hf:=sub_flag ha hb;have hv:(subS a b).1=wrap64 (a - b):=IntWalk.i64_left _;rw [IntWalk.i64_left] at hf;rw [← hf,hv];clear hf hv ha hb;by_cases hc:wrap64 (a - b)<a ↔ 0<b
 · have e:(decide (wrap64 (a - b)<a) == decide (b > 0))=true:=by simp [hc]
   rw [e,Bool.true_or];clear e;go_enter Tryz.func109,Tryz.ntmps109
   go_wp2_with fail
   go_ret2
   exact ⟨rfl,by exact fx⟩
 · go_enter Tryz.func109,Tryz.ntmps109
   go_wp2_with fail
   go_ret2
   exact ⟨rfl,by exact fx⟩
theorem nreckon_mul (w:World) (op a b:Int) (h8:¬ op=8) (h9:¬ op=9) (ha:I64 a) (hb:I64 b):Calls Tryz.prog 109 #[.int .i64 op,.int .i64 a,.int .i64 b] w fun e w'=>∃ v,e=.returned (.tuple #[.int .i64 v,.bool (mulS a b).2])∧((mulS a b).2=true→v=(mulS a b).1)∧Fr Non w w':=by
 have g8:(op == 8)=false:=beq_false_of_ne h8;have g9:(op == 9)=false:=beq_false_of_ne h9;clear h8 h9;by_cases ha0:a=0
 · have hz:=mul_zero' ha hb (Or.inl ha0);rw [hz];subst ha0;clear hz ha hb;go_enter Tryz.func109,Tryz.ntmps109
   go_wp2_with fail
   all_goals go_ret2
   all_goals exact ⟨_,rfl,fun _=>rfl,by exact fx⟩
 have ga:(a == 0)=false:=beq_false_of_ne ha0;by_cases hb0:b=0
 · have hz:=mul_zero' ha hb (Or.inr hb0);rw [hz];subst hb0;clear hz ha hb ha0;go_enter Tryz.func109,Tryz.ntmps109
   go_wp2_with fail
   all_goals go_ret2
   all_goals exact ⟨_,rfl,fun _=>rfl,by exact fx⟩
 have gb:(b == 0)=false:=beq_false_of_ne hb0;by_cases hed:(a = -1∧b = -9223372036854775808)∨(b = -1∧a = -9223372036854775808)
 · have he:=mul_edge hed;rw [he];clear he ha hb ha0 hb0;rcases hed with ⟨rfl,rfl⟩|⟨rfl,rfl⟩
   all_goals go_enter Tryz.func109,Tryz.ntmps109
   all_goals go_wp2_with fail
   all_goals go_ret2
   all_goals exact ⟨_,rfl,fun e=>(by cases e),by exact fx⟩
 · have hm:=mul_flag ha hb hb0 (fun e=>hed (Or.inr e));simp only [IntWalk.i64_left] at hm;obtain ⟨hm1,hm2⟩:=hm
   have key:((a == -1)=false∨((a == -1)=true∧(b == -9223372036854775808)=false))∧((b == -1)=false∨((b == -1)=true∧(a == -9223372036854775808)=false)):=by
    simp only [beq_eq_false_iff_ne,beq_iff_eq,ne_eq];omega
   rw [← hm1];rw [← hm1] at hm2;have HM:=Lib.hid hm2;clear hm1 hm2 ha hb ha0 hed;rcases key with ⟨k1|⟨k1,k2⟩,k3|⟨k3,k4⟩⟩
   all_goals go_enter Tryz.func109,Tryz.ntmps109
   all_goals go_wp2_with fail
   all_goals go_quiet (fail)
   all_goals go_wp2_with fail
   all_goals go_ret2
   all_goals exact ⟨_,rfl,HM.out,by exact fx⟩
end Go.Proofs.YtlbomnbpahmphaaGreat
