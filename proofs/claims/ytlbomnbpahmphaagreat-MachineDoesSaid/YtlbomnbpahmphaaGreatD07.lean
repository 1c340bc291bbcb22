/- Walks: slices.Repeat over one 'true'. Condition: the count lies from 0 to 1048576. -/
import Derived.Test.YtlbomnbpahmphaaGreatD05
import Derived.Test.YtlbomnbpahmphaaGreatShelf
namespace Go.Proofs.YtlbomnbpahmphaaGreat
open Go.RowKit
set_option maxRecDepth 100000
set_option maxHeartbeats 1000000
theorem splice_rep (k n c:Nat) (hc:k+c≤n) :
 splice (List.replicate k (Value.bool true) ++ List.replicate (n - k) (Value.bool false)) k (List.replicate c (Value.bool true))=List.replicate (k+c) (Value.bool true) ++ List.replicate (n - (k+c)) (Value.bool false):=by
 unfold splice;rw [List.length_replicate,List.take_left' (by simp),List.drop_append,List.drop_of_length_le (by simp),List.length_replicate,List.drop_replicate,List.nil_append,← List.append_assoc,List.replicate_append_replicate]
 congr 2
 omega
theorem repeat_c (w:World) (b n:Nat) (hb:w.cell? ⟨b,0,none⟩=some (.bool true)) (hn:n≤1048576) :
 Calls Tryz.prog 140 #[.slice (some ⟨b,0,none⟩) 1 1,.int .i64 n] w fun e w'=>∃ g,e=.returned (.slice (some ⟨g,0,none⟩) n n)∧Row w' g 4 (List.replicate n (.bool true))∧w.heap.size≤g∧Fr Non w w':=by
 have hd0:decide ((n:Int)<0)=false:=decide_eq_false (by omega);have hM:=Lib.hid fun w1=>Tryz.bits_Mul 1 n (by omega) (by omega) w1;rw [Nat.one_mul,Nat.div_eq_of_lt (by omega),Nat.mod_eq_of_lt (by omega)] at hM;obtain ⟨j0,hj,hj0,hj1,hj2⟩:=info_parts Tryz.infoBool
 have hm2:∀ W:World,(Instr.makeSlice 64 (.int .i64 n) (.int .i64 n)).run Tryz.prog W=.ok (.slice (Option.some ⟨W.heap.size,0,none⟩) n n) (W.alloc (.cells (madeCells #[.bool false] (n * 1)) 4)):=by
  intro W;have:=run_make (P:=Tryz.prog) W 64 4 j0 _ Tryz.underlying64 hj hj0 .i64 .i64 (n:Int) (n:Int) (by omega) (by omega) (by rw [hj2];omega) (by omega);rw [hj1] at this
  simpa [Value.cells] using this
 have hZ:=madeCells_bool n;generalize madeCells #[.bool false] (n * 1)=zZ at *;have hb':=World.block_lt_of_cell? w _ hb;have HZ:=Lib.hid hZ;clear hZ;have h01:decide ((0:Int)<0)=false:=rfl;go_enter Tryz.func140,Tryz.ntmps140
 go_wp2_with fail
 refine (hM.out _).mono ?_;rintro e1 w ⟨rfl,rfl⟩;go_wp2_with fail
 have hr0:=Row.new w zZ 4;rw [HZ.out] at hr0
 obtain ⟨w1,hrun,hr1,hf1⟩:=run_copy (P:=Tryz.prog) (w:=w.alloc (.cells zZ 4)) 64 64 3 4 j0 1 Tryz.underlying64 hj hj1 (some ⟨w.heap.size,0,none⟩) (some ⟨b,0,none⟩) n n 1 1 (min 1 n) rfl
  w.heap.size 0 4 ((List.replicate n false).map Value.bool) (List.replicate (min 1 n) (.bool true)) hr0 (by simp) (fun hp=>⟨rfl,⟨b,0,none⟩,rfl,fun j v hv=>by
   have hj0:j=0:=by have:=(List.getElem?_eq_some_iff.1 hv).1;simp at this;omega
   subst hj0;have hv':v=.bool true:=by have:=List.mem_of_getElem? hv;exact List.eq_of_mem_replicate this
   rw [hv']
   simpa [Addr.add] using (World.cell?_alloc_lt w _ (a:=⟨b,0,none⟩) hb').trans hb⟩) (by simp;omega) (by simp [Value.oneCell']) (fun _=>⟨⟨_,rfl⟩,Or.inr ⟨_,rfl⟩⟩)
 rw [hrun]
 have hr2:Row w1 w.heap.size 4 (List.replicate (min 1 n) (.bool true) ++ List.replicate (n - min 1 n) (.bool false)):=by
  have:=splice_rep 0 n (min 1 n) (by omega);simp only [List.replicate_zero,List.nil_append,Nat.sub_zero,Nat.zero_add] at this;rw [List.map_replicate,this] at hr1;exact hr1
 have hf:Fr Non w w1:=((Fr.refl Non w).alloc _).then hf1 (fun x hx e=>absurd e (by omega));clear hrun hr1 hf1 hr0;have hm1:min 1 n≤n:=by omega
 have hm0:n=0∨1≤min 1 n:=by omega
 generalize min 1 n=m at *;have hgw:w.heap.size<w1.heap.size:=hr2.lt;generalize hg:w.heap.size=g at *;have HG:=Lib.hid hg;clear hg;have h0n:(0:Int)≤(n:Int):=by omega
 clear hM;go_wp2_with fail
 go_loopw [8] (fun v8 wr=>∃ k:Nat,k≤n∧(n=0∨1≤k)∧v8=.int .i64 k∧Row wr g 4 (List.replicate k (.bool true) ++ List.replicate (n - k) (.bool false))∧Fr Non w wr) (fun v8 _=>n - (intOf v8).toNat)
 case atStart=>exact ⟨m,hm1,hm0,rfl,hr2,hf⟩
 case round =>
  obtain ⟨k,hk,hk1,rfl,hrk,hfk⟩:=hrel;by_cases hlt:k<n
  · go_wp2_with fail
    have hne:¬ n=k:=by omega
    have hk0:(0:Int)≤(k:Int):=by omega
    have hkn:(k:Int)≤(n:Int):=by omega
    have hwr:IntKind.i64.wrap ((k:Int)+(min k (n - k):Nat))=(k:Int)+(min k (n - k):Nat):=IntWalk.i64_in _ (by omega);refine Mix.wp_region_mix [] [(0,0),(0,1),(0,2),(0,3),(0,4),(0,5),(0,6),(3,7),(0,8),(0,9)] (fun V=>∃ g,V=Mix.upon wr [] g) (by kernel_rfl) (by kernel_rfl) (Mix.cls_drew wr []) ?_;repeat (first|((first|refine Mix.qa ?_|refine Mix.qb ?_);intro K hK;simp only [nA,nB,nC];go_big_quiet_op;go_big_quiet_on)|refine Mix.qc ?_|refine Mix.qd ?_)
    refine Mix.S_late rfl rfl ?_;intro K hK;simp only [nA,nB,nC];refine wp_copy_row (.tmp 41) (.tmp 44) 64 64 rfl 4 j0 1 Tryz.underlying64 hj hj1 (some ⟨g,k,none⟩) (some ⟨g,0,none⟩) (n - k) (n - k) k n rfl rfl (min k (n - k)) rfl g k 4 _ (List.replicate (min k (n - k)) (.bool true)) hrk.drew (by simp) (fun _=>⟨rfl,⟨g,0,none⟩,rfl,fun j v hv=>?_⟩) (by simp;omega) (fun v hv=>by rw [List.eq_of_mem_replicate hv];rfl) (fun _=>⟨⟨_,rfl⟩,Or.inr ⟨_,rfl⟩⟩) ?_
    · have hj:=(List.getElem?_eq_some_iff.1 hv).1;simp at hj;have hv':v=.bool true:=by have:=List.mem_of_getElem? hv;exact List.eq_of_mem_replicate this
      rw [hv'];simp only [Addr.add,Nat.zero_add];rw [show (if j=0 then (⟨g,0,none⟩:Addr) else ⟨g,j,none⟩)=⟨g,j,none⟩ by split <;> simp_all];refine hrk.drew.cell (o:=j) (v:=.bool true) ?_;rw [List.getElem?_append_left (by simp;omega)];simp [show j<k by omega]
    intro w2 rz fz;rw [splice_rep k n _ (by omega)] at rz;have HR:=Lib.hid (And.intro rz fz);clear rz fz;refine hK _ _ ?_;clear hK K;simp only [Act.put,List.setIfInBounds_toArray,List.set_cons_succ,List.set_cons_zero];repeat (first|((first|refine Mix.qa ?_|refine Mix.qb ?_);intro K hK;simp only [nA,nB,nC];go_big_quiet_op;go_big_quiet_on)|refine Mix.qc ?_|refine Mix.qd ?_)
    refine Mix.S_done ?_;go_wp2
    go_roundw
    case rel=>
     obtain ⟨rz,fz⟩:=HR.out;exact ⟨k+min k (n - k),by omega,by omega,by simp,rz,(hfk.drew).then fz (fun x hx e=>absurd e (by have:=HG.out;omega))⟩
    case measure=>simp [intOf];omega
  · obtain rfl:k=n:=by omega
    go_wp2_with fail
    go_ret
    refine ⟨g,rfl,?_,Nat.le_of_eq HG.out,by exact fx⟩
    simpa using hrk
end Go.Proofs.YtlbomnbpahmphaaGreat
