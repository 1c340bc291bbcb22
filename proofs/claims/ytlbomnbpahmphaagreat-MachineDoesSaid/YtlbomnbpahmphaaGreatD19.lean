/- Walks: 'machine.New', where the code may be run, and where it may not. -/
import Derived.Carry
import Derived.Test.YtlbomnbpahmphaaGreatD08
import Derived.Test.YtlbomnbpahmphaaGreatD03
namespace Go.Proofs.YtlbomnbpahmphaaGreat
open Go.RowKit
set_option maxRecDepth 100000
set_option maxHeartbeats 400000
theorem new_bad (w:World) (fo:Option Addr) (fn fc:Nat) (co:Option Addr) (cn cc:Nat) (words:Int)
 (hV:∀ w1,Fr Non w w1→Calls Tryz.prog 31 #[.agg #[.slice fo fn fc,.slice co cn cc]] w1 fun e w'=>e=.returned (.bool false)∧Fr Non w1 w') :
 Calls Tryz.prog 8 #[.agg #[.slice fo fn fc,.slice co cn cc],.int .i64 words] w fun e w'=>e=.returned (.tuple #[.pointer none,.int .i64 30])∧Fr Non w w':=by
 go_enter Tryz.func8,Tryz.ntmps8
 go_wp2_with fail
 refine (hV _ (by exact fx)).mono ?_;rintro e1 w1 ⟨rfl,hf⟩;have hf':Hid (Fr Non w w1):=Lib.hid (Fr.trans (by exact fx) hf);clear hf;go_wp2_with fail
 go_ret2
 exact ⟨rfl,hf'.out⟩
theorem new_good (w:World) (fo:Option Addr) (fn fc:Nat) (co:Option Addr) (cn cc:Nat) (words:Int)
 (hV:∀ w1,Fr Non w w1→Calls Tryz.prog 31 #[.agg #[.slice fo fn fc,.slice co cn cc]] w1 fun e w'=>e=.returned (.bool true)∧Fr Non w1 w') :
 Calls Tryz.prog 8 #[.agg #[.slice fo fn fc,.slice co cn cc],.int .i64 words] w fun e w'=>∃ g mb eb,e=.returned (.tuple #[.pointer (some ⟨g,0,none⟩),.int .i64 0]) ∧
  Row w' g 84 [.slice fo fn fc,.slice co cn cc,.pointer (some ⟨mb,0,none⟩),.map (some eb),.slice none 0 0,.slice none 0 0,.int .i64 0,.int .i64 0] ∧
  Row w' mb 135 [.int .i64 (roomOf words),.int .i64 0,.int .i64 0,.slice none 0 0]∧w'.heap[eb]?=some (.map #[] 0)∧w.heap.size≤g∧w.heap.size≤mb∧w.heap.size≤eb∧eb≠g∧eb≠mb∧Fr Non w w':=by
 go_enter Tryz.func8,Tryz.ntmps8
 go_wp2_with fail
 refine (hV _ (by exact fx)).mono ?_;rintro e1 W ⟨rfl,hf⟩;have b0:=hf.new_cell (by simp [Non]) (o:=0) rfl;have b1:=hf.new_cell (by simp [Non]) (o:=1) rfl;have hs:=hf.size;simp only [World.size_alloc] at hs;have hf':Hid (Fr Non w W):=Lib.hid (Fr.trans (by exact fx) hf);clear hf hV;go_wp2_with fail
 have cW:=@Mix.cls_drew W [w.heap.size];refine Mix.wp_region_alt [0] [(1,0),(0,1)] 2 3 [(2,3),(0,4),(2,5),(0,6),(0,7)] [(2,2),(0,4),(2,5),(0,6),(0,7)] (fun V=>∃ g,V=Mix.upon W [w.heap.size] g) (by kernel_rfl) (by kernel_rfl) cW ?_;clear cW;repeat (first|((first|refine Mix.qa ?_|refine Mix.qb ?_);intro K hK;simp only [nA,nB,nC];go_big_quiet_op;go_big_quiet_on)|refine Mix.qc ?_|refine Mix.qd ?_)
 refine Mix.S_done ?_;refine ⟨?_,?_⟩
 · refine Mix.N_eff (C:=fun V=>∃ g,V=Mix.upon W [w.heap.size] g) rfl rfl ?_;intro K hK;simp only [nA,nB,nC];go_simp;refine (memNew_c _ words).mono ?_;rintro e1 w1 ⟨mb,rfl,hmb,hr,hg⟩;have hg1:Fr Non W w1:=Fr.trans (by exact fx) hg;refine hK _ _ ⟨Mix.cls_fr (D:=Non) hg (by simp [Non];omega),?_⟩;clear hK K;simp only [World.size_drew] at hmb;have HM:=Lib.hid (And.intro hmb (And.intro hr hg1));clear hmb hr hg hg1;refine Mix.S_eff rfl rfl ?_;intro K hK;simp only [nA,nB,nC];go_simp;rw [run_makeMap];go_simp;refine hK _ _ ⟨Mix.cls_fr (D:=Non) (by exact fx) (by simp [Non];have:=HM.out.2.2.size;omega),?_⟩;clear hK K;repeat (first|((first|refine Mix.qa ?_|refine Mix.qb ?_);intro K hK;simp only [nA,nB,nC];go_big_quiet_op;go_big_quiet_on)|refine Mix.qc ?_|refine Mix.qd ?_)
   refine Mix.S_eff rfl rfl ?_;intro K hK;simp only [nA,nB,nC];go_simp;refine hK _ _ ⟨Mix.cls_fr (D:=Non) (by exact fx) (by simp [Non];have:=HM.out.2.2.size;omega),?_⟩;clear hK K;repeat (first|((first|refine Mix.qa ?_|refine Mix.qb ?_);intro K hK;simp only [nA,nB,nC];go_big_quiet_op;go_big_quiet_on)|refine Mix.qc ?_|refine Mix.qd ?_)
   refine Mix.S_done ?_;go_wp2
   obtain ⟨hmb,hr,hg1⟩:=HM.out;have hl:=hr.lt;have hs1:=hg1.size;go_ret2
   exact ⟨w1.heap.size+1,mb,w1.heap.size,rfl,Row.new' (by simp),(hr.alloc _).alloc _,((Below.heap_alloc (w1.alloc _) _ _ (by simp)).trans (heap_alloc_new w1 _)),by omega,by omega,by omega,by omega,by omega,(((hf'.out.trans hg1).alloc _).alloc _)⟩
 · refine Mix.N_eff (C:=fun V=>∃ g,V=Mix.upon W [w.heap.size] g) rfl rfl ?_;intro K hK;simp only [nA,nB,nC];go_simp;rw [run_makeMap];go_simp;refine hK _ _ ⟨Mix.cls_fr (D:=Non) (by exact fx) (by simp [Non];omega),?_⟩;clear hK K;refine Mix.S_eff rfl rfl ?_;intro K hK;simp only [nA,nB,nC];go_simp;refine (memNew_c _ words).mono ?_;rintro e1 w1 ⟨mb,rfl,hmb,hr,hg⟩;have hg1:Fr Non W w1:=Fr.trans (by exact fx) hg;have he:w1.heap[W.heap.size]?=some (.map #[] 0):=(hg.keep W.heap.size (by simp) id).trans (heap_alloc_new W _);refine hK _ _ ⟨Mix.cls_fr (D:=Non) hg (by simp [Non];omega),?_⟩;clear hK K;simp only [World.size_alloc,World.size_drew] at hmb;have HM:=Lib.hid (And.intro hmb (And.intro hr (And.intro hg1 he)));clear hmb hr hg hg1 he;repeat (first|((first|refine Mix.qa ?_|refine Mix.qb ?_);intro K hK;simp only [nA,nB,nC];go_big_quiet_op;go_big_quiet_on)|refine Mix.qc ?_|refine Mix.qd ?_)
   refine Mix.S_eff rfl rfl ?_;intro K hK;simp only [nA,nB,nC];go_simp;refine hK _ _ ⟨Mix.cls_fr (D:=Non) (by exact fx) (by simp [Non];have:=HM.out.2.2.1.size;omega),?_⟩;clear hK K;repeat (first|((first|refine Mix.qa ?_|refine Mix.qb ?_);intro K hK;simp only [nA,nB,nC];go_big_quiet_op;go_big_quiet_on)|refine Mix.qc ?_|refine Mix.qd ?_)
   refine Mix.S_done ?_;go_wp2
   obtain ⟨hmb,hr,hg1,he⟩:=HM.out;have hl:=hr.lt;have hs1:=hg1.size;go_ret2
   exact ⟨w1.heap.size,mb,W.heap.size,rfl,Row.new' rfl,hr.alloc _,(Below.heap_alloc w1 _ _ (by omega)).trans he,by omega,by omega,by omega,by omega,by omega,((hf'.out.trans hg1).alloc _)⟩
end Go.Proofs.YtlbomnbpahmphaaGreat
