/- Walks: the memory's 'Alloc' and 'New'. Condition: the memory lies in blocks as 'MemL' says, and has fewer than 10^12 allocations. -/
import Derived.Deep.AppendLies
import Derived.Laws.MakeOwn
import Derived.Test.YtlbomnbpahmphaaGreatD02
import Derived.Test.YtlbomnbpahmphaaGreatD03
namespace Go.Proofs.YtlbomnbpahmphaaGreat
open Go.RowKit
set_option maxRecDepth 100000
set_option maxHeartbeats 1000000
def Blk.new (n:Nat):Blk:=⟨List.replicate n Wd.zero,List.replicate n false,false⟩
def Mem.alloc (M:Mem) (n:Int):Mem × Wd × Int :=
 if n<0 then (M,Wd.zero,1) else if M.room - (used M.blocks:Int)<n then (M,Wd.zero,10)
 else ({ M with blocks:=M.blocks ++ [Blk.new n.toNat] },⟨true,(M.blocks.length:Int)+1,0⟩,0)
theorem madeCells_word (k:Nat):(madeCells #[.bool false,.int .i64 0,.int .i64 0] (k * 3)).toList=flat (List.replicate k Wd.zero):=by
 refine List.ext_getElem? fun i=>?_;by_cases hi:i<k * 3
 · obtain ⟨q,r,rfl,hr⟩:∃ q r,i=q * 3+r∧r<3:=⟨i / 3,i % 3,by omega,by omega⟩;have hq:q<k:=by omega
   obtain ⟨h0,h1,h2⟩:=flat_get (l:=List.replicate k Wd.zero) (j:=q) (x:=Wd.zero) (by simp [hq]);have hm:(q * 3+r) % 3=r:=by omega
   have hl:(madeCells #[Value.bool false,.int .i64 0,.int .i64 0] (k * 3)).toList[q * 3+r]?=some (#[Value.bool false,.int .i64 0,.int .i64 0][r]!):=by
    simp [madeCells,hi,hm]
   rw [hl]
   match r,hr with
   | 0,_=>rw [Nat.add_zero,h0];rfl
   | 1,_=>rw [h1];rfl
   | 2,_=>rw [h2];rfl
 · rw [List.getElem?_eq_none (by simp [size_madeCells];omega),List.getElem?_eq_none (by rw [flat_len];simp;omega)]
theorem madeCells_bool (k:Nat):(madeCells #[.bool false] (k * 1)).toList=(List.replicate k false).map Value.bool:=by
 rw [List.map_replicate];refine List.eq_replicate_iff.2 ⟨by simp [madeCells],?_⟩;simp [madeCells,Nat.mod_one]
section
variable {D:Nat→Prop} {w:World} {mb cap bb:Nat} {ao:Option Addr} {arr:List Value} {wb zb:Nat→Nat} {M:Mem}
theorem MemL.app (h:MemL D w mb ao cap bb arr wb zb M) {n:Nat} (hn:(used M.blocks:Int)+n≤M.room) {E:Nat→Prop} {w':World} (f:Fr E w w')
 (hE:∀ x,E x→x=mb∨ao=Option.some ⟨x,0,none⟩) {g cap' W Z:Nat} {arr':List Value}
 (rh:Row w' mb 135 [.int .i64 M.room,.int .i64 ((used M.blocks:Int)+n),.int .i64 ((live M.blocks:Int)+1),.slice (Option.some ⟨g,0,none⟩) (M.blocks.length+1) cap'])
 (rb:Row w' g 147 arr') (hl:arr'.length=cap' * 3) (hc:M.blocks.length+1≤cap') (hcm:cap'≤maxLen)
 (ht:arr'.take ((M.blocks.length+1) * 3)=arr.take (M.blocks.length * 3) ++ [.slice (Option.some ⟨W,0,none⟩) n n,.slice (Option.some ⟨Z,0,none⟩) n n,.bool false])
 (hW:w.heap.size≤W) (hZ:w.heap.size≤Z) (rw':Row w' W 40 (flat (List.replicate n Wd.zero))) (rz':Row w' Z 4 ((List.replicate n false).map Value.bool)) :
 MemL (fun x=>D x∨x=g∨x=W∨x=Z) w' mb (Option.some ⟨g,0,none⟩) cap' g arr' (fun i=>if i=M.blocks.length then W else wb i) (fun i=>if i=M.blocks.length then Z else zb i) { M with blocks:=M.blocks ++ [Blk.new n] }:=by
 have hn':(M.blocks ++ [Blk.new n]).length=M.blocks.length+1:=by simp
 have hal:M.blocks.length * 3≤arr.length∨M.blocks=[]:=by
  rcases h.row with ⟨_,_,h3⟩|⟨_,_,h3,h4,_,_⟩
  · exact Or.inr h3
  · left;omega
 have htl:(arr.take (M.blocks.length * 3)).length=M.blocks.length * 3:=by
  rcases hal with h|h
  · simp;omega
  · simp [h]
 have old:∀ i j,i<M.blocks.length→j<3→arr'[i * 3+j]?=arr[i * 3+j]?:=fun i j hi hj=>by
  have e1:(arr'.take ((M.blocks.length+1) * 3))[i * 3+j]?=arr'[i * 3+j]?:=List.getElem?_take_of_lt (by omega);have e2:(arr.take (M.blocks.length * 3))[i * 3+j]?=arr[i * 3+j]?:=List.getElem?_take_of_lt (by omega);rw [← e1,ht,List.getElem?_append_left (by omega),e2]
 have new:∀ j,j<3→arr'[M.blocks.length * 3+j]?=[Value.slice (Option.some ⟨W,0,none⟩) n n,.slice (Option.some ⟨Z,0,none⟩) n n,.bool false][j]?:=fun j hj=>by
  have e1:(arr'.take ((M.blocks.length+1) * 3))[M.blocks.length * 3+j]?=arr'[M.blocks.length * 3+j]?:=List.getElem?_take_of_lt (by omega);rw [← e1,ht,List.getElem?_append_right (by omega),htl];simp
 have nE:∀ {x:Nat} {T:TypeId} {cs:List Value},Row w x T cs→T≠135→T≠147→¬ E x:=fun {x T cs} r h1 h2 hx=>by
  rcases hE x hx with rfl|hx
  · exact r.ne h.head h1 rfl
  · rcases h.row with ⟨h3,_,_⟩|⟨h3,h4,_⟩
    · rw [h3] at hx;cases hx
    · rw [h3] at hx;cases hx;exact r.ne h4 h2 rfl
 refine { head:=?_,own:=Or.inl h.own,row:=Or.inr ⟨rfl,rb,hl,by rw [hn'];exact hc,hcm,Or.inr (Or.inl rfl)⟩,blk:=?_,one:=?_,lt:=?_,ok:=?_ }
 · rw [hn',used_append,live_append];have e1:used [Blk.new n]=n:=by simp [used,Blk.new]
   have e2:live [Blk.new n]=1:=by simp [live,Blk.new]
   rw [e1,e2]
   simpa using rh
 · intro i c hc;simp only at hc;have hi:i<M.blocks.length+1:=by rw [← hn'];exact (List.getElem?_eq_some_iff.1 hc).1
   by_cases hik:i=M.blocks.length
   · subst hik;rw [List.getElem?_append_right (Nat.le_refl _)] at hc;simp at hc;subst hc;unfold Blk.at;rw [if_neg (by simp [Blk.new])];have n0:=new 0 (by omega);simp only [Nat.add_zero] at n0;simp only [if_true,Blk.new,List.length_replicate];exact ⟨n0,new 1 (by omega),new 2 (by omega),rw',rz',by simp,by simp⟩
   · have hi':i<M.blocks.length:=by omega
     rw [List.getElem?_append_left hi'] at hc;have hci:=h.blk i c hc;have s0:=old i 0 hi' (by omega);have s1:=old i 1 hi' (by omega);have s2:=old i 2 hi' (by omega);simp only [Nat.add_zero] at s0;unfold Blk.at at *;rw [s0,s1,s2];split at hci
     · rename_i hcf;rw [if_pos hcf];exact hci
     · rename_i hcf;rw [if_neg hcf];simp only [if_neg hik];obtain ⟨e1,e2,e3,e4,e5,e6,e7⟩:=hci;exact ⟨e1,e2,e3,f.row e4 (nE e4 (by decide) (by decide)),f.row e5 (nE e5 (by decide) (by decide)),Or.inl e6,Or.inl e7⟩
 · intro i j hi hj hij;simp only [hn'] at hi hj;by_cases h1:i=M.blocks.length
   · have h2:j≠M.blocks.length:=by omega
     simp only [if_pos h1,if_neg h2];have:=h.lt j (by omega);exact ⟨by omega,by omega⟩
   · by_cases h2:j=M.blocks.length
     · simp only [if_neg h1,if_pos h2];have:=h.lt i (by omega);exact ⟨by omega,by omega⟩
     · simp only [if_neg h1,if_neg h2];exact h.one i j (by omega) (by omega) hij
 · intro i hi;simp only [hn'] at hi;have hs:=f.size;by_cases h1:i=M.blocks.length
   · simp only [if_pos h1];exact ⟨rw'.lt,rz'.lt⟩
   · simp only [if_neg h1];have:=h.lt i (by omega);exact ⟨by omega,by omega⟩
 · refine ⟨h.ok.room,?_,fun c hc=>?_⟩
   · simp only [used_append];have e1:used [Blk.new n]=n:=by simp [used,Blk.new]
     rw [e1];omega
   · rcases List.mem_append.1 hc with hc|hc
     · exact h.ok.blk c hc
     · simp at hc;subst hc;exact ⟨by simp [Blk.new],by simp [Blk.new]⟩
theorem MemL.owns (h:MemL D w mb ao cap bb arr wb zb M):w.ownsRow 0 147 3 (.slice ao M.blocks.length cap) M.blocks.length (arr.take (M.blocks.length * 3)):=by
 rcases h.row with ⟨h1,h2,h3⟩|⟨h1,h2,h3,h4,h5,_⟩
 · subst h1 h2;rw [h3];simpa using World.ownsRow_nil w 0 _ 3
 · subst h1;refine ⟨?_,Or.inr ⟨bb,cap,arr.toArray,rfl,Nat.zero_le _,h2,h4,h5,by simpa using h3,by simp⟩⟩;simp;omega
end
theorem ownsRow_open {w:World} {e:TypeId} {size n g cap:Nat} {xs:List Value} (h:w.ownsRow 0 e size (.slice (some ⟨g,0,none⟩) n cap) n xs) :
 ∃ arr,Row w g e arr∧arr.length=cap * size∧n≤cap∧cap≤maxLen∧arr.take (n * size)=xs:=by
 rcases h.2 with ⟨h1,_⟩|⟨g',cap',cur,h1,_,h2,h3,h4,h5,h6⟩
 · cases h1
 · cases h1
   exact ⟨cur.toList,h2,by simpa using h5,h3,h4,h6⟩
theorem ownsRow_row {w:World} {e:TypeId} {base size n:Nat} {v:Value} {xs:List Value} (h:w.ownsRow base e size v n xs) (k:Nat) (hk:v.ownBlock=some k):∃ cs,Row w k e cs:=by
 rcases h.2 with ⟨rfl,_⟩|⟨g',cap',cur,rfl,_,h2,_⟩
 · cases hk
 · simp [Value.ownBlock] at hk;subst hk;exact ⟨cur.toList,h2⟩
theorem Row.grown {w w':World} {v:Value} {b:Nat} {T:TypeId} {cs:List Value} (r:Row w b T cs) (hg:w.grownBy w' v.ownBlock) (hne:v.ownBlock≠some b):Row w' b T cs :=
 r.cong (hg.block b r.lt (Ne.symm hne))
theorem heap3 (W:World) (a b c:Obj):(((W.alloc a).alloc b).alloc c).heap[W.heap.size+2]?=some c:=by
 have:=heap_alloc_new ((W.alloc a).alloc b) c
 simpa using this
theorem owns_of {W:World} {ao:Option Addr} {n cap bb:Nat} {arr:List Value} (h:(ao=none∧cap=0∧n=0)∨(ao=some ⟨bb,0,none⟩∧Row W bb 147 arr∧arr.length=cap * 3∧n≤cap∧cap≤maxLen)) :
 W.ownsRow 0 147 3 (.slice ao n cap) n (arr.take (n * 3)):=by
 rcases h with ⟨h1,h2,h3⟩|⟨h1,h2,h3,h4,h5⟩
 · subst h1 h2 h3;simpa using World.ownsRow_nil W 0 _ 3
 · subst h1;refine ⟨?_,Or.inr ⟨bb,cap,arr.toArray,rfl,Nat.zero_le _,h2,h4,h5,by simpa using h3,by simp⟩⟩;simp;omega
theorem alloc_end {D:Nat→Prop} {w w1:World} {mb cap bb:Nat} {ao:Option Addr} {arr:List Value} {wb zb:Nat→Nat} {M:Mem} (h:MemL D w mb ao cap bb arr wb zb M) {n g cap' A Z:Nat} {cur:List Value}
 (hf:¬ M.room - (used M.blocks:Int)<(n:Int)) (hfw:Fr (fun x=>x=mb∨ao=Option.some ⟨x,0,none⟩) w w1)
 (mrow:Row w1 mb 135 [.int .i64 M.room,.int .i64 ((used M.blocks:Int)+n),.int .i64 ((live M.blocks:Int)+1),.slice ao M.blocks.length cap])
 (arow:Row w1 A 40 (flat (List.replicate n Wd.zero))) (zrow:Row w1 Z 4 ((List.replicate n false).map Value.bool)) (hA:w.heap.size<A) (hZ:w.heap.size<Z)
 (hg:Row w1 g 147 cur) (hcur:cur.length=cap' * 3) (hc1:M.blocks.length+1≤cap') (hc2:cap'≤maxLen) (hng:w.heap.size≠g) (hgo:ao=Option.some ⟨g,0,none⟩∨w.heap.size≤g)
 (htk:cur.take ((M.blocks.length+1) * 3)=arr.take (M.blocks.length * 3) ++ [.slice (Option.some ⟨A,0,none⟩) n n,.slice (Option.some ⟨Z,0,none⟩) n n,.bool false]) {x0 x1 x2:Value} {W:World}
 (hW:W=(((w1.setCell ⟨mb,3,none⟩ (.slice (Option.some ⟨g,0,none⟩) (M.blocks.length+1) cap')).setCell ⟨w.heap.size,0,none⟩ x0).setCell ⟨w.heap.size,1,none⟩ x1).setCell ⟨w.heap.size,2,none⟩ x2) :
 (∃ D' cap' bb' arr' wb' zb',MemL D' W mb (Option.some ⟨bb',0,none⟩) cap' bb' arr' wb' zb' { M with blocks:=M.blocks ++ [Blk.new n] }∧∀ b,D' b→D b∨(w.heap.size≤b∧b<W.heap.size))∧Fr D w W:=by
 have hmb:=h.head.lt;have hmg:g≠mb:=hg.ne mrow (by decide);have hn1:mb≠w.heap.size:=Nat.ne_of_lt hmb;have hu:(used M.blocks:Int)+n≤M.room:=by omega
 have hfx:Fr (fun x=>x=mb∨ao=Option.some ⟨x,0,none⟩) w W:=by
  rw [hW];exact (((hfw.setCell (a:=⟨mb,3,none⟩) (Or.inl (Or.inl rfl)) _).setCell (a:=⟨w.heap.size,0,none⟩) (Or.inr (Nat.le_refl _)) _).setCell (a:=⟨w.heap.size,1,none⟩) (Or.inr (Nat.le_refl _)) _).setCell (a:=⟨w.heap.size,2,none⟩) (Or.inr (Nat.le_refl _)) _
 have far:∀ {b:Nat} {T:TypeId} {cs:List Value},Row w1 b T cs→b≠mb→b≠w.heap.size→Row W b T cs:=fun r h1 h2=>by
  rw [hW];exact (((r.set_ne (a:=⟨mb,3,none⟩) h1 _).set_ne (a:=⟨w.heap.size,0,none⟩) h2 _).set_ne (a:=⟨w.heap.size,1,none⟩) h2 _).set_ne (a:=⟨w.heap.size,2,none⟩) h2 _
 have rh:Row W mb 135 [.int .i64 M.room,.int .i64 ((used M.blocks:Int)+n),.int .i64 ((live M.blocks:Int)+1),.slice (Option.some ⟨g,0,none⟩) (M.blocks.length+1) cap']:=by
  rw [hW];exact (((mrow.set_same 3 _).set_ne (a:=⟨w.heap.size,0,none⟩) hn1 _).set_ne (a:=⟨w.heap.size,1,none⟩) hn1 _).set_ne (a:=⟨w.heap.size,2,none⟩) hn1 _
 refine ⟨⟨_,_,_,_,_,_,h.app hu hfx (fun _ hx=>hx) rh (far hg hmg (Ne.symm hng)) hcur hc1 hc2 htk (Nat.le_of_lt hA) (Nat.le_of_lt hZ) (far arow (by omega) (by omega)) (far zrow (by omega) (by omega)),?_⟩,?_⟩
 · rintro b (hb|rfl|rfl|rfl)
   · exact Or.inl hb
   · rcases hgo with e|e
     · rcases h.row with ⟨e',_⟩|⟨e',_,_,_,_,hd⟩
       · rw [e] at e';cases e'
       · rw [e] at e';cases e';exact Or.inl hd
     · exact Or.inr ⟨e,(far hg hmg (Ne.symm hng)).lt⟩
   · exact Or.inr ⟨Nat.le_of_lt hA,(far arow (by omega) (by omega)).lt⟩
   · exact Or.inr ⟨Nat.le_of_lt hZ,(far zrow (by omega) (by omega)).lt⟩
 · refine hfx.mono fun x _ hx=>?_;rcases hx with rfl|e
   · exact h.own
   · rcases h.row with ⟨e',_⟩|⟨e',_,_,_,_,hd⟩
     · rw [e] at e';cases e'
     · rw [e] at e';cases e';exact hd
theorem Tryz.infoBlock:(Tryz.prog.info? 147).map (fun i=>(i.zero,i.size,i.bytes))=some (some (.agg #[.slice none 0 0,.slice none 0 0,.bool false]),3,56):=by kernel_rfl
theorem Tryz.infoWord:(Tryz.prog.info? 40).map (fun i=>(i.zero,i.size,i.bytes))=some (some (.agg #[.bool false,.int .i64 0,.int .i64 0]),3,24):=by kernel_rfl
theorem Tryz.infoBool:(Tryz.prog.info? 4).map (fun i=>(i.zero,i.size,i.bytes))=some (some (.bool false),1,1):=by kernel_rfl
section
variable {D:Nat→Prop} {w:World} {mb cap bb:Nat} {ao:Option Addr} {arr:List Value} {wb zb:Nat→Nat} {M:Mem}
theorem alloc_neg (_h:MemL D w mb ao cap bb arr wb zb M) (n:Int) (hn:n<0) :
 Calls Tryz.prog 72 #[.pointer (Option.some ⟨mb,0,none⟩),.int .i64 n] w fun e w' =>
  e=.returned (.tuple #[.agg #[.bool false,.int .i64 0,.int .i64 0],.int .i64 1])∧Fr Non w w':=by
 go_enter Tryz.func72,Tryz.ntmps72
 go_wp2
 exact bodyPost_ret (v:=.tuple #[.agg #[.bool false,.int .i64 0,.int .i64 0],.int .i64 1]) (by simp [results,Tryz.results72,go_sem]) rfl ⟨rfl,(by repeat (first|exact .refl _ _|assumption|apply Fr.drewN|apply Fr.drew|apply Fr.drewl|apply Fr.drewNl|apply Fr.alloc|(refine Fr.setCell ?_ (Or.inr (by simp)) _)|refine Fr.trans ?_ (by assumption)))⟩
theorem alloc_full (h:MemL D w mb ao cap bb arr wb zb M) (n:Int) (hn:0≤n) (hf:M.room - (used M.blocks:Int)<n) :
 Calls Tryz.prog 72 #[.pointer (Option.some ⟨mb,0,none⟩),.int .i64 n] w fun e w' =>
  e=.returned (.tuple #[.agg #[.bool false,.int .i64 0,.int .i64 0],.int .i64 10])∧Fr Non w w':=by
 have c0:=h.c0;have c1:=h.c1;have hr:=h.ok.room;have hu:=h.ok.used;have hwr:IntKind.i64.wrap (M.room - (used M.blocks:Int))=M.room - (used M.blocks:Int):=IntWalk.i64_in _ (by omega);have hd:decide (M.room - (used M.blocks:Int)<n)=true:=decide_eq_true hf;have hmb:=h.head.lt;clear h;go_enter Tryz.func72,Tryz.ntmps72
 go_wp2
 go_quiet (fail)
 clear hwr;go_wp2
 exact bodyPost_ret (v:=.tuple #[.agg #[.bool false,.int .i64 0,.int .i64 0],.int .i64 10]) (by simp [results,Tryz.results72,go_sem]) rfl ⟨rfl,(by repeat (first|exact .refl _ _|assumption|apply Fr.drewN|apply Fr.drew|apply Fr.drewl|apply Fr.drewNl|apply Fr.alloc|(refine Fr.setCell ?_ (Or.inr (by simp)) _)|refine Fr.trans ?_ (by assumption)))⟩
theorem alloc_good (h:MemL D w mb ao cap bb arr wb zb M) (n:Nat) (hf:¬ M.room - (used M.blocks:Int)<(n:Int)) (hB:M.blocks.length<1000000000000) :
 Calls Tryz.prog 72 #[.pointer (Option.some ⟨mb,0,none⟩),.int .i64 n] w fun e w' =>
  e=.returned (.tuple #[.agg #[.bool true,.int .i64 ((M.blocks.length:Int)+1),.int .i64 0],.int .i64 0]) ∧
  (∃ D' cap' bb' arr' wb' zb',MemL D' w' mb (Option.some ⟨bb',0,none⟩) cap' bb' arr' wb' zb' { M with blocks:=M.blocks ++ [Blk.new n] }∧∀ b,D' b→D b∨(w.heap.size≤b∧b<w'.heap.size))∧Fr D w w':=by
 obtain ⟨i0,hi,hz0,hz1,hz2⟩:=info_parts Tryz.infoBlock;have c0:=h.c0;have c1:=h.c1;have c2:=h.c2;have c3:=h.c3;have hr:=h.ok.room;have hu:=h.ok.used;have hown:=h.owns;have hlive:=live_le M.blocks;have hwr:IntKind.i64.wrap (M.room - (used M.blocks:Int))=M.room - (used M.blocks:Int):=IntWalk.i64_in _ (by omega);have hw1:IntKind.i64.wrap ((used M.blocks:Int)+(n:Int))=(used M.blocks:Int)+(n:Int):=IntWalk.i64_in _ (by omega);have hw2:IntKind.i64.wrap ((live M.blocks:Int)+1)=(live M.blocks:Int)+1:=IntWalk.i64_in _ (by omega);have hd0:decide ((n:Int)<0)=false:=decide_eq_false (by omega);have hd:decide (M.room - (used M.blocks:Int)<(n:Int))=false:=decide_eq_false hf;have hmb:=h.head.lt;have hmz:=h.head.frozen
 have hm1:∀ W:World,(Instr.makeSlice 35 (.int .i64 n) (.int .i64 n)).run Tryz.prog W=.ok (.slice (Option.some ⟨W.heap.size,0,none⟩) n n) (W.alloc (.cells (madeCells #[.bool false,.int .i64 0,.int .i64 0] (n * 3)) 40)):=by
  obtain ⟨j0,hj,hj0,hj1,hj2⟩:=info_parts Tryz.infoWord;intro W;have:=run_make (P:=Tryz.prog) W 35 40 j0 _ Tryz.underlying35 hj hj0 .i64 .i64 (n:Int) (n:Int) (by omega) (by omega) (by rw [hj2];omega) (by omega);rw [hj1] at this
  simpa [Value.cells] using this
 have hm2:∀ W:World,(Instr.makeSlice 64 (.int .i64 n) (.int .i64 n)).run Tryz.prog W=.ok (.slice (Option.some ⟨W.heap.size,0,none⟩) n n) (W.alloc (.cells (madeCells #[.bool false] (n * 1)) 4)):=by
  obtain ⟨j0,hj,hj0,hj1,hj2⟩:=info_parts Tryz.infoBool;intro W;have:=run_make (P:=Tryz.prog) W 64 4 j0 _ Tryz.underlying64 hj hj0 .i64 .i64 (n:Int) (n:Int) (by omega) (by omega) (by rw [hj2];omega) (by omega);rw [hj1] at this
  simpa [Value.cells] using this
 have hA:=madeCells_word n;have hZ:=madeCells_bool n;generalize madeCells #[.bool false,.int .i64 0,.int .i64 0] (n * 3)=zA at *;generalize madeCells #[.bool false] (n * 1)=zZ at *;have HH:=Lib.hid (And.intro h (And.intro hA (And.intro hZ (And.intro hr (And.intro hu hf)))));clear h hA hZ hr hu hlive hf;go_enter Tryz.func72,Tryz.ntmps72
 go_wp2
 go_quiet (fail)
 go_wp2
 obtain ⟨W,hW⟩:∃ W,W=((((w.alloc (Obj.cells #[Value.bool false,Value.int IntKind.i64 0,Value.int IntKind.i64 0] 40)).drewN nq).setCell { block:=mb,off:=1 } (Value.int IntKind.i64 (↑(used M.blocks)+↑n))).setCell { block:=mb,off:=2 } (Value.int IntKind.i64 (↑(live M.blocks)+1))):=⟨_,rfl⟩;rw [← hW]
 have hfW:Fr (fun x=>x=mb) w W:=by
  rw [hW];exact ((((Fr.refl (fun x=>x=mb) w).alloc _).drewN _).setCell (a:=⟨mb,1,none⟩) (Or.inl rfl) _).setCell (a:=⟨mb,2,none⟩) (Or.inl rfl) _
 have hrW:Row W mb 135 [.int .i64 M.room,.int .i64 ((used M.blocks:Int)+n),.int .i64 ((live M.blocks:Int)+1),.slice ao M.blocks.length cap]:=by
  rw [hW];exact ((((HH.out.1.head.alloc _).drewN nq).set_same 1 _).set_same 2 _)
 have hnW:Row W w.heap.size 40 [.bool false,.int .i64 0,.int .i64 0]:=by
  rw [hW];exact ((((Row.new w _ _).drewN nq).set_ne (a:=⟨mb,1,none⟩) (Nat.ne_of_gt hmb) _).set_ne (a:=⟨mb,2,none⟩) (Nat.ne_of_gt hmb) _)
 have hoW:W.ownsRow 0 147 3 (.slice ao M.blocks.length cap) M.blocks.length (arr.take (M.blocks.length * 3)):=by
  refine owns_of (bb:=bb) ?_;rcases HH.out.1.row with ⟨h1,h2,h3⟩|⟨h1,h2,h3,h4,h5,_⟩
  · exact Or.inl ⟨h1,h2,by rw [h3];rfl⟩
  · exact Or.inr ⟨h1,hfW.row h2 (fun e=>h2.ne HH.out.1.head (by decide) e),h3,h4,h5⟩
 have hlW:=hrW.lt;have hsW:=hfW.size;clear hW c0 c1 c2 hown hmz;have c3:=hrW.cell (o:=3) rfl;clear hwr hw1 hw2;obtain ⟨b0,b1,b2,bz⟩:=row3 hnW;have hmz:=hrW.frozen;have cW:=@Mix.cls_drew W [mb];refine Mix.wp_region_alt [4] [(0,0),(0,1),(0,2),(0,3),(1,4),(0,5),(0,7)] 6 8 [(2,8),(0,9),(2,10),(3,11),(0,12),(0,13),(3,14)] [(2,6),(0,9),(2,10),(3,11),(0,12),(0,13),(3,14)] (fun V=>∃ g,V=Mix.upon W [mb] g) (by kernel_rfl) (by kernel_rfl) cW ?_;clear cW;repeat (first|((first|refine Mix.qa ?_|refine Mix.qb ?_);intro K hK;simp only [nA,nB,nC];go_big_quiet_op;go_big_quiet_on)|refine Mix.qc ?_|refine Mix.qd ?_)
 refine Mix.S_done ?_;refine ⟨?_,?_⟩
 · refine Mix.N_eff (C:=fun V=>∃ g,V=Mix.upon W [mb] g) rfl rfl ?_;intro K hK;simp only [nA,nB,nC];go_simp;refine hK _ _ ⟨Mix.cls_fr (D:=Non) fx (by simp [Non];omega),?_⟩;clear hK K;refine Mix.S_eff rfl rfl ?_;intro K hK;simp only [nA,nB,nC];go_simp;refine hK _ _ ⟨Mix.cls_fr (D:=Non) fx (by simp [Non];omega),?_⟩;clear hK K;repeat (first|((first|refine Mix.qa ?_|refine Mix.qb ?_);intro K hK;simp only [nA,nB,nC];go_big_quiet_op;go_big_quiet_on)|refine Mix.qc ?_|refine Mix.qd ?_)
   refine Mix.S_eff rfl rfl ?_;intro K hK;simp only [nA,nB,nC];go_simp;refine hK _ _ ⟨Mix.cls_fr (D:=Non) fx (by simp [Non];omega),?_⟩;clear hK K;refine Mix.S_late rfl rfl ?_;intro K hK;simp only [nA,nB,nC];refine wp_append_lies _ (.tmp 42) (.tmp 48) 133 rfl 0 147 i0 _ 3 56 Tryz.underlying133 hi hz0 hz1 hz2 rfl (by omega) (.slice ao M.blocks.length cap) M.blocks.length (arr.take (M.blocks.length * 3)) rfl ((((hoW.alloc _).alloc _).alloc _).drew) ⟨W.heap.size+2,0,none⟩ 1 1 [.slice (Option.some ⟨W.heap.size,0,none⟩) n n,.slice (Option.some ⟨W.heap.size+1,0,none⟩) n n,.bool false] rfl rfl ?_ (by simp [Value.oneCell']) (by omega) (by unfold maxLen;omega) (by omega) (Nat.zero_le _) _ rfl ?_
   · exact World.news_of_block (cs:=#[.slice (Option.some ⟨W.heap.size,0,none⟩) n n,.slice (Option.some ⟨W.heap.size+1,0,none⟩) n n,.bool false]) (t:=147) (fr:=(0,0)) (heap3 W _ _ _)
   intro g cap' w1 hown1 hgrow hat hlt;refine hK _ _ ?_;simp only [Act.put,List.setIfInBounds_toArray,List.set_cons_succ,List.set_cons_zero];clear hK K;have hob:=ownsRow_row hoW;have hn1:(Value.slice ao M.blocks.length cap).ownBlock≠Option.some mb:=fun e=>by obtain ⟨cs,hc⟩:=hob _ e;exact hc.ne hrW (by decide) rfl
   have hn2:(Value.slice ao M.blocks.length cap).ownBlock≠Option.some w.heap.size:=fun e=>by obtain ⟨cs,hc⟩:=hob _ e;exact hc.ne hnW (by decide) rfl
   have hn3:∀ k,W.heap.size≤k→(Value.slice ao M.blocks.length cap).ownBlock≠Option.some k:=fun k hk e=>by obtain ⟨cs,hc⟩:=hob _ e;have:=hc.lt;omega
   have mrow:=((((hrW.alloc _).alloc _).alloc _).drew).grown hgrow hn1;have nrow:=((((hnW.alloc _).alloc _).alloc _).drew).grown hgrow hn2
   have hrows:Row w1 (W.heap.size) 40 (flat (List.replicate n Wd.zero))∧Row w1 (W.heap.size+1) 4 ((List.replicate n false).map Value.bool):=by
    rw [← HH.out.2.1,← HH.out.2.2.1];have q1:=((((Row.new W _ _).alloc _).alloc _).drew).grown hgrow (hn3 _ (by simp));have q2:=((((Row.new (W.alloc _) _ _).alloc _).drew)).grown hgrow (hn3 _ (by simp));rw [World.size_alloc] at q2
    first|exact ⟨q1,q2⟩|exact ⟨q2,q1⟩
   have hfw1:Fr (fun x=>x=mb∨ao=Option.some ⟨x,0,none⟩) w w1:=by
    refine (((((hfW.mono fun x _ hx=>Or.inl hx).alloc _).alloc _).alloc _).drew).grown hgrow fun k hk=>Or.inl (Or.inr ?_);rcases HH.out.1.row with ⟨e,_⟩|⟨e,_⟩
    · rw [e] at hk;cases hk
    · rw [e] at hk ⊢;simp [Value.ownBlock] at hk;rw [hk]
   obtain ⟨cur,hg,hcur,hc1,hc2,htk⟩:=ownsRow_open hown1
   have hgo:ao=Option.some ⟨g,0,none⟩∨w.heap.size≤g:=by
    rcases hat with hk|hk
    · left
      rcases HH.out.1.row with ⟨e,_⟩|⟨e,_⟩
      · rw [e] at hk;cases hk
      · rw [e] at hk ⊢;simp [Value.ownBlock] at hk;rw [hk]
    · right;rw [hk];simp;omega
   have hmg:mb≠g:=(hg.ne mrow (by decide)).symm;have hng:w.heap.size≠g:=(hg.ne nrow (by decide)).symm;have m3:=mrow.cell (o:=3) rfl;have mz:=mrow.frozen;obtain ⟨n0,n1,n2,nz⟩:=row3 nrow;have hmn:=Nat.ne_of_lt hmb;have hws:w.heap.size<W.heap.size:=hnW.lt;have HX:=Lib.hid (And.intro mrow (And.intro hrows (And.intro hg (And.intro hcur (And.intro hc1 (And.intro hc2 (And.intro htk (And.intro hfw1 (And.intro hgo hws)))))))));clear mrow nrow hrows hg hcur hc1 hc2 htk hfw1 hgrow hown1 hat hob hn1 hn2 hn3 hoW hnW hrW c3 b0 b1 b2 bz hmz hgo;repeat (first|((first|refine Mix.qa ?_|refine Mix.qb ?_);intro K hK;simp only [nA,nB,nC];go_big_quiet_op;go_big_quiet_on)|refine Mix.qc ?_|refine Mix.qd ?_)
   refine Mix.S_late rfl rfl ?_;intro K hK;simp only [nA,nB,nC];go_simp;refine hK _ _ ?_;clear hK K;refine Mix.S_done ?_;go_wp2
   obtain ⟨mrow,⟨arow,zrow⟩,hg,hcur,hc1,hc2,htk,hfw1,hgo,hws⟩:=HX.out;exact bodyPost_ret (v:=.tuple #[.agg #[.bool true,.int .i64 ((M.blocks.length:Int)+1),.int .i64 0],.int .i64 0]) (by simp [results,Tryz.results72,go_sem,n0,n1,n2]) rfl ⟨rfl,alloc_end HH.out.1 (Int.not_lt.2 HH.out.2.2.2.2.2) hfw1 mrow arow zrow (by omega) (by omega) hg hcur hc1 hc2 hng hgo htk rfl⟩
 · refine Mix.N_eff (C:=fun V=>∃ g,V=Mix.upon W [mb] g) rfl rfl ?_;intro K hK;simp only [nA,nB,nC];go_simp;refine hK _ _ ⟨Mix.cls_fr (D:=Non) fx (by simp [Non];omega),?_⟩;clear hK K;refine Mix.S_eff rfl rfl ?_;intro K hK;simp only [nA,nB,nC];go_simp;refine hK _ _ ⟨Mix.cls_fr (D:=Non) fx (by simp [Non];omega),?_⟩;clear hK K;repeat (first|((first|refine Mix.qa ?_|refine Mix.qb ?_);intro K hK;simp only [nA,nB,nC];go_big_quiet_op;go_big_quiet_on)|refine Mix.qc ?_|refine Mix.qd ?_)
   refine Mix.S_eff rfl rfl ?_;intro K hK;simp only [nA,nB,nC];go_simp;refine hK _ _ ⟨Mix.cls_fr (D:=Non) fx (by simp [Non];omega),?_⟩;clear hK K;refine Mix.S_late rfl rfl ?_;intro K hK;simp only [nA,nB,nC];refine wp_append_lies _ (.tmp 42) (.tmp 48) 133 rfl 0 147 i0 _ 3 56 Tryz.underlying133 hi hz0 hz1 hz2 rfl (by omega) (.slice ao M.blocks.length cap) M.blocks.length (arr.take (M.blocks.length * 3)) rfl ((((hoW.alloc _).alloc _).alloc _).drew) ⟨W.heap.size+2,0,none⟩ 1 1 [.slice (Option.some ⟨W.heap.size+1,0,none⟩) n n,.slice (Option.some ⟨W.heap.size,0,none⟩) n n,.bool false] rfl rfl ?_ (by simp [Value.oneCell']) (by omega) (by unfold maxLen;omega) (by omega) (Nat.zero_le _) _ rfl ?_
   · exact World.news_of_block (cs:=#[.slice (Option.some ⟨W.heap.size+1,0,none⟩) n n,.slice (Option.some ⟨W.heap.size,0,none⟩) n n,.bool false]) (t:=147) (fr:=(0,0)) (heap3 W _ _ _)
   intro g cap' w1 hown1 hgrow hat hlt;refine hK _ _ ?_;simp only [Act.put,List.setIfInBounds_toArray,List.set_cons_succ,List.set_cons_zero];clear hK K;have hob:=ownsRow_row hoW;have hn1:(Value.slice ao M.blocks.length cap).ownBlock≠Option.some mb:=fun e=>by obtain ⟨cs,hc⟩:=hob _ e;exact hc.ne hrW (by decide) rfl
   have hn2:(Value.slice ao M.blocks.length cap).ownBlock≠Option.some w.heap.size:=fun e=>by obtain ⟨cs,hc⟩:=hob _ e;exact hc.ne hnW (by decide) rfl
   have hn3:∀ k,W.heap.size≤k→(Value.slice ao M.blocks.length cap).ownBlock≠Option.some k:=fun k hk e=>by obtain ⟨cs,hc⟩:=hob _ e;have:=hc.lt;omega
   have mrow:=((((hrW.alloc _).alloc _).alloc _).drew).grown hgrow hn1;have nrow:=((((hnW.alloc _).alloc _).alloc _).drew).grown hgrow hn2
   have hrows:Row w1 (W.heap.size+1) 40 (flat (List.replicate n Wd.zero))∧Row w1 (W.heap.size) 4 ((List.replicate n false).map Value.bool):=by
    rw [← HH.out.2.1,← HH.out.2.2.1];have q1:=((((Row.new W _ _).alloc _).alloc _).drew).grown hgrow (hn3 _ (by simp));have q2:=((((Row.new (W.alloc _) _ _).alloc _).drew)).grown hgrow (hn3 _ (by simp));rw [World.size_alloc] at q2
    first|exact ⟨q1,q2⟩|exact ⟨q2,q1⟩
   have hfw1:Fr (fun x=>x=mb∨ao=Option.some ⟨x,0,none⟩) w w1:=by
    refine (((((hfW.mono fun x _ hx=>Or.inl hx).alloc _).alloc _).alloc _).drew).grown hgrow fun k hk=>Or.inl (Or.inr ?_);rcases HH.out.1.row with ⟨e,_⟩|⟨e,_⟩
    · rw [e] at hk;cases hk
    · rw [e] at hk ⊢;simp [Value.ownBlock] at hk;rw [hk]
   obtain ⟨cur,hg,hcur,hc1,hc2,htk⟩:=ownsRow_open hown1
   have hgo:ao=Option.some ⟨g,0,none⟩∨w.heap.size≤g:=by
    rcases hat with hk|hk
    · left
      rcases HH.out.1.row with ⟨e,_⟩|⟨e,_⟩
      · rw [e] at hk;cases hk
      · rw [e] at hk ⊢;simp [Value.ownBlock] at hk;rw [hk]
    · right;rw [hk];simp;omega
   have hmg:mb≠g:=(hg.ne mrow (by decide)).symm;have hng:w.heap.size≠g:=(hg.ne nrow (by decide)).symm;have m3:=mrow.cell (o:=3) rfl;have mz:=mrow.frozen;obtain ⟨n0,n1,n2,nz⟩:=row3 nrow;have hmn:=Nat.ne_of_lt hmb;have hws:w.heap.size<W.heap.size:=hnW.lt;have HX:=Lib.hid (And.intro mrow (And.intro hrows (And.intro hg (And.intro hcur (And.intro hc1 (And.intro hc2 (And.intro htk (And.intro hfw1 (And.intro hgo hws)))))))));clear mrow nrow hrows hg hcur hc1 hc2 htk hfw1 hgrow hown1 hat hob hn1 hn2 hn3 hoW hnW hrW c3 b0 b1 b2 bz hmz hgo;repeat (first|((first|refine Mix.qa ?_|refine Mix.qb ?_);intro K hK;simp only [nA,nB,nC];go_big_quiet_op;go_big_quiet_on)|refine Mix.qc ?_|refine Mix.qd ?_)
   refine Mix.S_late rfl rfl ?_;intro K hK;simp only [nA,nB,nC];go_simp;refine hK _ _ ?_;clear hK K;refine Mix.S_done ?_;go_wp2
   obtain ⟨mrow,⟨arow,zrow⟩,hg,hcur,hc1,hc2,htk,hfw1,hgo,hws⟩:=HX.out;exact bodyPost_ret (v:=.tuple #[.agg #[.bool true,.int .i64 ((M.blocks.length:Int)+1),.int .i64 0],.int .i64 0]) (by simp [results,Tryz.results72,go_sem,n0,n1,n2]) rfl ⟨rfl,alloc_end HH.out.1 (Int.not_lt.2 HH.out.2.2.2.2.2) hfw1 mrow arow zrow (by omega) (by omega) hg hcur hc1 hc2 hng hgo htk rfl⟩
theorem alloc_c (h:MemL D w mb ao cap bb arr wb zb M) (n:Int) (hB:M.blocks.length<1000000000000) :
 Calls Tryz.prog 72 #[.pointer (Option.some ⟨mb,0,none⟩),.int .i64 n] w fun e w' =>
  e=.returned (.tuple #[.agg #[.bool (M.alloc n).2.1.p,.int .i64 (M.alloc n).2.1.a,.int .i64 (M.alloc n).2.1.n],.int .i64 (M.alloc n).2.2]) ∧
  (∃ D' ao' cap' bb' arr' wb' zb',MemL D' w' mb ao' cap' bb' arr' wb' zb' (M.alloc n).1∧∀ b,D' b→D b∨(w.heap.size≤b∧b<w'.heap.size))∧Fr D w w':=by
 unfold Mem.alloc;by_cases h1:n<0
 · rw [if_pos h1];exact (alloc_neg h n h1).mono fun e w' ⟨h1,h2⟩=>⟨h1,⟨_,_,_,_,_,_,_,h.fr h2 (fun _ _=>id),fun _=>Or.inl⟩,h2.mono fun _ _ h=>h.elim⟩
 · rw [if_neg h1];by_cases h2:M.room - (used M.blocks:Int)<n
   · rw [if_pos h2];exact (alloc_full h n (by omega) h2).mono fun e w' ⟨h1,h2⟩=>⟨h1,⟨_,_,_,_,_,_,_,h.fr h2 (fun _ _=>id),fun _=>Or.inl⟩,h2.mono fun _ _ h=>h.elim⟩
   · rw [if_neg h2];obtain ⟨k,rfl⟩:=Int.eq_ofNat_of_zero_le (show 0≤n by omega);rw [Int.toNat_natCast];exact (alloc_good h k h2 hB).mono fun e w' ⟨h1,⟨D',cap',bb',arr',wb',zb',h3,h4⟩,h5⟩=>⟨h1,⟨D',Option.some ⟨bb',0,none⟩,cap',bb',arr',wb',zb',h3,h4⟩,h5⟩
end
end Go.Proofs.YtlbomnbpahmphaaGreat
