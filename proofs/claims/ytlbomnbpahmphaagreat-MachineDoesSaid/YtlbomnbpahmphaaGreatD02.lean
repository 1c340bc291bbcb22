/- Walks: small functions of words: 'Off', 'off', 'number', the memory's 'Live' and 'New', 'failed', 'checked'. No condition but, for 'Live', that the memory lies in blocks as 'MemL' says. -/
import Derived.Laws.ResultCell
import Derived.Test.YtlbomnbpahmphaaGreatD01
namespace Go.Proofs.YtlbomnbpahmphaaGreat
open Go.RowKit
set_option maxRecDepth 100000
set_option maxHeartbeats 400000
def offn (p:Bool) (n k:Int):Int:=if p=true then wrap64 (n+k) else n
theorem Off_num (w:World) (a n k:Int):Calls Tryz.prog 74 #[.agg #[.bool false,.int .i64 a,.int .i64 n],.int .i64 k] w fun e w' =>
 e=.returned (.tuple #[.agg #[.bool false,.int .i64 0,.int .i64 0],.int .i64 11])∧Fr Non w w':=by
 go_enter Tryz.func74,Tryz.ntmps74
 go_wp2
 exact bodyPost_ret (v:=.tuple #[.agg #[.bool false,.int .i64 0,.int .i64 0],.int .i64 11]) (by simp [results,Tryz.results74,go_sem]) rfl ⟨rfl,fx⟩
theorem Off_ptr (w:World) (a n k:Int):Calls Tryz.prog 74 #[.agg #[.bool true,.int .i64 a,.int .i64 n],.int .i64 k] w fun e w' =>
 e=.returned (.tuple #[.agg #[.bool true,.int .i64 a,.int .i64 (wrap64 (n+k))],.int .i64 0])∧Fr Non w w':=by
 go_enter Tryz.func74,Tryz.ntmps74
 go_wp2
 exact bodyPost_ret (v:=.tuple #[.agg #[.bool true,.int .i64 a,.int .i64 (wrap64 (n+k))],.int .i64 0]) (by simp [results,Tryz.results74,go_sem]) rfl ⟨rfl,fx⟩
theorem number_c (w:World) (n:Int):Calls Tryz.prog 41 #[.int .i64 n] w fun e w' =>
 e=.returned (.agg #[.bool false,.int .i64 0,.int .i64 n])∧Fr Non w w':=by
 go_enter Tryz.func41,Tryz.ntmps41
 go_wp2
 exact bodyPost_ret (v:=.agg #[.bool false,.int .i64 0,.int .i64 n]) (by simp [results,Tryz.results41,go_sem]) rfl ⟨rfl,fx⟩
theorem off_c (w:World) (p:Bool) (a n k:Int):Calls Tryz.prog 40 #[.agg #[.bool p,.int .i64 a,.int .i64 n],.int .i64 k] w fun e w' =>
 e=.returned (.agg #[.bool p,.int .i64 a,.int .i64 (offn p n k)])∧Fr Non w w':=by
 cases p with
 | false =>
  rw [show offn false n k=n from rfl];go_enter Tryz.func40,Tryz.ntmps40
  go_wp2_with fail
  refine (Off_num _ a n k).mono ?_;rintro e1 w1 ⟨rfl,hf⟩;obtain ⟨r1,r2⟩:=hf.new_row2 id id;obtain ⟨b0,b1,b2,bz⟩:=row3 r1;obtain ⟨d0,d1,d2,dz⟩:=row3 r2;have l1:=r1.lt;have l2:=r2.lt;clear r1 r2;go_wp2
  exact bodyPost_ret (v:=.agg #[.bool false,.int .i64 a,.int .i64 n]) (by simp [results,Tryz.results40,go_sem,l2,d0,d1,d2]) rfl ⟨rfl,(by repeat (first|exact .refl _ _|assumption|apply Fr.drewN|apply Fr.drew|apply Fr.drewl|apply Fr.drewNl|apply Fr.alloc|(refine Fr.setCell ?_ (Or.inr (by simp)) _)|refine Fr.trans ?_ (by assumption)))⟩
 | true =>
  rw [show offn true n k=wrap64 (n+k) from rfl];generalize hm:wrap64 (n+k)=m;have HO:=Lib.hid (hm ▸ fun w1=>Off_ptr w1 a n k);clear hm;go_enter Tryz.func40,Tryz.ntmps40
  go_wp2_with fail
  refine (HO.out _).mono ?_;rintro e1 w1 ⟨rfl,hf⟩;obtain ⟨r1,r2⟩:=hf.new_row2 id id;obtain ⟨b0,b1,b2,bz⟩:=row3 r1;obtain ⟨d0,d1,d2,dz⟩:=row3 r2;have l1:=r1.lt;have l2:=r2.lt;clear r1 r2;go_wp2
  exact bodyPost_ret (v:=.agg #[.bool true,.int .i64 a,.int .i64 m]) (by simp [results,Tryz.results40,go_sem,l2,d0,d1,d2]) rfl ⟨rfl,(by repeat (first|exact .refl _ _|assumption|apply Fr.drewN|apply Fr.drew|apply Fr.drewl|apply Fr.drewNl|apply Fr.alloc|(refine Fr.setCell ?_ (Or.inr (by simp)) _)|refine Fr.trans ?_ (by assumption)))⟩
theorem memLive_c {D:Nat→Prop} {w:World} {mb cap bb:Nat} {ao:Option Addr} {arr:List Value} {wb zb:Nat→Nat} {M:Mem} (h:MemL D w mb ao cap bb arr wb zb M) :
 Calls Tryz.prog 56 #[.pointer (some ⟨mb,0,none⟩)] w fun e w'=>e=.returned (.int .i64 (live M.blocks))∧Fr Non w w':=by
 have c2:=h.c2;go_enter Tryz.func56,Tryz.ntmps56
 go_wp2
 go_ret
 exact ⟨rfl,fx⟩
theorem failed_c (w:World) (n:Int):Calls Tryz.prog 38 #[.int .i64 n] w fun e w' =>
 ∃ b,e=.returned (.pointer (some ⟨b,0,none⟩))∧Row w' b 44 [.int .i64 (if n=10 then 5 else 6),.int .i64 (if n=10 then 0 else n)]∧w.heap.size≤b∧Fr Non w w':=by
 by_cases h:n=10
 · subst h;go_enter Tryz.func38,Tryz.ntmps38
   go_wp2
   go_ret
   exact ⟨w.heap.size,rfl,Row.new w _ _,Nat.le_refl _,fx⟩
 · rw [if_neg h,if_neg h];have hd:(n == 10)=false:=by simpa using h
   go_enter Tryz.func38,Tryz.ntmps38
   go_wp2
   go_ret
   exact ⟨w.heap.size,rfl,Row.new w _ _,Nat.le_refl _,fx⟩
def Mem.load (M:Mem) (p:Wd):Wd × Int :=
 if M.errp p 1≠0 then (Wd.zero,M.errp p 1)
 else if (M.blk p.a).set.getD p.n.toNat false=false then (Wd.zero,14)
 else ((M.blk p.a).words.getD p.n.toNat Wd.zero,0)
section
variable {D:Nat→Prop} {w:World} {mb cap bb:Nat} {ao:Option Addr} {arr:List Value} {wb zb:Nat→Nat} {M:Mem}
theorem load_bad (h:MemL D w mb ao cap bb arr wb zb M) (p:Bool) (a n:Int) (he:M.errp ⟨p,a,n⟩ 1≠0) :
 Calls Tryz.prog 84 #[.pointer (Option.some ⟨mb,0,none⟩),.agg #[.bool p,.int .i64 a,.int .i64 n]] w fun e w' =>
  e=.returned (.tuple #[.agg #[.bool false,.int .i64 0,.int .i64 0],.int .i64 (M.errp ⟨p,a,n⟩ 1)])∧Fr Non w w':=by
 have hd:(M.errp ⟨p,a,n⟩ 1 != 0)=true:=by simpa using he
 have HC:=Lib.hid fun w1 (h1:MemL D w1 mb ao cap bb arr wb zb M)=>piece_bad h1 p a n 1 (by omega) he;generalize M.errp ⟨p,a,n⟩ 1=er at *;go_enter Tryz.func84,Tryz.ntmps84
 go_wp2_with fail
 refine (HC.out _ (h.fr (by exact fx) (fun _ _=>id))).mono ?_;rintro e1 w1 ⟨rfl,hf⟩;obtain ⟨r1,r2⟩:=hf.new_row2 id id;obtain ⟨d0,d1,d2,dz⟩:=row3 r2;have l1:=r1.lt;have l2:=r2.lt;clear r1 r2;go_wp2
 exact bodyPost_ret (v:=.tuple #[.agg #[.bool false,.int .i64 0,.int .i64 0],.int .i64 er]) (by simp [results,Tryz.results84,go_sem,d0,d1,d2]) rfl ⟨rfl,(by repeat (first|exact .refl _ _|assumption|apply Fr.drewN|apply Fr.drew|apply Fr.drewl|apply Fr.drewNl|apply Fr.alloc|(refine Fr.setCell ?_ (Or.inr (by simp)) _)|refine Fr.trans ?_ (by assumption)))⟩
theorem load_unset (h:MemL D w mb ao cap bb arr wb zb M) (p:Bool) (a n:Int) (he:M.errp ⟨p,a,n⟩ 1=0) (hs:(M.blk a).set.getD n.toNat false=false) :
 Calls Tryz.prog 84 #[.pointer (Option.some ⟨mb,0,none⟩),.agg #[.bool p,.int .i64 a,.int .i64 n]] w fun e w' =>
  e=.returned (.tuple #[.agg #[.bool false,.int .i64 0,.int .i64 0],.int .i64 14])∧Fr Non w w':=by
 have HC:=Lib.hid fun w1 (h1:MemL D w1 mb ao cap bb arr wb zb M)=>piece_good h1 p a n 1 (by omega) he;obtain ⟨he,hn0,_,hn1⟩:=Mem.errp_zero he;obtain ⟨k,rfl,rfl,hk,_,hr,hok,_,g2,_,_,hz,_,_,_,_,hlen⟩:=h.good he;rw [show ((k:Int)+1 - 1).toNat=k by omega] at HC;simp only at hn0 hn1;generalize M.blk ((k:Int)+1)=b at *;obtain ⟨j,rfl⟩:=Int.eq_ofNat_of_zero_le hn0;rw [Int.toNat_natCast] at hs;have hj:j<b.set.length:=by have:=hok.1;omega
 have f2:=hr.cell g2;have f3:=hz.cell (o:=j) (v:=.bool false) (by rw [List.getElem?_map,List.getElem?_eq_getElem hj];simp [List.getD,List.getElem?_eq_getElem hj] at hs;simp [hs]);have i0:(0:Int)≤(j:Int):=by omega
 have i1:(j:Int)<(b.words.length:Int):=by omega
 clear hs hok hj hn0 hn1 he g2;go_enter Tryz.func84,Tryz.ntmps84
 go_wp2_with fail
 refine (HC.out _ (h.fr (by exact fx) (fun _ _=>id))).mono ?_;rintro e1 w1 ⟨rfl,hf⟩;have hg:Fr Non w w1:=Fr.trans fx hf
 replace f2:=hg.cell f2 id
 replace f3:=hg.cell f3 id
 obtain ⟨r1,r2⟩:=hf.new_row2 id id;obtain ⟨b0,b1,b2,bz⟩:=row3 r1;obtain ⟨d0,d1,d2,dz⟩:=row3 r2;have l1:=r1.lt;have l2:=r2.lt;clear r1 r2 h hr hz;go_wp2
 go_quiet (fail)
 go_wp2
 exact bodyPost_ret (v:=.tuple #[.agg #[.bool false,.int .i64 0,.int .i64 0],.int .i64 14]) (by simp [results,Tryz.results84,go_sem,d0,d1,d2]) rfl ⟨rfl,(by repeat (first|exact .refl _ _|assumption|apply Fr.drewN|apply Fr.drew|apply Fr.drewl|apply Fr.drewNl|apply Fr.alloc|(refine Fr.setCell ?_ (Or.inr (by simp)) _)|refine Fr.trans ?_ (by assumption)))⟩
theorem load_set (h:MemL D w mb ao cap bb arr wb zb M) (p:Bool) (a n:Int) (he:M.errp ⟨p,a,n⟩ 1=0) (hs:(M.blk a).set.getD n.toNat false=true) (x:Wd) (hx:(M.blk a).words.getD n.toNat Wd.zero=x) :
 Calls Tryz.prog 84 #[.pointer (Option.some ⟨mb,0,none⟩),.agg #[.bool p,.int .i64 a,.int .i64 n]] w fun e w' =>
  e=.returned (.tuple #[.agg #[.bool x.p,.int .i64 x.a,.int .i64 x.n],.int .i64 0])∧Fr Non w w':=by
 have HC:=Lib.hid fun w1 (h1:MemL D w1 mb ao cap bb arr wb zb M)=>piece_good h1 p a n 1 (by omega) he;obtain ⟨he,hn0,_,hn1⟩:=Mem.errp_zero he;obtain ⟨k,rfl,rfl,hk,_,hr,hok,g1,g2,_,hw,hz,_,_,_,_,hlen⟩:=h.good he;rw [show ((k:Int)+1 - 1).toNat=k by omega] at HC;simp only at hn0 hn1;generalize M.blk ((k:Int)+1)=b at *;obtain ⟨j,rfl⟩:=Int.eq_ofNat_of_zero_le hn0;rw [Int.toNat_natCast] at hs hx;have hj:j<b.set.length:=by have:=hok.1;omega
 have hj2:j<b.words.length:=by omega
 have f1:=hr.cell g1;have f2:=hr.cell g2;have f3:=hz.cell (o:=j) (v:=.bool true) (by rw [List.getElem?_map,List.getElem?_eq_getElem hj];simp [List.getD,List.getElem?_eq_getElem hj] at hs;simp [hs]);have hx':b.words[j]?=Option.some x:=by rw [List.getElem?_eq_getElem hj2];simp [List.getD,List.getElem?_eq_getElem hj2] at hx;rw [hx]
 obtain ⟨x0,x1,x2⟩:=flat_get hx'
 replace x0:=hw.cell x0
 replace x1:=hw.cell x1
 replace x2:=hw.cell x2
 have i0:(0:Int)≤(j:Int):=by omega
 have i1:(j:Int)<(b.words.length:Int):=by omega
 clear hs hok hj hj2 hn0 hn1 he g2 g1 hx hx';go_enter Tryz.func84,Tryz.ntmps84
 go_wp2_with fail
 refine (HC.out _ (h.fr (by exact fx) (fun _ _=>id))).mono ?_;rintro e1 w1 ⟨rfl,hf⟩;have hg:Fr Non w w1:=Fr.trans fx hf
 replace f1:=hg.cell f1 id
 replace f2:=hg.cell f2 id
 replace f3:=hg.cell f3 id
 replace x0:=hg.cell x0 id
 replace x1:=hg.cell x1 id
 replace x2:=hg.cell x2 id
 obtain ⟨r1,r2⟩:=hf.new_row2 id id;obtain ⟨b0,b1,b2,bz⟩:=row3 r1;obtain ⟨d0,d1,d2,dz⟩:=row3 r2;have l1:=r1.lt;have l2:=r2.lt;have n1:w.heap.size+1≠bb:=by have:=hr.lt;omega
 have n2:w.heap.size+1≠wb k:=by have:=hw.lt;omega
 clear r1 r2 h hr hz hw;go_wp2
 go_quiet (fail)
 go_wp2
 go_region_held3 (fun w'=>w'.cell? ⟨bb,k * 3,none⟩=Option.some (.slice (Option.some ⟨wb k,0,none⟩) b.words.length b.words.length)∧w'.cell? ⟨w.heap.size,2,none⟩=Option.some (.int .i64 (j:Int)) ∧
  w'.cell? ⟨wb k,j * 3,none⟩=Option.some (.bool x.p)∧w'.cell? ⟨wb k,j * 3+1,none⟩=Option.some (.int .i64 x.a)∧w'.cell? ⟨wb k,j * 3+2,none⟩=Option.some (.int .i64 x.n)) (go_keep) (fail)
 go_wp2
 exact bodyPost_ret (v:=.tuple #[.agg #[.bool x.p,.int .i64 x.a,.int .i64 x.n],.int .i64 0]) (by simp [results,Tryz.results84,go_sem,d0,d1,d2]) rfl ⟨rfl,(by repeat (first|exact .refl _ _|assumption|apply Fr.drewN|apply Fr.drew|apply Fr.drewl|apply Fr.drewNl|apply Fr.alloc|(refine Fr.setCell ?_ (Or.inr (by simp)) _)|refine Fr.trans ?_ (by assumption)))⟩
theorem load_c (h:MemL D w mb ao cap bb arr wb zb M) (p:Bool) (a n:Int) :
 Calls Tryz.prog 84 #[.pointer (Option.some ⟨mb,0,none⟩),.agg #[.bool p,.int .i64 a,.int .i64 n]] w fun e w' =>
  e=.returned (.tuple #[.agg #[.bool (M.load ⟨p,a,n⟩).1.p,.int .i64 (M.load ⟨p,a,n⟩).1.a,.int .i64 (M.load ⟨p,a,n⟩).1.n],.int .i64 (M.load ⟨p,a,n⟩).2])∧Fr Non w w':=by
 unfold Mem.load;by_cases he:M.errp ⟨p,a,n⟩ 1=0
 · rw [if_neg (by simpa using he)];cases hs:(M.blk a).set.getD n.toNat false with
   | false=>rw [if_pos rfl];exact load_unset h p a n he hs
   | true=>rw [if_neg (by simp)];exact load_set h p a n he hs _ rfl
 · rw [if_pos he];exact load_bad h p a n he
end
def Blk.put (b:Blk) (j:Nat) (x:Wd):Blk:=⟨b.words.set j x,b.set.set j true,b.freed⟩
def Mem.put (M:Mem) (k:Nat) (b:Blk):Mem:={ M with blocks:=M.blocks.set k b }
def Mem.store (M:Mem) (p x:Wd):Mem × Int :=
 if M.errp p 1≠0 then (M,M.errp p 1) else (M.put (p.a - 1).toNat ((M.blk p.a).put p.n.toNat x),0)
section
variable {D:Nat→Prop} {w:World} {mb cap bb:Nat} {ao:Option Addr} {arr:List Value} {wb zb:Nat→Nat} {M:Mem}
theorem MemL.upd (h:MemL D w mb ao cap bb arr wb zb M) {k:Nat} {b:Blk} (hb:M.blocks[k]?=Option.some b) (hf:b.freed=false) {w':World} (f:Fr (fun x=>x=wb k∨x=zb k) w w')
 {b':Blk} (hf':b'.freed=false) (hw:b'.words.length=b.words.length) (hz:b'.set.length=b'.words.length)
 (rw':Row w' (wb k) 40 (flat b'.words)) (rz':Row w' (zb k) 4 (b'.set.map Value.bool)):MemL D w' mb ao cap bb arr wb zb (M.put k b'):=by
 have hk:k<M.blocks.length:=(List.getElem?_eq_some_iff.1 hb).1;have hat:=h.blk k b hb;unfold Blk.at at hat;rw [if_neg (by simp [hf])] at hat;obtain ⟨g1,g2,g3,g4,g5,g6,g7⟩:=hat;have hu:used (M.put k b').blocks=used M.blocks:=by have:=used_set hb b';simp only [Mem.put];omega
 have hl:live (M.put k b').blocks=live M.blocks:=by have:=live_set hb b';simp only [Mem.put,hf,hf',Bool.false_eq_true,if_false] at *;omega
 have hn:(M.put k b').blocks.length=M.blocks.length:=by simp [Mem.put]
 have nw:∀ {x:Nat} {T:TypeId} {cs:List Value},Row w x T cs→T≠40→T≠4→¬ (x=wb k∨x=zb k):=fun r h1 h2=>by
  rintro (rfl|rfl)
  · exact r.ne g4 h1 rfl
  · exact r.ne g5 h2 rfl
 refine { head:=?_,own:=h.own,row:=?_,blk:=?_,one:=?_,ok:=?_,lt:=fun i hi=>⟨Nat.lt_of_lt_of_le (h.lt i (hn ▸ hi)).1 f.size,Nat.lt_of_lt_of_le (h.lt i (hn ▸ hi)).2 f.size⟩ }
 · rw [hu,hl,hn];exact f.row h.head (nw h.head (by decide) (by decide))
 · rw [hn];rcases h.row with ⟨_,_,h3⟩|⟨h1,h2,h3,h4,h5,h6⟩
   · rw [h3] at hk;simp at hk
   · exact Or.inr ⟨h1,f.row h2 (nw h2 (by decide) (by decide)),h3,h4,h5,h6⟩
 · intro i c hc;simp only [Mem.put] at hc;by_cases hik:k=i
   · subst hik;rw [List.getElem?_set_self hk] at hc;cases hc
     unfold Blk.at;rw [if_neg (by simp [hf']),hw];exact ⟨g1,g2,g3,rw',rz',g6,g7⟩
   · rw [List.getElem?_set_ne hik] at hc;have hi:i<M.blocks.length:=(List.getElem?_eq_some_iff.1 hc).1;have hci:=h.blk i c hc;unfold Blk.at at *;split at hci
     · rename_i hcf;rw [if_pos hcf];exact hci
     · rename_i hcf;rw [if_neg hcf];obtain ⟨e1,e2,e3,e4,e5,e6,e7⟩:=hci;obtain ⟨o1,o2⟩:=h.one i k hi hk (Ne.symm hik);refine ⟨e1,e2,e3,f.row e4 ?_,f.row e5 ?_,e6,e7⟩
       · rintro (e|e)
         · exact o1 e
         · exact e4.ne (e ▸ g5) (by decide) rfl
       · rintro (e|e)
         · exact e5.ne (e ▸ g4) (by decide) rfl
         · exact o2 e
 · rw [hn];exact h.one
 · refine ⟨h.ok.room,by rw [hu];exact h.ok.used,fun c hc=>?_⟩;rcases List.mem_or_eq_of_mem_set hc with hc|rfl
   · exact h.ok.blk c hc
   · exact ⟨hz,by simp [hf']⟩
theorem store_bad (h:MemL D w mb ao cap bb arr wb zb M) (p:Bool) (a n:Int) (q:Bool) (c m:Int) (he:M.errp ⟨p,a,n⟩ 1≠0) :
 Calls Tryz.prog 39 #[.pointer (Option.some ⟨mb,0,none⟩),.agg #[.bool p,.int .i64 a,.int .i64 n],.agg #[.bool q,.int .i64 c,.int .i64 m]] w fun e w' =>
  e=.returned (.int .i64 (M.errp ⟨p,a,n⟩ 1))∧Fr Non w w':=by
 have hd:(M.errp ⟨p,a,n⟩ 1 == 0)=false:=by simpa using he
 have HC:=Lib.hid fun w1 (h1:MemL D w1 mb ao cap bb arr wb zb M)=>piece_bad h1 p a n 1 (by omega) he;generalize M.errp ⟨p,a,n⟩ 1=er at *;go_enter Tryz.func39,Tryz.ntmps39
 go_wp2_with fail
 refine (HC.out _ (h.fr (by exact fx) (fun _ _=>id))).mono ?_;rintro e1 w1 ⟨rfl,hf⟩;go_wp2
 go_ret
 exact ⟨rfl,(by repeat (first|exact .refl _ _|assumption|apply Fr.drewN|apply Fr.drew|apply Fr.drewl|apply Fr.drewNl|apply Fr.alloc|refine Fr.trans ?_ (by assumption)))⟩
theorem store_good (h:MemL D w mb ao cap bb arr wb zb M) (p:Bool) (a n:Int) (q:Bool) (c m:Int) (he:M.errp ⟨p,a,n⟩ 1=0) :
 Calls Tryz.prog 39 #[.pointer (Option.some ⟨mb,0,none⟩),.agg #[.bool p,.int .i64 a,.int .i64 n],.agg #[.bool q,.int .i64 c,.int .i64 m]] w fun e w' =>
  e=.returned (.int .i64 0)∧MemL D w' mb ao cap bb arr wb zb (M.put (a - 1).toNat ((M.blk a).put n.toNat ⟨q,c,m⟩))∧Fr D w w':=by
 have HC:=Lib.hid fun w1 (h1:MemL D w1 mb ao cap bb arr wb zb M)=>piece_good h1 p a n 1 (by omega) he;obtain ⟨he,hn0,_,hn1⟩:=Mem.errp_zero he;obtain ⟨k,rfl,rfl,hk,hbk,hr,hok,g1,g2,_,hw,hz,dw,dz,_,hfr,hlen⟩:=h.good he;rw [show ((k:Int)+1 - 1).toNat=k by omega] at HC ⊢;simp only at hn0 hn1;generalize M.blk ((k:Int)+1)=b at *;obtain ⟨j,rfl⟩:=Int.eq_ofNat_of_zero_le hn0;rw [Int.toNat_natCast];have hj:j<b.set.length:=by have:=hok.1;omega
 have hj2:j<b.words.length:=by omega
 have f1:=hr.cell g1;have f2:=hr.cell g2;obtain ⟨x0,x1,x2⟩:=flat_get (List.getElem?_eq_getElem hj2)
 replace x0:=hw.cell x0
 replace x1:=hw.cell x1
 replace x2:=hw.cell x2
 have z0:=hz.cell (o:=j) (by rw [List.getElem?_map,List.getElem?_eq_getElem hj];rfl);generalize b.words[j]=y at *;generalize b.set[j]=t at *;have i0:(0:Int)≤(j:Int):=by omega
 have i1:(j:Int)<(b.words.length:Int):=by omega
 have e1:bb≠wb k:=hr.ne hw (by decide);have e2:bb≠zb k:=hr.ne hz (by decide);have e3:wb k≠zb k:=hw.ne hz (by decide);have n1:wb k≠w.heap.size:=Nat.ne_of_lt hw.lt;have n2:wb k≠w.heap.size+1:=by have:=hw.lt;omega
 have n3:zb k≠w.heap.size:=Nat.ne_of_lt hz.lt;have n4:zb k≠w.heap.size+1:=by have:=hz.lt;omega
 have e1':=e1.symm;have e2':=e2.symm;have e3':=e3.symm;clear hn0 hn1 he g2 g1;have HH:=Lib.hid (And.intro h (And.intro hbk (And.intro hfr (And.intro hok (And.intro hw (And.intro hz (And.intro dw (And.intro dz (And.intro hj hj2)))))))));clear hbk hfr hok dw dz hj hj2;go_enter Tryz.func39,Tryz.ntmps39
 go_wp2_with fail
 refine (HC.out _ (h.fr (by exact fx) (fun _ _=>id))).mono ?_;rintro e1 w1 ⟨rfl,hf⟩;have hg:Fr Non w w1:=Fr.trans fx hf
 replace f1:=hg.cell f1 id
 replace f2:=hg.cell f2 id
 replace x0:=hg.cell x0 id
 replace x1:=hg.cell x1 id
 replace x2:=hg.cell x2 id
 replace z0:=hg.cell z0 id
 have y0:=(hg.row hw id).frozen;have y1:=(hg.row hz id).frozen;obtain ⟨r1,r2⟩:=hf.new_row2 id id;obtain ⟨b0,b1,b2,bz⟩:=row3 r1;obtain ⟨d0,d1,d2,dz⟩:=row3 r2;clear r1 r2 h hr hz hw b0 b1 bz dz;go_wp2
 go_region_held3 (fun w'=>w'.cell? ⟨bb,k * 3,none⟩=Option.some (.slice (Option.some ⟨wb k,0,none⟩) b.words.length b.words.length)∧w'.cell? ⟨bb,k * 3+1,none⟩=Option.some (.slice (Option.some ⟨zb k,0,none⟩) b.words.length b.words.length) ∧
  w'.cell? ⟨w.heap.size,2,none⟩=Option.some (.int .i64 (j:Int)) ∧
  w'.cell? ⟨w.heap.size+1,0,none⟩=Option.some (.bool q)∧w'.cell? ⟨w.heap.size+1,1,none⟩=Option.some (.int .i64 c)∧w'.cell? ⟨w.heap.size+1,2,none⟩=Option.some (.int .i64 m)) (go_keep) (fail)
 go_wp2
 go_ret
 obtain ⟨h,hbk,hfr,hok,hw,hz,dw,dz,hj,hj2⟩:=HH.out;have rw1:=((((hg.row hw id).set_same (j * 3) (.bool q)).set_same (j * 3+1) (.int .i64 c)).set_same (j * 3+2) (.int .i64 m)).set_ne (a:=⟨zb k,j,none⟩) e3 (.bool true);have rz1:=((((hg.row hz id).set_ne (a:=⟨wb k,j * 3,none⟩) e3' (.bool q)).set_ne (a:=⟨wb k,j * 3+1,none⟩) e3' (.int .i64 c)).set_ne (a:=⟨wb k,j * 3+2,none⟩) e3' (.int .i64 m)).set_same j (.bool true);rw [flat_set b.words j ⟨q,c,m⟩] at rw1;rw [show (b.set.map Value.bool).set j (.bool true)=(b.set.set j true).map Value.bool by rw [List.map_set]] at rz1
 have hfx:Fr (fun x=>x=wb k∨x=zb k) w ((((w1.setCell ⟨wb k,j * 3,none⟩ (.bool q)).setCell ⟨wb k,j * 3+1,none⟩ (.int .i64 c)).setCell ⟨wb k,j * 3+2,none⟩ (.int .i64 m)).setCell ⟨zb k,j,none⟩ (.bool true)) :=
  ((((hg.mono fun _ _ h=>h.elim).setCell (Or.inl (Or.inl rfl)) _).setCell (Or.inl (Or.inl rfl)) _).setCell (Or.inl (Or.inl rfl)) _).setCell (Or.inl (Or.inr rfl)) _
 refine ⟨rfl,?_,?_⟩
 · exact h.upd hbk hfr (hfx.drewN _) (b':=b.put j ⟨q,c,m⟩) hfr (by simp [Blk.put]) (by simp [Blk.put,hok.1]) rw1 rz1
 · exact (hfx.mono fun x _ h=>by rcases h with rfl|rfl;exact dw;exact dz).drewN _
theorem store_c (h:MemL D w mb ao cap bb arr wb zb M) (p:Bool) (a n:Int) (q:Bool) (c m:Int) :
 Calls Tryz.prog 39 #[.pointer (Option.some ⟨mb,0,none⟩),.agg #[.bool p,.int .i64 a,.int .i64 n],.agg #[.bool q,.int .i64 c,.int .i64 m]] w fun e w' =>
  e=.returned (.int .i64 (M.store ⟨p,a,n⟩ ⟨q,c,m⟩).2)∧MemL D w' mb ao cap bb arr wb zb (M.store ⟨p,a,n⟩ ⟨q,c,m⟩).1∧Fr D w w':=by
 unfold Mem.store;by_cases he:M.errp ⟨p,a,n⟩ 1=0
 · rw [if_neg (by simpa using he)];exact store_good h p a n q c m he
 · rw [if_pos he];exact (store_bad h p a n q c m he).mono fun e w' ⟨h1,h2⟩=>⟨h1,h.fr h2 (fun _ _=>id),h2.mono fun _ _ h=>h.elim⟩
end
def Mem.free (M:Mem) (p:Wd):Mem × Int :=
 if M.errb p≠0 then (M,M.errb p) else if p.n≠0 then (M,13) else (M.put (p.a - 1).toNat Blk.gone,0)
section
variable {D:Nat→Prop} {w:World} {mb cap bb:Nat} {ao:Option Addr} {arr:List Value} {wb zb:Nat→Nat} {M:Mem}
theorem MemL.rem (h:MemL D w mb ao cap bb arr wb zb M) {k:Nat} {b:Blk} (hb:M.blocks[k]?=Option.some b) {w':World} (f:Fr (fun x=>x=mb∨x=bb) w w')
 (rh:Row w' mb 135 [.int .i64 M.room,.int .i64 ((used (M.put k Blk.gone).blocks:Nat):Int),.int .i64 ((live (M.put k Blk.gone).blocks:Nat):Int),.slice ao M.blocks.length cap])
 (rb:Row w' bb 147 (((arr.set (k * 3) (.slice none 0 0)).set (k * 3+1) (.slice none 0 0)).set (k * 3+2) (.bool true))) :
 MemL D w' mb ao cap bb (((arr.set (k * 3) (.slice none 0 0)).set (k * 3+1) (.slice none 0 0)).set (k * 3+2) (.bool true)) wb zb (M.put k Blk.gone):=by
 have hk:k<M.blocks.length:=(List.getElem?_eq_some_iff.1 hb).1;have hn:(M.put k Blk.gone).blocks.length=M.blocks.length:=by simp [Mem.put]
 obtain ⟨h1,h2,h3,h4,h5,h6⟩:ao=Option.some ⟨bb,0,none⟩∧Row w bb 147 arr∧arr.length=cap * 3∧M.blocks.length≤cap∧cap≤maxLen∧D bb:=by
  rcases h.row with ⟨_,_,h3⟩|h
  · rw [h3] at hk;simp at hk
  · exact h
 have nw:∀ {x:Nat} {T:TypeId} {cs:List Value},Row w x T cs→T≠135→T≠147→¬ (x=mb∨x=bb):=fun r h1 h3=>by
  rintro (rfl|rfl)
  · exact r.ne h.head h1 rfl
  · exact r.ne h2 h3 rfl
 refine { head:=?_,own:=h.own,row:=?_,blk:=?_,one:=?_,ok:=?_,lt:=fun i hi=>⟨Nat.lt_of_lt_of_le (h.lt i (hn ▸ hi)).1 f.size,Nat.lt_of_lt_of_le (h.lt i (hn ▸ hi)).2 f.size⟩ }
 · rw [hn];exact rh
 · rw [hn];exact Or.inr ⟨h1,rb,by simpa using h3,h4,h5,h6⟩
 · intro i c hc;simp only [Mem.put] at hc;by_cases hik:k=i
   · subst hik;rw [List.getElem?_set_self hk] at hc;cases hc
     unfold Blk.at;rw [if_pos (show Blk.gone.freed=true from rfl)];have hl:k * 3+2<arr.length:=by omega
     refine ⟨?_,?_,?_⟩
     · rw [List.getElem?_set_ne (by omega),List.getElem?_set_ne (by omega),List.getElem?_set_self (by omega)]
     · rw [List.getElem?_set_ne (by omega),List.getElem?_set_self (by simp;omega)]
     · rw [List.getElem?_set_self (by simp;omega)]
   · rw [List.getElem?_set_ne hik] at hc;have hci:=h.blk i c hc
     have hs:∀ j,j<3→(((arr.set (k * 3) (.slice none 0 0)).set (k * 3+1) (.slice none 0 0)).set (k * 3+2) (.bool true))[i * 3+j]?=arr[i * 3+j]?:=fun j hj=>by
      rw [List.getElem?_set_ne (by omega),List.getElem?_set_ne (by omega),List.getElem?_set_ne (by omega)]
     have s0:=hs 0 (by omega);have s1:=hs 1 (by omega);have s2:=hs 2 (by omega);simp only [Nat.add_zero] at s0;unfold Blk.at at *;rw [s0,s1,s2];split at hci
     · rename_i hcf;rw [if_pos hcf];exact hci
     · rename_i hcf;rw [if_neg hcf];obtain ⟨e1,e2,e3,e4,e5,e6,e7⟩:=hci;exact ⟨e1,e2,e3,f.row e4 (nw e4 (by decide) (by decide)),f.row e5 (nw e5 (by decide) (by decide)),e6,e7⟩
 · rw [hn];exact h.one
 · have hu:=used_set hb Blk.gone;refine ⟨h.ok.room,?_,fun c hc=>?_⟩
   · have:=h.ok.used;simp only [Mem.put,Blk.gone,List.length_nil] at *;omega
   · rcases List.mem_or_eq_of_mem_set hc with hc|rfl
     · exact h.ok.blk c hc
     · exact ⟨rfl,fun _=>rfl⟩
theorem free_bad (h:MemL D w mb ao cap bb arr wb zb M) (p:Bool) (a n:Int) (he:M.errb ⟨p,a,n⟩≠0) :
 Calls Tryz.prog 111 #[.pointer (Option.some ⟨mb,0,none⟩),.agg #[.bool p,.int .i64 a,.int .i64 n]] w fun e w' =>
  e=.returned (.int .i64 (M.errb ⟨p,a,n⟩))∧Fr Non w w':=by
 have hd:(M.errb ⟨p,a,n⟩ != 0)=true:=by simpa using he
 have HC:=Lib.hid fun w1 (h1:MemL D w1 mb ao cap bb arr wb zb M)=>block_bad h1 p a n he;generalize M.errb ⟨p,a,n⟩=er at *;go_enter Tryz.func111,Tryz.ntmps111
 go_wp2_with fail
 refine (HC.out _ (h.fr (by exact fx) (fun _ _=>id))).mono ?_;rintro e1 w1 ⟨rfl,hf⟩;go_wp2
 go_ret
 exact ⟨rfl,(by repeat (first|exact .refl _ _|assumption|apply Fr.drewN|apply Fr.drew|apply Fr.drewl|apply Fr.drewNl|apply Fr.alloc|refine Fr.trans ?_ (by assumption)))⟩
theorem free_off (h:MemL D w mb ao cap bb arr wb zb M) (p:Bool) (a n:Int) (he:M.errb ⟨p,a,n⟩=0) (hn:n≠0) :
 Calls Tryz.prog 111 #[.pointer (Option.some ⟨mb,0,none⟩),.agg #[.bool p,.int .i64 a,.int .i64 n]] w fun e w' =>
  e=.returned (.int .i64 13)∧Fr Non w w':=by
 have hd:(n != 0)=true:=by simpa using hn
 have HC:=Lib.hid fun w1 (h1:MemL D w1 mb ao cap bb arr wb zb M)=>block_good h1 p a n he;generalize (a - 1).toNat * 3=o at *;go_enter Tryz.func111,Tryz.ntmps111
 go_wp2_with fail
 refine (HC.out _ (h.fr (by exact fx) (fun _ _=>id))).mono ?_;rintro e1 w1 ⟨rfl,hf⟩;have b2:=hf.new_cell (by simp [Non]) (o:=2) rfl;go_wp2
 go_ret
 exact ⟨rfl,(by repeat (first|exact .refl _ _|assumption|apply Fr.drewN|apply Fr.drew|apply Fr.drewl|apply Fr.drewNl|apply Fr.alloc|refine Fr.trans ?_ (by assumption)))⟩
theorem free_good (h:MemL D w mb ao cap bb arr wb zb M) (p:Bool) (a:Int) (he:M.errb ⟨p,a,0⟩=0) :
 Calls Tryz.prog 111 #[.pointer (Option.some ⟨mb,0,none⟩),.agg #[.bool p,.int .i64 a,.int .i64 0]] w fun e w' =>
  e=.returned (.int .i64 0)∧(∃ arr',MemL D w' mb ao cap bb arr' wb zb (M.put (a - 1).toNat Blk.gone))∧Fr D w w':=by
 have HC:=Lib.hid fun w1 (h1:MemL D w1 mb ao cap bb arr wb zb M)=>block_good h1 p a 0 he;obtain ⟨k,rfl,rfl,hk,hbk,hr,hok,g1,g2,g3,hw,hz,dw,dz,dbb,hfr,hlen⟩:=h.good he;rw [show ((k:Int)+1 - 1).toNat=k by omega] at HC ⊢;generalize hb':M.blk ((k:Int)+1)=b at *;have f1:=hr.cell g1;have f2:=hr.cell g2;have f3:=hr.cell g3;have c1:=h.c1;have c2:=h.c2;have e1:mb≠bb:=h.head.ne hr (by decide);have e1':=e1.symm
 have hu:(used M.blocks:Int) - (b.words.length:Int)=((used (M.put k Blk.gone).blocks:Nat):Int):=by
  have:=used_set hbk Blk.gone;simp only [Mem.put,Blk.gone,List.length_nil] at *;omega
 have hl:(live M.blocks:Int) - 1=((live (M.put k Blk.gone).blocks:Nat):Int):=by
  have:=live_set hbk Blk.gone;simp only [Mem.put,Blk.gone,hfr,if_true,Bool.false_eq_true,if_false] at *;omega
 have hub:(used M.blocks:Int)≤1048576:=by have:=h.ok.used;have:=h.ok.room;omega
 have hlb:live M.blocks≤maxLen:=by
  have:=live_le M.blocks;rcases h.row with ⟨_,_,h3⟩|⟨_,_,_,h6,h7,_⟩
  · rw [h3] at hk;simp at hk
  · omega
 unfold maxLen at hlb;have w1:IntKind.i64.wrap ((used M.blocks:Int) - (b.words.length:Int))=((used (M.put k Blk.gone).blocks:Nat):Int):=by rw [hu];exact IntWalk.i64_in _ (by omega)
 have w2:IntKind.i64.wrap ((live M.blocks:Int) - 1)=((live (M.put k Blk.gone).blocks:Nat):Int):=by rw [hl];exact IntWalk.i64_in _ (by omega)
 clear hb' hu hl hub hlb g1 g2 g3;have HH:=Lib.hid (And.intro h (And.intro hbk (And.intro hfr (And.intro hr (And.intro hk dbb)))));clear hbk hfr hok dw dz he dbb hz hw;generalize hu1:used M.blocks=u1 at *;generalize hl1:live M.blocks=l1 at *;generalize hu2:((used (M.put k Blk.gone).blocks:Nat):Int)=u2 at *;generalize hl2:((live (M.put k Blk.gone).blocks:Nat):Int)=l2 at *;have HE:=Lib.hid (And.intro hu1 (And.intro hl1 (And.intro hu2 hl2)));clear hu1 hl1 hu2 hl2;go_enter Tryz.func111,Tryz.ntmps111
 go_wp2_with fail
 refine (HC.out _ (h.fr (by exact fx) (fun _ _=>id))).mono ?_;rintro e1 w1 ⟨rfl,hf⟩;have hg:Fr Non w w1:=Fr.trans fx hf
 replace f1:=hg.cell f1 id
 replace f2:=hg.cell f2 id
 replace f3:=hg.cell f3 id
 replace c1:=hg.cell c1 id
 replace c2:=hg.cell c2 id
 have y0:=(hg.row h.head id).frozen;have y1:=(hg.row hr id).frozen;have b2:=hf.new_cell (by simp [Non]) (o:=2) rfl;clear h hr;go_wp2
 go_still_tail 12,(by kernel_rfl)
 go_wp2
 go_ret
 obtain ⟨h,hbk,hfr,hr,hk,dbb⟩:=HH.out;obtain ⟨rfl,rfl,rfl,rfl⟩:=HE.out;have rh:=((((hg.row h.head id).set_same 1 (.int .i64 ((used (M.put k Blk.gone).blocks:Nat):Int))).set_same 2 (.int .i64 ((live (M.put k Blk.gone).blocks:Nat):Int))).set_ne (a:=⟨bb,k * 3,none⟩) e1 (.slice none 0 0)).set_ne (a:=⟨bb,k * 3+1,none⟩) e1 (.slice none 0 0) |>.set_ne (a:=⟨bb,k * 3+2,none⟩) e1 (.bool true);have rb:=((((hg.row hr id).set_ne (a:=⟨mb,1,none⟩) e1' (.int .i64 ((used (M.put k Blk.gone).blocks:Nat):Int))).set_ne (a:=⟨mb,2,none⟩) e1' (.int .i64 ((live (M.put k Blk.gone).blocks:Nat):Int))).set_same (k * 3) (.slice none 0 0)).set_same (k * 3+1) (.slice none 0 0) |>.set_same (k * 3+2) (.bool true);have hfx:=(((((hg.mono (D':=fun x=>x=mb∨x=bb) fun _ _ h=>h.elim).setCell (a:=⟨mb,1,none⟩) (Or.inl (Or.inl rfl)) (.int .i64 ((used (M.put k Blk.gone).blocks:Nat):Int))).setCell (a:=⟨mb,2,none⟩) (Or.inl (Or.inl rfl)) (.int .i64 ((live (M.put k Blk.gone).blocks:Nat):Int))).setCell (a:=⟨bb,k * 3,none⟩) (Or.inl (Or.inr rfl)) (.slice none 0 0)).setCell (a:=⟨bb,k * 3+1,none⟩) (Or.inl (Or.inr rfl)) (.slice none 0 0)).setCell (a:=⟨bb,k * 3+2,none⟩) (Or.inl (Or.inr rfl)) (.bool true);refine ⟨rfl,⟨_,h.rem hbk hfx.drew rh.drew rb.drew⟩,?_⟩;exact (hfx.mono fun x _ hx=>by rcases hx with rfl|rfl;exact h.own;exact dbb).drew
theorem free_c (h:MemL D w mb ao cap bb arr wb zb M) (p:Bool) (a n:Int) :
 Calls Tryz.prog 111 #[.pointer (Option.some ⟨mb,0,none⟩),.agg #[.bool p,.int .i64 a,.int .i64 n]] w fun e w' =>
  e=.returned (.int .i64 (M.free ⟨p,a,n⟩).2)∧(∃ arr',MemL D w' mb ao cap bb arr' wb zb (M.free ⟨p,a,n⟩).1)∧Fr D w w':=by
 unfold Mem.free;by_cases he:M.errb ⟨p,a,n⟩=0
 · rw [if_neg (by simpa using he)];by_cases hn:n=0
   · subst hn;rw [if_neg (by simp)];exact free_good h p a he
   · rw [if_pos hn];exact (free_off h p a n he hn).mono fun e w' ⟨h1,h2⟩=>⟨h1,⟨_,h.fr h2 (fun _ _=>id)⟩,h2.mono fun _ _ h=>h.elim⟩
 · rw [if_pos he];exact (free_bad h p a n he).mono fun e w' ⟨h1,h2⟩=>⟨h1,⟨_,h.fr h2 (fun _ _=>id)⟩,h2.mono fun _ _ h=>h.elim⟩
end
end Go.Proofs.YtlbomnbpahmphaaGreat
