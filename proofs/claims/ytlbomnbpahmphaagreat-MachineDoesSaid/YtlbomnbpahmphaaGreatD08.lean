/- Slices that own their row: what they hold, what a frame leaves of them, and 'append' onto them. Conditions: those of each lemma. -/
import Derived.Deep.AppendLies
import Derived.Deep.Fields
import Derived.OwnWalk
import Derived.Test.YtlbomnbpahmphaaGreatD01
namespace Go.Proofs.YtlbomnbpahmphaaGreat
open Go.RowKit
set_option maxRecDepth 100000
def Own (w:World) (v:Value) (T:TypeId) (k n:Nat) (cs:List Value):Prop:=w.ownsRow 0 T k v n cs
section
variable {w w':World} {v:Value} {T:TypeId} {k n:Nat} {cs:List Value} {D:Nat→Prop}
theorem Own.nil (w:World) (T:TypeId) (k:Nat):Own w (.slice none 0 0) T k 0 []:=World.ownsRow_nil w 0 T k
theorem Own.length (h:Own w v T k n cs):cs.length=n * k:=h.1
theorem Own.form (h:Own w v T k n cs):∃ ao cap,v=.slice ao n cap∧n≤cap∧cap≤maxLen∧(0<n→∃ g,ao=some ⟨g,0,none⟩)∧(∀ a,ao=some a→a=⟨a.block,0,none⟩∧a.block<w.heap.size):=by
 rcases h.2 with ⟨h1,h2⟩|⟨g,cap,cur,h1,_,h3,h4,h5,_,_⟩
 · exact ⟨none,0,by rw [h1,h2],by omega,by omega,fun h=>absurd h (by omega),fun a ha=>by cases ha⟩
 · exact ⟨_,cap,h1,h4,h5,fun _=>⟨g,rfl⟩,fun a ha=>by cases ha;exact ⟨rfl,lt_of_block h3⟩⟩
theorem Own.lt (h:Own w v T k n cs) {g:Nat} (hg:v.ownBlock=some g):g<w.heap.size:=by
 rcases h.2 with ⟨rfl,_⟩|⟨g',cap,cur,rfl,_,h3,_⟩
 · cases hg
 · simp [Value.ownBlock] at hg;subst hg;exact lt_of_block h3
theorem Own.row (h:Own w v T k n cs) {g:Nat} (hg:v.ownBlock=some g):∃ arr,Row w g T arr:=by
 rcases h.2 with ⟨rfl,_⟩|⟨g',cap,cur,rfl,_,h3,_⟩
 · cases hg
 · simp [Value.ownBlock] at hg;subst hg;exact ⟨cur.toList,h3⟩
theorem Own.fr (h:Own w v T k n cs) (f:Fr D w w') (hd:∀ g,v.ownBlock=some g→¬ D g):Own w' v T k n cs:=by
 refine ⟨h.1,?_⟩;rcases h.2 with hn|⟨g,cap,cur,rfl,hb,hgg,rest⟩
 · exact .inl hn
 · exact .inr ⟨g,cap,cur,rfl,hb,(f.keep g (lt_of_block hgg) (hd g rfl)).trans hgg,rest⟩
theorem Own.cell {ao:Option Addr} {c g:Nat} (h:Own w (.slice ao n c) T k n cs) (hg:ao=some ⟨g,0,none⟩) {j:Nat} {u:Value} (hu:cs[j]?=some u):w.cell? ⟨g,j,none⟩=some u:=by
 have:=h.cells (g:=g) (by rw [hg];rfl) j u hu;rw [WideShapes.add_plain] at this
 simpa using this
theorem Own.drew (h:Own w v T k n cs):Own w.drew v T k n cs:=h
theorem Own.ne (h:Own w v T k n cs) {b:Nat} {T':TypeId} {arr:List Value} (r:Row w b T' arr) (hT:T≠T'):v.ownBlock≠some b:=fun e=>by
 obtain ⟨a,ha⟩:=h.row e;exact ha.ne r hT rfl
theorem Own.mk {g len cap:Nat} {arr:List Value} (r:Row w g T arr) (hl:arr.length=cap * k) (hn:len≤cap) (hc:cap≤maxLen):Own w (.slice (some ⟨g,0,none⟩) len cap) T k len (arr.take (len * k)):=by
 refine ⟨?_,Or.inr ⟨g,cap,arr.toArray,rfl,Nat.zero_le _,r,hn,hc,by simpa using hl,by simp⟩⟩;have:=Nat.mul_le_mul_right k hn;simp;omega
end
theorem Fr.set1 (w:World) (b o:Nat) (v:Value):Fr (fun x=>x=b) w (w.setCell ⟨b,o,none⟩ v):=(Fr.refl (fun x=>x=b) w).setCell (a:=⟨b,o,none⟩) (Or.inl rfl) v
theorem Fr.set_new {D:Nat→Prop} {w w':World} (h:Fr D w w') {b o:Nat} {v:Value} (hb:w.heap.size≤b):Fr D w (w'.setCell ⟨b,o,none⟩ v):=h.setCell (a:=⟨b,o,none⟩) (Or.inr hb) v
theorem Fr.realloc (w:World) (o o':Obj):Fr (fun x=>x=w.heap.size) (w.alloc o) (w.alloc o') :=
 ⟨rfl,rfl,rfl,by simp,fun b hb hd=>by
  have hlt:b<w.heap.size:=by simp at hb;omega
  rw [Below.heap_alloc w o' b hlt,Below.heap_alloc w o b hlt]⟩
theorem Row.new' {w:World} {c:Array Value} {T:TypeId} {g:Nat} (hg:w.heap.size=g):Row (w.alloc (.cells c T)) g T c.toList:=hg ▸ Row.new w c T
theorem Row.news {w:World} {g:Nat} {T:TypeId} {cs:List Value} (h:Row w g T cs) (j:Nat) (u:Value) (hu:cs[j]?=some u):w.cell? ⟨g,0+j,none⟩=some u:=by
 rw [Nat.zero_add];exact h.cell hu
theorem run_app {P:Program} {w:World} {T:TypeId} {v:Value} {k n:Nat} {cs:List Value} (h:Own w v T k n cs) (t ty:TypeId) (i:TypeInfo) (z:Value) (bytes:Nat) (ht:P.underlying t=some (.slice T)) (hi:P.info? T=some i)
 (hz:i.zero=some z) (hk:i.size=k) (hby:i.bytes=bytes) (hzs:z.cells.size=k) (hk0:0<k) (sb so m c:Nat) (news:List Value) (hl:news.length=m * k)
 (hnews:∀ j u,news[j]?=some u→w.cell? ⟨sb,so+j,none⟩=some u) (h1:∀ u∈news,u.oneCell'=true) (hm:0<m) (hb:(n+m) * bytes≤140737488355328) (hmax:n+m≤maxLen) :
 ∃ g cap w',(Builtin.append_ #[t,t] ty #[v,.slice (some ⟨sb,so,none⟩) m c]).run P w=.ok (.slice (some ⟨g,0,none⟩) (n+m) cap) w' ∧
  Own w' (.slice (some ⟨g,0,none⟩) (n+m) cap) T k (n+m) (cs ++ news)∧Fr (fun x=>v.ownBlock=some x) w w'∧(v.ownBlock=some g∨g=w.heap.size)∧g<w'.heap.size:=by
 obtain ⟨g,cap,w',hr,h2,h3,h4,h5⟩:=run_append_lies (P:=P) w t ty 0 T i z k bytes ht hi hz hk hby hzs hk0 v n cs h ⟨sb,so,none⟩ m c news hl (fun j u hu=>by rw [WideShapes.add_plain];exact hnews j u hu) h1 hm hmax hb (Nat.zero_le _) _ rfl;exact ⟨g,cap,w',hr,h2,⟨h3.os,h3.tape,h3.output,h3.size,fun b hb hd=>h3.block b hb (fun e=>hd e.symm)⟩,h4,h5⟩
section
variable {P:Program} {w w1:World} {o:Oper} {a:Act} {K:Act→World→Prop} {Q:Exit→Act→World→Prop} {v sv r:Value}
theorem wp_app (s x:Operand) (t:TypeId) (ho:o.op=.call { callee:=.builtin .append,args:=#[s,x],argTypes:=#[t,t] }) (hs:a.eval s=v) (hx:a.eval x=sv) (ty:TypeId) (hty:o.type=ty)
 (hrun:(Builtin.append_ #[t,t] ty #[v,sv]).run P w=.ok r w1) (h:K (a.put o.dst r) w1):o.wp P a w K Q:=by
 subst hty;unfold Oper.wp execOp;simp only [ho,resolve,invoke,builtin,Sem.run_bind,Sem.run_pure,Result.andThen_ok,List.map_toArray,List.map_cons,List.map_nil,hs,hx,hrun];exact h
theorem wpList_app {ops:Array Oper} {rest:List Oper} (hgd:o.guard=none) (s x:Operand) (t:TypeId) (ho:o.op=.call { callee:=.builtin .append,args:=#[s,x],argTypes:=#[t,t] }) (hs:a.eval s=v) (hx:a.eval x=sv) (ty:TypeId) (hty:o.type=ty)
 (hrun:(Builtin.append_ #[t,t] ty #[v,sv]).run P w=.ok r w1) (h:wpList P ops Q rest (a.put o.dst r) w1):wpList P ops Q (o :: rest) a w :=
 wpList_plain hgd fun _ hK=>wp_app s x t ho hs hx ty hty hrun (hK _ _ h)
theorem wp_app_own {T:TypeId} {k n:Nat} {cs:List Value} (s x:Operand) (t:TypeId) (ho:o.op=.call { callee:=.builtin .append,args:=#[s,x],argTypes:=#[t,t] }) (hs:a.eval s=v) (h:Own w v T k n cs) (i:TypeInfo) (z:Value) (bytes:Nat)
 (ht:P.underlying t=some (.slice T)) (hi:P.info? T=some i) (hz:i.zero=some z) (hk:i.size=k) (hby:i.bytes=bytes) (hzs:z.cells.size=k) (hk0:0<k) (sb so m c:Nat) (hx:a.eval x=.slice (some ⟨sb,so,none⟩) m c) (news:List Value) (hl:news.length=m * k)
 (hnews:∀ j u,news[j]?=some u→w.cell? ⟨sb,so+j,none⟩=some u) (h1:∀ u∈news,u.oneCell'=true) (hm:0<m) (hb:(n+m) * bytes≤140737488355328) (hmax:n+m≤maxLen)
 (hK:∀ g cap w',Own w' (.slice (some ⟨g,0,none⟩) (n+m) cap) T k (n+m) (cs ++ news)→Fr (fun x=>v.ownBlock=some x) w w'→(v.ownBlock=some g∨g=w.heap.size)→K (a.put o.dst (.slice (some ⟨g,0,none⟩) (n+m) cap)) w'):o.wp P a w K Q:=by
 obtain ⟨g,cap,w',hrun,h2,h3,h4,_⟩:=run_app (P:=P) h t o.type i z bytes ht hi hz hk hby hzs hk0 sb so m c news hl hnews h1 hm hb hmax;exact wp_app s x t ho hs hx o.type rfl hrun (hK g cap w' h2 h3 h4)
end
def roomOf (words:Int):Int:=min (max words 0) 1048576
theorem memNew_c (w:World) (words:Int):Calls Tryz.prog 32 #[.int .i64 words] w fun e w'=>∃ g,e=.returned (.pointer (some ⟨g,0,none⟩))∧g=w.heap.size∧Row w' g 135 [.int .i64 (roomOf words),.int .i64 0,.int .i64 0,.slice none 0 0]∧Fr Non w w':=by
 have hk:(words<0∧roomOf words=0)∨(0≤words∧words≤1048576∧roomOf words=words)∨(1048576<words∧roomOf words=1048576):=by unfold roomOf;omega
 generalize roomOf words=r at *;rcases hk with ⟨h1,rfl⟩|⟨h1,h2,rfl⟩|⟨h1,rfl⟩
 all_goals go_enter Tryz.func32,Tryz.ntmps32
 all_goals go_wp2
 all_goals first|omega|skip
 all_goals go_ret
 all_goals exact ⟨_,rfl,rfl,Row.new' rfl,by exact fx⟩
end Go.Proofs.YtlbomnbpahmphaaGreat
