/- Where the driver lies, with a frame more, or a task more. No condition. -/
import Derived.Test.YtlbomnbpahmphaaGreatR24
namespace Go.Proofs.YtlbomnbpahmphaaGreat
open Go.RowKit

section
variable {base : Nat} {E : En} {Y : Ey} {tb : List Nat} {w0 w w' : World} {X : Ex} {D : Dr} {ex : List Bb}

theorem DI.fset (h : DI base E Y tb w0 w X D ex) {v : Value} {l : List Wd} (hr : Row w' Y.fbx 35 [v]) (ho : Own w' v 40 3 l.length (flat l)) (f : Fr (fun x => x = Y.fbx ∨ X.fv.ownBlock = some x) w w') (hg : ∀ x, v.ownBlock = some x → X.fv.ownBlock = some x ∨ w.heap.size ≤ x) :
 DI base E Y tb w0 w' { X with fv := v } { D with frames := l } ex := by
 have hp : List.Perm [Go.Proofs.YtlbomnbpahmphaaGreat.oR X D.trace, Go.Proofs.YtlbomnbpahmphaaGreat.oQ X D.queue, Go.Proofs.YtlbomnbpahmphaaGreat.oT X tb D.tasks.length, Go.Proofs.YtlbomnbpahmphaaGreat.oF X D.frames] [Go.Proofs.YtlbomnbpahmphaaGreat.oF X D.frames, Go.Proofs.YtlbomnbpahmphaaGreat.oR X D.trace, Go.Proofs.YtlbomnbpahmphaaGreat.oQ X D.queue, Go.Proofs.YtlbomnbpahmphaaGreat.oT X tb D.tasks.length] :=
  List.perm_append_comm (l₁ := [Go.Proofs.YtlbomnbpahmphaaGreat.oR X D.trace, Go.Proofs.YtlbomnbpahmphaaGreat.oQ X D.queue, Go.Proofs.YtlbomnbpahmphaaGreat.oT X tb D.tasks.length]) (l₂ := [Go.Proofs.YtlbomnbpahmphaaGreat.oF X D.frames])
 have h0 := (h.pk.permO hp).perm (List.Perm.swap (fbox Y X) (dbox Y X D.over) _)
 have h1 := h0.both (o' := ⟨v, 40, 3, l.length, flat l⟩) hr ho f hg
 have hq : List.Perm [⟨v, 40, 3, l.length, flat l⟩, Go.Proofs.YtlbomnbpahmphaaGreat.oR X D.trace, Go.Proofs.YtlbomnbpahmphaaGreat.oQ X D.queue, Go.Proofs.YtlbomnbpahmphaaGreat.oT X tb D.tasks.length] [Go.Proofs.YtlbomnbpahmphaaGreat.oR X D.trace, Go.Proofs.YtlbomnbpahmphaaGreat.oQ X D.queue, Go.Proofs.YtlbomnbpahmphaaGreat.oT X tb D.tasks.length, ⟨v, 40, 3, l.length, flat l⟩] :=
  List.perm_append_comm (l₁ := [(⟨v, 40, 3, l.length, flat l⟩ : Ow)]) (l₂ := [Go.Proofs.YtlbomnbpahmphaaGreat.oR X D.trace, Go.Proofs.YtlbomnbpahmphaaGreat.oQ X D.queue, Go.Proofs.YtlbomnbpahmphaaGreat.oT X tb D.tasks.length])
 exact ⟨(h1.permO hq).perm (List.Perm.swap (dbox Y X D.over) _ _), h.len, h.opn⟩

/-- The box beside becomes a task's. -/
theorem DI.tset {b : Nat} {t : Tk} (h : DI base E Y tb w0 w X D ((b, 180, t.cs) :: ex)) {v : Value} (hr : Row w' Y.d 165 [Y.f0, Y.f1, Y.f2, Y.f3, Y.f4, v, X.qv, X.rv, .bool D.over]) (ho : Own w' v 181 1 (D.tasks.length + 1) ((tb ++ [b]).map ptr))
 (f : Fr (fun x => x = Y.d ∨ X.tv.ownBlock = some x) w w') (hg : ∀ x, v.ownBlock = some x → X.tv.ownBlock = some x ∨ w.heap.size ≤ x) :
 DI base E Y (tb ++ [b]) w0 w' { X with tv := v } { D with tasks := D.tasks ++ [t] } ex := by
 have hp : List.Perm [Go.Proofs.YtlbomnbpahmphaaGreat.oR X D.trace, Go.Proofs.YtlbomnbpahmphaaGreat.oQ X D.queue, Go.Proofs.YtlbomnbpahmphaaGreat.oT X tb D.tasks.length, Go.Proofs.YtlbomnbpahmphaaGreat.oF X D.frames] [Go.Proofs.YtlbomnbpahmphaaGreat.oT X tb D.tasks.length, Go.Proofs.YtlbomnbpahmphaaGreat.oF X D.frames, Go.Proofs.YtlbomnbpahmphaaGreat.oR X D.trace, Go.Proofs.YtlbomnbpahmphaaGreat.oQ X D.queue] :=
  List.perm_append_comm (l₁ := [Go.Proofs.YtlbomnbpahmphaaGreat.oR X D.trace, Go.Proofs.YtlbomnbpahmphaaGreat.oQ X D.queue]) (l₂ := [Go.Proofs.YtlbomnbpahmphaaGreat.oT X tb D.tasks.length, Go.Proofs.YtlbomnbpahmphaaGreat.oF X D.frames])
 have h1 := (h.pk.permO hp).both (o' := ⟨v, 181, 1, D.tasks.length + 1, (tb ++ [b]).map ptr⟩) hr ho f hg
 have hq : List.Perm [(⟨v, 181, 1, D.tasks.length + 1, (tb ++ [b]).map ptr⟩ : Ow), Go.Proofs.YtlbomnbpahmphaaGreat.oF X D.frames, Go.Proofs.YtlbomnbpahmphaaGreat.oR X D.trace, Go.Proofs.YtlbomnbpahmphaaGreat.oQ X D.queue] [Go.Proofs.YtlbomnbpahmphaaGreat.oR X D.trace, Go.Proofs.YtlbomnbpahmphaaGreat.oQ X D.queue, ⟨v, 181, 1, D.tasks.length + 1, (tb ++ [b]).map ptr⟩, Go.Proofs.YtlbomnbpahmphaaGreat.oF X D.frames] :=
  List.perm_append_comm (l₁ := [(⟨v, 181, 1, D.tasks.length + 1, (tb ++ [b]).map ptr⟩ : Ow), Go.Proofs.YtlbomnbpahmphaaGreat.oF X D.frames]) (l₂ := [Go.Proofs.YtlbomnbpahmphaaGreat.oR X D.trace, Go.Proofs.YtlbomnbpahmphaaGreat.oQ X D.queue])
 have h2 := h1.permO hq
 refine ⟨?_, by simp [h.len], h.opn⟩
 have hl : (D.tasks ++ [t]).length = D.tasks.length + 1 := by simp
 unfold Go.Proofs.YtlbomnbpahmphaaGreat.oT
 simp only [hl, tbs_snoc b t h.len, List.append_assoc, List.cons_append, List.nil_append]
 exact h2
end

end Go.Proofs.YtlbomnbpahmphaaGreat
