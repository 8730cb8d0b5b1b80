/- Part 18: lemmas, no conditions. -/
import Derived.Test.YtclfmpieapbfnaaGreatDoorZ14
import Derived.Deep.Slices
import Derived.ChangeSame
set_option linter.unusedVariables false
set_option linter.unusedSimpArgs false
section
namespace Go.Proofs.YtclfmpieapbfnaaGreatDoor.Op
open Go.ChangeShapes Go.WideShapes Go.ChangeAt Go.RowKit B
theorem flat_get {α:Type} (f:α → List Value) (k:Nat) (xs:List α) (hl:∀ x ∈ xs,(f x).length = k) (i r:Nat) (hr:r < k):(xs.flatMap f)[i * k + r]? = (xs[i]?.bind fun x => (f x)[r]?):=by
 induction xs generalizing i with
 | nil => simp
 | cons x q ih =>
  rw [List.flatMap_cons]
  match i with
  | 0 => rw [List.getElem?_append_left (by rw [hl x (by simp)]; omega)]; simp
  | i + 1 =>
   rw [List.getElem?_append_right (by rw [hl x (by simp),Nat.add_mul]; omega),hl x (by simp),show (i + 1) * k + r - k = i * k + r from by rw [Nat.add_mul]; omega,ih (fun y hy => hl y (by simp [hy]))]
   simp
theorem row_at {α:Type} {f:α → List Value} {k n:Nat} {xs:List α} {w:World} {A:Option Addr} (h:Rd w k A n (xs.flatMap f)) (hl:∀ x ∈ xs,(f x).length = k) (hn:n = xs.length) {i:Nat} (hi:i < xs.length) :
 ∃ ad,A = some ad ∧ ∀ r,r < k → w.cell? (ad.add (i * k + r)) = (f xs[i])[r]?:=by
 obtain ⟨ad,e,hc⟩:=h.2 (by omega)
 refine ⟨ad,e,fun r hr => ?_⟩
 have hg:=flat_get f k xs hl i r hr
 rw [List.getElem?_eq_getElem hi,Option.bind_some] at hg
 have hlen:=hl xs[i] (List.getElem_mem hi)
 have hlt:r < (f xs[i]).length:=by rw [hlen]; exact hr
 rw [List.getElem?_eq_getElem hlt] at hg ⊢
 exact hc _ _ hg
end Go.Proofs.YtclfmpieapbfnaaGreatDoor.Op
end
