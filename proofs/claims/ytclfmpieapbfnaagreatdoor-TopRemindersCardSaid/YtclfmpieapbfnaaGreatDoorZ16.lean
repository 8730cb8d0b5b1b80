/-
  Part 16 of the proof of the statement that the last part ends in: lemmas, no conditions of their own.
-/
import Derived.Test.YtclfmpieapbfnaaGreatDoorZ13
import Derived.Deep.Slices
import Derived.ChangeSame
set_option linter.unusedVariables false
set_option linter.unusedSimpArgs false
section
namespace Go.Proofs.YtclfmpieapbfnaaGreatDoor.Op
open Go.ChangeShapes Go.WideShapes Go.ChangeAt Go.RowKit B
theorem flat_length {α:Type} (f:α → List Value) (k:Nat) (xs:List α) (hl:∀ x ∈ xs,(f x).length = k):(xs.flatMap f).length = xs.length * k:=by
 induction xs with
 | nil => simp
 | cons x r ih =>
  simp only [List.flatMap_cons,List.length_append,List.length_cons,hl x (by simp),ih fun y hy => hl y (by simp [hy]),Nat.add_mul,Nat.one_mul]
  omega
theorem flat_get {α:Type} (f:α → List Value) (k:Nat) (xs:List α) (hl:∀ x ∈ xs,(f x).length = k) (i r:Nat) (hr:r < k):(xs.flatMap f)[i * k + r]? = (xs[i]?.bind fun x => (f x)[r]?):=by
 induction xs generalizing i with
 | nil => simp
 | cons x q ih =>
  rw [List.flatMap_cons]
  match i with
  | 0 => rw [List.getElem?_append_left (by rw [hl x (by simp)]; omega)]; simp
  | i + 1 =>
   rw [List.getElem?_append_right (by rw [hl x (by simp),Nat.add_mul]; omega),hl x (by simp),show (i + 1) * k + r - k = i * k + r from by rw [Nat.add_mul]; omega,ih (fun y hy => hl y (by simp [hy]))]
   simp
theorem row_at {α:Type} {f:α → List Value} {k n:Nat} {xs:List α} {w:World} {A:Option Addr} (h:Rd w k A n (xs.flatMap f)) (hl:∀ x ∈ xs,(f x).length = k) (hn:n = xs.length) {i:Nat} (hi:i < xs.length) :
 ∃ ad,A = some ad ∧ ∀ r,r < k → w.cell? (ad.add (i * k + r)) = (f xs[i])[r]?:=by
 obtain ⟨ad,e,hc⟩:=h.2 (by omega)
 refine ⟨ad,e,fun r hr => ?_⟩
 have hg:=flat_get f k xs hl i r hr
 rw [List.getElem?_eq_getElem hi,Option.bind_some] at hg
 have hlen:=hl xs[i] (List.getElem_mem hi)
 have hlt:r < (f xs[i]).length:=by rw [hlen]; exact hr
 rw [List.getElem?_eq_getElem hlt] at hg ⊢
 exact hc _ _ hg
theorem open_rows {α H:Type} [Inhabited α] {enc:TypeId × Value → H} {P:Program} {W:World} {base:Nat} {t e:TypeId} {v:Value} {d:DataW H} {p:List MemPlace} (k:Nat) (f:α → List Value) (rel:α → DataW H → Prop)
 (ht:P.underlying t = some (.slice e)) (hk:P.cellsOf e = k) (hk0:0 < k)
 (rd:∀ n cs x,DataW.trod enc P W 0 (fun _ => true) true n e cs = some x → cs.length = k → ∃ a,cs = f a ∧ rel a x.1)
 (hv:Value.okWide P W .any base t v) (h:DataW.Trod enc P W 0 (fun _ => true) true t v d p) :
 ∃ (xs:List α) (A:Option Addr) (c:Nat),v = .slice A xs.length c ∧ Rd W k A xs.length (xs.flatMap f) ∧ (∀ x ∈ xs,(f x).length = k) ∧ xs.length ≤ c ∧ c ≤ maxLen ∧
  ((d = .nil ∧ xs = []) ∨ ∃ ds sp,d = .slice ds sp ∧ ds.length = xs.length) ∧ (∀ x ∈ xs,∃ y,rel x y) ∧ (∀ ds sp,d = .slice ds sp → ∀ i (hi:i < xs.length),∃ y,ds[i]? = some y ∧ rel xs[i] y):=by
 obtain ⟨a0,len,cap,rfl⟩:=okWide_slice ht hv
 obtain ⟨fuel,hf⟩:=h
 rcases Deep.open_slice ht hf with ⟨hcs,hx⟩ | ⟨a,len',cap',m,n,D,Pl,hcs,_,hl,hm,hmm,hx,hcell⟩
 · simp only [Value.cells,List.cons.injEq,and_true,Value.slice.injEq] at hcs
   obtain ⟨rfl,rfl,rfl⟩:=hcs
   have hd:d = .nil:=congrArg Prod.fst hx
   exact ⟨[],none,0,rfl,Rd.nil_ _ _ _,fun x hx => (by cases hx),Nat.le_refl _,Nat.zero_le _,.inl ⟨hd,rfl⟩,fun x hx => (by cases hx),fun _ _ _ i hi => absurd hi (by simp)⟩
 · simp only [Value.cells,List.cons.injEq,and_true,Value.slice.injEq] at hcs
   obtain ⟨rfl,rfl,rfl⟩:=hcs
   have hlm:len ≤ m:=by rw [hmm]; split <;> omega
   have each:∀ i,i < len → ∃ q:α,(∀ r,r < k → W.cell? (a.add (i * k + r)) = (f q)[r]?) ∧ (f q).length = k ∧ rel q (D i):=by
    intro i hi
    obtain ⟨cs',h1,h2⟩:=hcell i (by omega)
    rw [hk] at h1
    obtain ⟨_,hlen,hc⟩:=World.cells?_some h1
    obtain ⟨q,hq,hr⟩:=rd _ _ _ h2 hlen
    refine ⟨q,fun r hr => ?_,by rw [← hq]; exact hlen,hr⟩
    have:=hc r hr
    rw [Deep.add_add] at this
    rw [this,hq]
   obtain ⟨q,hq⟩:=Deep.choose_lt each
   have hlen:((List.range len).map q).length = len:=by simp
   have hk1:∀ x ∈ (List.range len).map q,(f x).length = k:=by
    intro x hx
    obtain ⟨i,hi,rfl⟩:=List.mem_map.1 hx
    exact (hq i (List.mem_range.1 hi)).2.1
   have hdd:d = .slice ((List.range len).map D) ((List.range (m - len)).map fun j => D (len + j)):=congrArg Prod.fst hx
   refine ⟨(List.range len).map q,some a,cap,by rw [hlen],⟨by rw [flat_length f k _ hk1],fun h0 => ⟨a,rfl,fun j u hu => ?_⟩⟩,hk1,by omega,hm,.inr ⟨_,_,hdd,by simp⟩,?_,?_⟩
   · have hj:j < (((List.range len).map q).flatMap f).length:=(List.getElem?_eq_some_iff.1 hu).1
     rw [flat_length f k _ hk1,hlen] at hj
     have hjr:j = j / k * k + j % k:=by rw [Nat.mul_comm]; exact (Nat.div_add_mod j k).symm
     have hi:j / k < len:=Nat.div_lt_of_lt_mul (by rw [Nat.mul_comm]; exact hj)
     have hr:=Nat.mod_lt j hk0
     rw [hjr] at hu ⊢
     rw [flat_get f k _ hk1 _ _ hr,List.getElem?_map,List.getElem?_range hi] at hu
     rw [(hq _ hi).1 _ hr]
     exact hu
   · intro x hx
     obtain ⟨i,hi,rfl⟩:=List.mem_map.1 hx
     exact ⟨_,(hq i (List.mem_range.1 hi)).2.2⟩
   · intro ds sp he i hi
     rw [hdd] at he
     injection he with he _
     subst he
     have hi':i < len:=by simpa using hi
     exact ⟨D i,by simp [hi'],by simpa using (hq i hi').2.2⟩
end Go.Proofs.YtclfmpieapbfnaaGreatDoor.Op
end
