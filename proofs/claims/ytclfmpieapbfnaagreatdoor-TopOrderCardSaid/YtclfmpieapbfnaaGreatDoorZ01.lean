/- Part 01: lemmas, no conditions. -/
import Derived.Lib.BitFns
set_option linter.unusedVariables false
set_option linter.unusedSimpArgs false
section
namespace Go.Proofs.YtclfmpieapbfnaaGreatDoor.Cm
def nb (n:Int):Nat:=if n < 256 then 1 else if n < 65536 then 2 else if n < 16777216 then 3 else if n < 4294967296 then 4 else if n < 1099511627776 then 5 else if n < 281474976710656 then 6 else if n < 72057594037927936 then 7 else 8
def be (n:Int) (k m:Nat):List Int:=(List.range m).map fun j => n / 256 ^ (k - 1 - j) % 256
def num (n:Int):List Int:=if n < 248 then [n] else (247 + nb n:Int) :: be n (nb n) (nb n)
theorem be_length (n:Int) (k m:Nat):(be n k m).length = m:=by simp [be]
theorem be_succ (n:Int) (k m:Nat):be n k (m + 1) = be n k m ++ [n / 256 ^ (k - 1 - m) % 256]:=by simp [be,List.range_succ]
theorem nb_pos (n:Int):1 ≤ nb n ∧ nb n ≤ 8:=by unfold nb; split <;> (try omega); repeat (split <;> try omega)
theorem num_length (n:Int):1 ≤ (num n).length ∧ (num n).length ≤ 9:=by
 have:=nb_pos n
 unfold num
 split
 · simp
 · simp [be_length]; omega
theorem bitLen_byte:∀ n:Fin 256,n.val ≠ 0 → 1 ≤ Lib.bitLen n.val:=by decide +kernel
theorem bitLen_byte' (b:Int) (h0:1 ≤ b) (h1:b ≤ 255):1 ≤ Lib.bitLen b.toNat:=bitLen_byte ⟨b.toNat,by omega⟩ (by simp; omega)
def LenOk (x L:Int):Prop:=0 ≤ L ∧ L ≤ 64 ∧ (248 ≤ x → (L + 7) / 8 = nb x)
def val (l:List Int):Int:=l.foldl (fun n c => n * 256 + c) 0
theorem val_snoc (l:List Int) (c:Int):val (l ++ [c]) = val l * 256 + c:=by simp [val]
theorem fold_range (l:List Int):∀ a:Int,0 ≤ a → (∀ c ∈ l,0 ≤ c ∧ c ≤ 255) → 0 ≤ l.foldl (fun n c => n * 256 + c) a ∧ l.foldl (fun n c => n * 256 + c) a < (a + 1) * 256 ^ l.length:=by
 induction l with
 | nil => intro a h0 _; simp; omega
 | cons c l ih =>
  intro a h0 h
  have h1:=h c (by simp)
  have h2:=ih (a * 256 + c) (by omega) fun x hx => h x (by simp [hx])
  refine ⟨h2.1,Int.lt_of_lt_of_le h2.2 ?_⟩
  rw [List.length_cons,Int.pow_succ,Int.mul_comm (256 ^ l.length) 256,← Int.mul_assoc]
  exact Int.mul_le_mul_of_nonneg_right (by omega) (Int.pow_nonneg (by omega))
theorem val_range (l:List Int) (h:∀ c ∈ l,0 ≤ c ∧ c ≤ 255):0 ≤ val l ∧ val l < 256 ^ l.length:=by
 have:=fold_range l 0 (by omega) h
 simpa [val] using this
def rdNum:List Int → Option (Int × List Int)
 | [] => none
 | f :: r =>
  if f < 248 then some (f,r)
  else if (r.length:Int) < f - 247 then none
  else if val (r.take (f - 247).toNat) < 248 ∨ r.headD 0 = 0 then none
  else some (val (r.take (f - 247).toNat),r.drop (f - 247).toNat)
def stN (l:List Int) (bad:Bool):Int × List Int × Bool:=
 match rdNum l with
 | none => (0,[],true)
 | some (n,r) => (n,r,bad)
end Go.Proofs.YtclfmpieapbfnaaGreatDoor.Cm
end
