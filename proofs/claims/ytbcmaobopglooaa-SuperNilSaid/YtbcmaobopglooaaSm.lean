/-
  Plain laws on sums and sealed blocks (no program in sight).
-/
import Derived.Test.YtbcmaobopglooaaBase
import Derived.Test.YtbcmaobopglooaaCm
import Derived.Laws.CopyOwn
import Derived.Deep.OwnRows
set_option linter.unusedVariables false
set_option linter.unusedSimpArgs false
namespace Go.Proofs.Ytbcmaobopglooaa.Sm
open Go.RowKit Go.Proofs.Ytbcmaobopglooaa.B Go.Proofs.Ytbcmaobopglooaa.Cm
def Byte (l : List Int) : Prop := ∀ c ∈ l, 0 ≤ c ∧ c ≤ 255
def fstep (x c : Int) : Int := IntKind.u64.wrap (bits .xor .u64 x c * 1099511628211)
/-- The sum of bytes. -/
def fnv (l : List Int) : Int := l.foldl fstep 14695981039346656037
theorem fnv_step (l : List Int) (j : Nat) (hj : j < l.length) : fnv (l.take (j + 1)) = fstep (fnv (l.take j)) (gi l j) := by
  unfold fnv
  rw [List.take_succ_eq_append_getElem hj, List.foldl_append]
  show fstep _ l[j] = fstep _ (gi l j)
  rw [show gi l j = l[j] from by simp [gi, List.getD_eq_getElem?_getD, List.getElem?_eq_getElem hj]]
theorem fstep_range (x c : Int) : 0 ≤ fstep x c ∧ fstep x c ≤ 18446744073709551615 := by
  unfold fstep
  rw [IntKind.wrap_u64]
  omega
theorem fold_range (l : List Int) : ∀ x : Int, 0 ≤ x ∧ x ≤ 18446744073709551615 → 0 ≤ l.foldl fstep x ∧ l.foldl fstep x ≤ 18446744073709551615 := by
  induction l with
  | nil => intro x hx; exact hx
  | cons c l ih => intro x hx; exact ih _ (fstep_range x c)
theorem fnv_range (l : List Int) : 0 ≤ fnv l ∧ fnv l ≤ 18446744073709551615 := fold_range l _ (by omega)
/-- What the sum is made of. -/
def rest (kind place : Int) (l : List Int) : List Int := kind :: (be place 4 4 ++ ((l.length : Int) :: (l ++ List.replicate (242 - l.length) 0)))
/-- A sealed block. -/
def sealed (kind place : Int) (l : List Int) : List Int := be (fnv (rest kind place l)) 8 8 ++ rest kind place l
theorem rest_length (kind place : Int) (l : List Int) (h : l.length ≤ 242) : (rest kind place l).length = 248 := by simp [rest, be_length]; omega
theorem sealed_length (kind place : Int) (l : List Int) (h : l.length ≤ 242) : (sealed kind place l).length = 256 := by simp [sealed, be_length, rest_length kind place l h]
/-- The block while it is written: behind the kind, the place, the length, the payload. -/
def stage (kind place : Int) (l : List Int) : List Int := List.replicate 8 0 ++ rest kind place l
theorem set_at (A : List Int) (x v : Int) (B : List Int) (i : Nat) (h : i = A.length) : (A ++ x :: B).set i v = A ++ v :: B := by
  subst h
  simp
def st1 (kind place : Int) (j : Nat) : List Int := (List.replicate 8 0 ++ kind :: be place 4 j) ++ List.replicate (247 - j) 0
theorem st1_zero (kind place : Int) : (List.replicate 256 (0 : Int)).set 8 kind = st1 kind place 0 := by
  have e : List.replicate 256 (0 : Int) = List.replicate 8 0 ++ 0 :: List.replicate 247 0 := rfl
  rw [e, set_at _ _ _ _ 8 (by simp)]
  unfold st1
  simp only [be, List.range_zero, List.map_nil, Nat.sub_zero]
  rw [List.append_assoc]
  rfl
theorem st1_succ (kind place : Int) (j : Nat) (hj : j < 4) : (st1 kind place j).set (9 + j) (place / 256 ^ (4 - 1 - j) % 256) = st1 kind place (j + 1) := by
  unfold st1
  obtain ⟨m, hm⟩ : ∃ m, 247 - j = m + 1 := ⟨246 - j, by omega⟩
  rw [hm, show List.replicate (m + 1) (0 : Int) = 0 :: List.replicate m 0 from rfl, set_at _ _ _ _ (9 + j) (by simp [be_length]; omega), be_succ, show 247 - (j + 1) = m from by omega]
  simp
theorem st1_len (kind place : Int) (l : List Int) (h : l.length ≤ 242) : splice ((st1 kind place 4).set 13 l.length) 14 l = stage kind place l := by
  have e : st1 kind place 4 = (List.replicate 8 0 ++ kind :: be place 4 4) ++ 0 :: List.replicate 242 0 := rfl
  rw [e, set_at _ _ _ _ 13 (by simp [be_length])]
  have e2 : (List.replicate 8 (0 : Int) ++ kind :: be place 4 4) ++ (l.length : Int) :: List.replicate 242 0 = (List.replicate 8 (0 : Int) ++ kind :: be place 4 4 ++ [(l.length : Int)]) ++ List.replicate 242 0 := by simp
  have el : (List.replicate 8 (0 : Int) ++ kind :: be place 4 4 ++ [(l.length : Int)]).length = 14 := by simp [be_length]
  rw [e2]
  unfold splice
  rw [List.take_append_of_le_length (by rw [el]; exact Nat.le_refl _), List.take_of_length_le (by rw [el]; exact Nat.le_refl _), List.drop_append, el, List.drop_of_length_le (by rw [el]; omega), List.drop_replicate]
  simp [stage, rest]
def st2 (s : Int) (r : List Int) (j : Nat) : List Int := be s 8 j ++ (List.replicate (8 - j) 0 ++ r)
theorem st2_zero (s : Int) (r : List Int) : List.replicate 8 0 ++ r = st2 s r 0 := by simp [st2, be]
theorem st2_succ (s : Int) (r : List Int) (j : Nat) (hj : j < 8) : (st2 s r j).set j (s / 256 ^ (8 - 1 - j) % 256) = st2 s r (j + 1) := by
  unfold st2
  obtain ⟨m, hm⟩ : ∃ m, 8 - j = m + 1 := ⟨7 - j, by omega⟩
  rw [hm, show List.replicate (m + 1) (0 : Int) = 0 :: List.replicate m 0 from rfl, List.cons_append, set_at _ _ _ _ j (by simp [be_length]), be_succ, show 8 - (j + 1) = m from by omega]
  simp
theorem st2_end (s : Int) (r : List Int) : st2 s r 8 = be s 8 8 ++ r := by simp [st2]
theorem be_bytes (n : Int) (k m : Nat) : Byte (be n k m) := by
  intro c hc
  simp only [be, List.mem_map] at hc
  obtain ⟨j, _, rfl⟩ := hc
  omega
theorem rest_bytes (kind place : Int) (l : List Int) (h0 : 0 ≤ kind ∧ kind ≤ 255) (hl : l.length ≤ 242) (hb : Byte l) : Byte (rest kind place l) := by
  intro c hc
  simp only [rest, List.mem_cons, List.mem_append, List.mem_replicate] at hc
  rcases hc with rfl | hc | rfl | hc | hc
  · exact h0
  · exact be_bytes _ _ _ c hc
  · omega
  · exact hb c hc
  · omega
theorem sealed_bytes (kind place : Int) (l : List Int) (h0 : 0 ≤ kind ∧ kind ≤ 255) (hl : l.length ≤ 242) (hb : Byte l) : Byte (sealed kind place l) := by
  intro c hc
  simp only [sealed, List.mem_append] at hc
  rcases hc with hc | hc
  · exact be_bytes _ _ _ c hc
  · exact rest_bytes kind place l h0 hl hb c hc

theorem be4 (n : Int) : be n 4 4 = [n / 16777216 % 256, n / 65536 % 256, n / 256 % 256, n % 256] := by
  have e3 : (256 : Int) ^ 3 = 16777216 := by decide
  have e2 : (256 : Int) ^ 2 = 65536 := by decide
  simp [be, List.range_succ, e3, e2]
/-- The rest of a block while noughts are laid behind it. -/
def spart (kind place : Int) (l : List Int) (k : Nat) : List Int := kind :: (be place 4 4 ++ ((l.length : Int) :: (l ++ List.replicate k 0)))
theorem spart_length (kind place : Int) (l : List Int) (k : Nat) : (spart kind place l k).length = 6 + l.length + k := by simp [spart, be_length]; omega
theorem spart_succ (kind place : Int) (l : List Int) (k : Nat) : spart kind place l (k + 1) = spart kind place l k ++ [0] := by
  unfold spart
  rw [show List.replicate (k + 1) (0 : Int) = List.replicate k 0 ++ [0] from List.replicate_succ']
  simp
theorem spart_zero (kind place : Int) (l : List Int) (hp : 0 ≤ place ∧ place ≤ 4294967295) : spart kind place l 0 = [kind, place / 16777216, place / 65536 % 256, place / 256 % 256, place % 256, (l.length : Int)] ++ l := by
  simp only [spart, be4, List.replicate_zero, List.append_nil, show place / 16777216 % 256 = place / 16777216 from by omega]
  simp
/-- The payload of a block, if it is sealed. -/
def pay (b : List Int) : List Int := (b.drop 14).take (gi b 13).toNat
def good (kind place : Int) (b : List Int) : Prop := b.length = 256 ∧ gi b 13 ≤ 242 ∧ sealed kind place (pay b) = b
theorem pay_length (b : List Int) (h1 : b.length = 256) (h2 : gi b 13 ≤ 242) : (pay b).length = (gi b 13).toNat := by
  unfold pay
  rw [List.length_take, List.length_drop]
  omega
theorem pay_bytes (b : List Int) (h : Byte b) : Byte (pay b) := fun c hc => h c (List.mem_of_mem_drop (List.mem_of_mem_take hc))
def okOf (kind place : Int) (b : List Int) : Bool := decide (b.length = 256) && (decide (gi b 13 ≤ 242) && decide (sealed kind place (pay b) = b))
def outOf (kind place : Int) (b : List Int) : List Int := if okOf kind place b then pay b else []
theorem gi_app (A B : List Int) (i : Nat) : gi (A ++ B) (A.length + i) = gi B i := by
  unfold gi
  rw [List.getD_eq_getElem?_getD, List.getD_eq_getElem?_getD, List.getElem?_append_right (Nat.le_add_right _ _), Nat.add_sub_cancel_left]
theorem sealed_cut (kind place : Int) (l : List Int) : sealed kind place l = (be (fnv (rest kind place l)) 8 8 ++ (kind :: be place 4 4)) ++ ((l.length : Int) :: (l ++ List.replicate (242 - l.length) 0)) := by simp [sealed, rest]
theorem sealed_len (kind place : Int) (l : List Int) : gi (sealed kind place l) 13 = l.length := by
  rw [sealed_cut]
  have e : (be (fnv (rest kind place l)) 8 8 ++ (kind :: be place 4 4)).length = 13 := by simp [be_length]
  have := gi_app (be (fnv (rest kind place l)) 8 8 ++ (kind :: be place 4 4)) ((l.length : Int) :: (l ++ List.replicate (242 - l.length) 0)) 0
  rw [e] at this
  simpa [gi] using this
theorem sealed_pay (kind place : Int) (l : List Int) : pay (sealed kind place l) = l := by
  unfold pay
  rw [sealed_len, sealed_cut]
  have e2 : (be (fnv (rest kind place l)) 8 8 ++ (kind :: be place 4 4)) ++ ((l.length : Int) :: (l ++ List.replicate (242 - l.length) 0)) = (be (fnv (rest kind place l)) 8 8 ++ (kind :: be place 4 4) ++ [(l.length : Int)]) ++ (l ++ List.replicate (242 - l.length) 0) := by simp
  have e : (be (fnv (rest kind place l)) 8 8 ++ (kind :: be place 4 4) ++ [(l.length : Int)]).length = 14 := by simp [be_length]
  rw [e2, List.drop_append, e, List.drop_of_length_le (by rw [e]; omega)]
  simp
theorem okOf_sealed (kind place : Int) (l : List Int) (hl : l.length ≤ 242) : okOf kind place (sealed kind place l) = true := by
  unfold okOf
  rw [sealed_len, sealed_pay, sealed_length kind place l hl]
  simp; omega
theorem outOf_sealed (kind place : Int) (l : List Int) (hl : l.length ≤ 242) : outOf kind place (sealed kind place l) = l := by
  unfold outOf
  rw [okOf_sealed kind place l hl, sealed_pay]
  rfl
/-! ### a block of bytes of the call's own -/
def Nb (w : World) (e : TypeId) (g : Nat) (xs : List Int) : Prop := Blk w g e (nums .u8 xs).toArray
theorem Nb.cell {w : World} {e : TypeId} {g : Nat} {xs : List Int} (h : Nb w e g xs) {i : Nat} (hi : i < xs.length) : w.cell? ⟨g, i, none⟩ = some (.int .u8 (gi xs i)) := by
  rw [Blk.cell h]
  simp only [List.getElem?_toArray]
  exact nums_get .u8 xs i hi
theorem Nb.put {w : World} {e : TypeId} {g : Nat} {xs : List Int} (h : Nb w e g xs) (i : Nat) (v : Int) : Nb (w.setCell ⟨g, i, none⟩ (.int .u8 v)) e g (xs.set i v) := by
  have := Blk.put h i (.int .u8 v)
  simpa [Nb, nums, List.map_set] using this
theorem Nb.made (w : World) (e : TypeId) (n : Nat) : Nb (w.alloc (.cells (madeCells #[.int .u8 0] n) e)) e w.heap.size (List.replicate n 0) := by
  have e1 : madeCells #[Value.int .u8 0] n = (nums .u8 (List.replicate n 0)).toArray := by
    apply Array.ext'
    apply List.ext_getElem
    · simp [nums, madeCells]
    · intro i h1 h2
      simp [nums, madeCells, Nat.mod_one]
  unfold Nb
  rw [e1]
  exact Blk.fresh w e _
theorem Nb.rn {w : World} {e : TypeId} {g : Nat} {xs : List Int} (h : Nb w e g xs) : Rn w .u8 (some ⟨g, 0, none⟩) xs := by
  refine ⟨by simp [nums], fun _ => ⟨_, rfl, fun j u hu => ?_⟩⟩
  rw [add_plain, Blk.cell h]
  simpa using hu
theorem Nb.tail {w : World} {e : TypeId} {g : Nat} {xs : List Int} (h : Nb w e g xs) (k : Nat) : Rn w .u8 (some ⟨g, k, none⟩) (xs.drop k) := by
  refine ⟨by simp [nums], fun _ => ⟨_, rfl, fun j u hu => ?_⟩⟩
  have e1 : (⟨g, k, none⟩ : Addr).add j = ⟨g, k + j, none⟩ := by unfold Addr.add; split <;> simp_all
  rw [e1, Blk.cell h]
  simp only [nums, List.map_drop, List.getElem?_drop] at hu
  simpa [nums] using hu
theorem Nb.own {w : World} {e : TypeId} {g base : Nat} {xs : List Int} (h : Nb w e g xs) (hb : base ≤ g) (hl : xs.length ≤ 9223372036854775807) : w.ownsRow base e 1 (.slice (some ⟨g, 0, none⟩) xs.length xs.length) xs.length (nums .u8 xs) :=
  ⟨by simp [nums], .inr ⟨g, xs.length, _, rfl, hb, h, Nat.le_refl _, by simpa [maxLen] using hl, by simp [nums], by rw [List.take_of_length_le (by simp [nums])]⟩⟩
theorem pow4 : ∀ j : Nat, j < 4 → (2 : Int) ^ (24 - 8 * j) = 256 ^ (4 - 1 - j) := by decide
theorem pow8 : ∀ j : Nat, j < 8 → (2 : Int) ^ (56 - 8 * j) = 256 ^ (8 - 1 - j) := by decide
/-- Behind a copy into the block. -/
theorem Nb.spliced {w : World} {e : TypeId} {g : Nat} {xs l : List Int} {off : Nat} (h : Hid (w.heap[g]? = some (.cells (splice (nums .u8 xs) off (nums .u8 l)).toArray e (0, 0)))) : Nb w e g (splice xs off l) := by
  have h' := h.out
  unfold Nb Blk
  rw [h']
  simp [splice, nums, List.map_take, List.map_drop]
/-- 'make([]byte, n)'. -/
theorem mk_nb {P : Program} {w : World} {ops : Array Oper} {rst : List Oper} {o : Oper} {a : Act} {Q : Exit → Act → World → Prop} (hg : o.guard = none) (l c : Operand) (t e : TypeId) (hop : o.op = Op.makeSlice t l c)
    (ht : P.underlying t = some (.slice e)) (hinfo : (P.info? e).map (fun i => (i.zero, i.size, i.bytes)) = some (some (.int .u8 0), 1, 1)) (ni : Int) (n : Nat) (hl : a.eval l = .int .i64 ni) (hc : a.eval c = .int .i64 ni) (hn : ni = (n : Int)) (hb : n ≤ 281474976710656)
    (hK : ∀ w1 g, g = w.heap.size → Nb w1 e g (List.replicate n 0) → Upd No w w1 → wpList P ops Q rst (a.put o.dst (.slice (some ⟨g, 0, none⟩) n n)) w1) : wpList P ops Q (o :: rst) a w := by
  subst hn
  have hrun := run_make_row' (P := P) t e (.int .u8 0) 1 ht hinfo rfl .i64 .i64 n (by omega) (by omega) w
  refine wpList_plain hg fun K hK' => ?_
  unfold Oper.wp
  simp [execOp, hop, hl, hc, hrun, Result.andThen]
  exact hK' _ _ (hK _ _ rfl (Nb.made w e n) ((Upd.refl _ _).alloc _))
end Go.Proofs.Ytbcmaobopglooaa.Sm
