/-
  Plain laws on a Super: what its two blocks hold, what Open reads in them.
-/
import Derived.Test.YtbcmaobopglooaaSm
import Derived.Test.YtbcmaobopglooaaCp
import Derived.Test.YtbcmaobopglooaaDk
set_option linter.unusedVariables false
set_option linter.unusedSimpArgs false
namespace Go.Proofs.Ytbcmaobopglooaa.Up
open Go.RowKit Go.Proofs.Ytbcmaobopglooaa.B Go.Proofs.Ytbcmaobopglooaa.Cm Go.Proofs.Ytbcmaobopglooaa.Sm Go.Proofs.Ytbcmaobopglooaa.Dk
/-- The block of a record. -/
def sb (g : Int) (p : List Int) : List Int := sealed 83 (g % 2) (num g ++ p)
/-- What block i tells: a generation and a payload, or nothing. -/
def rd1 (i : Nat) (b : List Int) : Option (Int × List Int) := if okOf 83 i b = true then rdNum (outOf 83 i b) else none
/-- The newer of what is held and what a block tells. -/
def newer (s : Int × List Int) (o : Option (Int × List Int)) : Int × List Int := match o with
  | none => s
  | some x => if s.1 < x.1 then x else s
theorem newer_lt {s : Int × List Int} {g : Int} {v : List Int} (h : s.1 < g) : newer s (some (g, v)) = (g, v) := if_pos h
theorem newer_ge {s : Int × List Int} {g : Int} {v : List Int} (h : ¬ s.1 < g) : newer s (some (g, v)) = s := if_neg h
def openS (b0 b1 : List Int) : Int × List Int := newer (newer (0, []) (rd1 0 b0)) (rd1 1 b1)
theorem okOf_zero (i : Int) : okOf 83 i (List.replicate 256 0) = false := by
  cases h : okOf 83 i (List.replicate 256 0)
  · rfl
  · unfold okOf at h
    simp only [Bool.and_eq_true, decide_eq_true_eq] at h
    have h1 := h.2.2
    have h2 : gi (sealed 83 i (pay (List.replicate 256 0))) 8 = 83 := by
      have e : sealed 83 i (pay (List.replicate 256 0)) = be (fnv (rest 83 i (pay (List.replicate 256 0)))) 8 8 ++ rest 83 i (pay (List.replicate 256 0)) := rfl
      have := gi_app (be (fnv (rest 83 i (pay (List.replicate 256 0)))) 8 8) (rest 83 i (pay (List.replicate 256 0))) 0
      rw [be_length] at this
      rw [e, this]
      rfl
    rw [h1] at h2
    have h3 : gi (List.replicate 256 0) 8 = 0 := rfl
    omega
theorem rd1_zero (i : Nat) : rd1 i (List.replicate 256 0) = none := by
  unfold rd1
  rw [okOf_zero, if_neg (by simp)]
theorem rd1_sb {g : Int} {p : List Int} {i : Nat} (h0 : 0 ≤ g) (h1 : g ≤ 18446744073709551615) (hl : (num g ++ p).length ≤ 242) (hi : (i : Int) = g % 2) : rd1 i (sb g p) = some (g, p) := by
  unfold rd1 sb
  rw [hi, okOf_sealed 83 _ _ hl, outOf_sealed 83 _ _ hl, if_pos rfl]
  exact Cp.rdNum_num g p h0 h1
/-- The writes of the Saves of ps. -/
def logOf : List (List Int) → Nat → List (Nat × List Int)
  | [], _ => []
  | u :: t, n => ((n + 1) % 2, sb ((n + 1 : Nat) : Int) u) :: logOf t (n + 1)
theorem logOf_length : ∀ (ps : List (List Int)) (n : Nat), (logOf ps n).length = ps.length := by
  intro ps
  induction ps with
  | nil => intro n; rfl
  | cons u t ih => intro n; simp [logOf, ih]
theorem logOf_snoc (u : List Int) : ∀ (ps : List (List Int)) (n : Nat), logOf (ps ++ [u]) n = logOf ps n ++ [((n + ps.length + 1) % 2, sb ((n + ps.length + 1 : Nat) : Int) u)] := by
  intro ps
  induction ps with
  | nil => intro n; rfl
  | cons v t ih =>
    intro n
    simp only [List.cons_append, logOf, ih, List.length_cons]
    rw [show n + 1 + t.length + 1 = n + (t.length + 1) + 1 from by omega]
theorem logOf_take : ∀ (ps : List (List Int)) (n k : Nat), (logOf ps n).take k = logOf (ps.take k) n := by
  intro ps
  induction ps with
  | nil => intro n k; simp [logOf]
  | cons u t ih =>
    intro n k
    cases k with
    | zero => rfl
    | succ k => simp only [logOf, List.take_succ_cons, ih]
/-- The block i of a disk. -/
def bk (l : List (Nat × List Int)) (i : Nat) : List Int := (last l i).getD (List.replicate 256 0)
theorem bk_snoc (l : List (Nat × List Int)) (a : Nat) (b : List Int) (i : Nat) : bk (l ++ [(a, b)]) i = if a = i then b else bk l i := by
  unfold bk
  rw [last_snoc]
  simp only
  by_cases h : a = i
  · rw [if_pos h, if_pos h]; rfl
  · rw [if_neg h, if_neg h]
theorem sb_len {g : Int} {p : List Int} (hl : p.length ≤ 200) : (num g ++ p).length ≤ 242 := by
  have := (num_length g).2
  rw [List.length_append]
  omega
/-- What Open reads behind the Saves of ps. -/
theorem open_log (ps : List (List Int)) (hl : ∀ u ∈ ps, u.length ≤ 200) (hn : ps.length ≤ 1000000) : openS (bk (logOf ps 0) 0) (bk (logOf ps 0) 1) = ((ps.length : Int), ps.getLastD []) := by
  rcases List.eq_nil_or_concat ps with rfl | ⟨qs, u, rfl⟩
  · have h0 : ∀ i, bk (logOf [] 0) i = List.replicate 256 0 := fun i => rfl
    rw [h0, h0]
    unfold openS
    rw [rd1_zero, rd1_zero]
    rfl
  · rw [List.concat_eq_append] at *
    rw [logOf_snoc, bk_snoc, bk_snoc]
    have hu : u.length ≤ 200 := hl u (by simp)
    rw [List.length_append, List.length_singleton] at hn
    have hgl : (qs ++ [u]).getLastD [] = u := by rw [List.getLastD_eq_getLast?]; simp
    have hlen : (((qs ++ [u]).length : Nat) : Int) = ((0 + qs.length + 1 : Nat) : Int) := by simp
    rw [hgl, hlen]
    -- the other block
    have hoth : ∀ i, i < 2 → i ≠ (0 + qs.length + 1) % 2 → rd1 i (bk (logOf qs 0) i) = none ∨ ∃ v, rd1 i (bk (logOf qs 0) i) = some ((qs.length : Int), v) := by
      intro i hi hne
      rcases List.eq_nil_or_concat qs with rfl | ⟨rs, v, rfl⟩
      · left
        have h0 : bk (logOf [] 0) i = List.replicate 256 0 := rfl
        rw [h0, rd1_zero]
      · right
        rw [List.concat_eq_append] at *
        rw [logOf_snoc, bk_snoc]
        have hv : v.length ≤ 200 := hl v (by simp)
        have hi2 : (0 + rs.length + 1) % 2 = i := by
          simp only [List.length_append, List.length_singleton] at hne
          omega
        rw [if_pos hi2]
        refine ⟨v, ?_⟩
        rw [rd1_sb (by omega) (by simp only [List.length_append, List.length_singleton] at hn; omega) (sb_len hv) (by omega)]
        simp
    have hself : rd1 ((0 + qs.length + 1) % 2) (sb ((0 + qs.length + 1 : Nat) : Int) u) = some (((0 + qs.length + 1 : Nat) : Int), u) := rd1_sb (by omega) (by omega) (sb_len hu) (by omega)
    unfold openS
    rcases (show (0 + qs.length + 1) % 2 = 0 ∨ (0 + qs.length + 1) % 2 = 1 by omega) with h2 | h2
    · rw [h2] at hself
      rw [if_pos h2, if_neg (by omega), hself]
      have e : newer (0, []) (some (((0 + qs.length + 1 : Nat) : Int), u)) = (((0 + qs.length + 1 : Nat) : Int), u) := newer_lt (by simp only; omega)
      rw [e]
      rcases hoth 1 (by omega) (by omega) with h3 | ⟨v, h3⟩
      · rw [h3]; rfl
      · rw [h3]
        exact newer_ge (by simp only; omega)
    · rw [h2] at hself
      rw [if_neg (by omega), if_pos h2, hself]
      rcases hoth 0 (by omega) (by omega) with h3 | ⟨v, h3⟩
      · rw [h3]
        exact newer_lt (by simp only [newer]; omega)
      · rw [h3]
        by_cases h4 : (0 : Int) < (qs.length : Int)
        · rw [newer_lt (s := (0, [])) (by simpa using h4)]
          exact newer_lt (by simp only; omega)
        · rw [newer_ge (s := (0, [])) (by simpa using h4)]
          exact newer_lt (by simp only; omega)
end Go.Proofs.Ytbcmaobopglooaa.Up
