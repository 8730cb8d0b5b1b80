/-
  Plain laws on logs: the pieces of a unit, what a scan of blocks tells, what stays true behind writes.
-/
import Derived.Test.YtheopehhpoikdaaSm
set_option linter.unusedVariables false
set_option linter.unusedSimpArgs false
namespace Go.Proofs.Ytheopehhpoikdaa.Gp
open Go.RowKit Go.Proofs.Ytheopehhpoikdaa.B Go.Proofs.Ytheopehhpoikdaa.Cm Go.Proofs.Ytheopehhpoikdaa.Sm
/-- The eight bytes of an epoch, the lowest first. -/
def le8 (n : Int) : List Int := (List.range 8).map fun i => n / 256 ^ i % 256
def b2i (b : Bool) : Int := if b then 1 else 0
/-- What stands ahead of a piece. -/
def hdr (ep : Int) (e : Bool) : List Int := le8 ep ++ [b2i e]
theorem le8_length (n : Int) : (le8 n).length = 8 := by simp [le8]
theorem hdr_length (ep : Int) (e : Bool) : (hdr ep e).length = 9 := by simp [hdr, le8_length]
theorem hdr_last (ep : Int) (e : Bool) (x : List Int) : gi (hdr ep e ++ x) 8 = b2i e := by
  have h := gi_app (le8 ep) (b2i e :: x) 0
  rw [le8_length] at h
  have e2 : hdr ep e ++ x = le8 ep ++ (b2i e :: x) := by simp [hdr]
  rw [e2, h]
  rfl
theorem b2i_one (e : Bool) : decide (b2i e = 1) = e := by cases e <;> rfl
theorem le8_bytes (n : Int) : Byte (le8 n) := by
  intro c hc
  simp only [le8, List.mem_map, List.mem_range] at hc
  obtain ⟨i, _, rfl⟩ := hc
  omega
theorem hdr_bytes (ep : Int) (e : Bool) : Byte (hdr ep e) := by
  intro c hc
  simp only [hdr, List.mem_append, List.mem_singleton] at hc
  rcases hc with hc | rfl
  · exact le8_bytes ep c hc
  · cases e <;> simp [b2i]
theorem le8_inj {a b : Int} (ha : 0 ≤ a ∧ a ≤ 18446744073709551615) (hb : 0 ≤ b ∧ b ≤ 18446744073709551615) (h : le8 a = le8 b) : a = b := by
  have e : ∀ n : Int, le8 n = [n % 256, n / 256 % 256, n / 65536 % 256, n / 16777216 % 256, n / 4294967296 % 256, n / 1099511627776 % 256, n / 281474976710656 % 256, n / 72057594037927936 % 256] := fun n => by simp [le8, List.range, List.range.loop]
  rw [e, e] at h
  simp only [List.cons.injEq, and_true] at h
  omega
theorem hdr_inj {a b : Int} {e f : Bool} (ha : 0 ≤ a ∧ a ≤ 18446744073709551615) (hb : 0 ≤ b ∧ b ≤ 18446744073709551615) (h : hdr a e = hdr b f) : a = b :=
  le8_inj ha hb (List.append_inj_left h (by simp [le8_length]))
/-- The piece that lies in a block, if one does: its bytes, and whether the unit ends. -/
def piece (ep : Int) (k : Nat) (b : List Int) : Option (List Int × Bool) :=
  if okOf 76 k b = true ∧ ¬ (outOf 76 k b).length < 10 ∧ (outOf 76 k b).take 9 = hdr ep (decide (gi (outOf 76 k b) 8 = 1)) then some ((outOf 76 k b).drop 9, decide (gi (outOf 76 k b) 8 = 1)) else none
/-- How many blocks a unit has. -/
def nbl (u : List Int) : Nat := (u.length + 232) / 233
def pc (u : List Int) (j : Nat) : List Int := (u.drop (233 * j)).take 233
def lst (u : List Int) (j : Nat) : Bool := decide (u.length - 233 * j ≤ 233)
/-- The block of a unit's piece j, laid at at. -/
def blk (ep : Int) (k : Nat) (u : List Int) (j : Nat) : List Int := sealed 76 ((k + j : Nat) : Int) (hdr ep (lst u j) ++ pc u j)
theorem pc_length (u : List Int) (j : Nat) : (pc u j).length ≤ 233 := by simp only [pc, List.length_take]; omega
theorem pay_len (ep : Int) (u : List Int) (j : Nat) : (hdr ep (lst u j) ++ pc u j).length ≤ 242 := by
  have := pc_length u j
  rw [List.length_append, hdr_length]
  omega
theorem blk_length (ep : Int) (k : Nat) (u : List Int) (j : Nat) : (blk ep k u j).length = 256 := sealed_length _ _ _ (pay_len ep u j)
theorem blk_bytes (ep : Int) (k : Nat) (u : List Int) (j : Nat) (hb : Byte u) : Byte (blk ep k u j) := by
  refine sealed_bytes _ _ _ (by omega) (pay_len ep u j) fun c hc => ?_
  rcases List.mem_append.1 hc with hc | hc
  · exact hdr_bytes _ _ c hc
  · exact hb c (List.mem_of_mem_drop (List.mem_of_mem_take hc))
theorem lt_nbl {u : List Int} {j : Nat} (h : j < nbl u) : 233 * j < u.length := by unfold nbl at h; omega
theorem pc_pos {u : List Int} {j : Nat} (h : j < nbl u) : 1 ≤ (pc u j).length := by
  have := lt_nbl h
  simp only [pc, List.length_take, List.length_drop]
  omega
theorem lst_iff {u : List Int} {j : Nat} (h : j < nbl u) : lst u j = decide (j + 1 = nbl u) := by
  unfold lst
  unfold nbl at *
  apply decide_eq_decide.2
  omega
theorem piece_blk (ep : Int) (k : Nat) (u : List Int) (j : Nat) (h : j < nbl u) : piece ep (k + j) (blk ep k u j) = some (pc u j, lst u j) := by
  have hp := pay_len ep u j
  have h1 := okOf_sealed 76 ((k + j : Nat) : Int) (hdr ep (lst u j) ++ pc u j) hp
  have h2 := outOf_sealed 76 ((k + j : Nat) : Int) (hdr ep (lst u j) ++ pc u j) hp
  have h3 : (hdr ep (lst u j) ++ pc u j).take 9 = hdr ep (lst u j) := by
    rw [List.take_append_of_le_length (by rw [hdr_length]; omega), List.take_of_length_le (by rw [hdr_length]; omega)]
  have h4 : (hdr ep (lst u j) ++ pc u j).drop 9 = pc u j := by
    rw [List.drop_append, List.drop_of_length_le (by rw [hdr_length]; omega), hdr_length]
    rfl
  have h5 := pc_pos h
  unfold piece blk
  rw [h1, h2, hdr_last, b2i_one, h3, h4, if_pos ⟨rfl, by rw [List.length_append, hdr_length]; omega, rfl⟩]
/-- A block of another epoch holds no piece. -/
theorem piece_other {ep e2 : Int} (k : Nat) (u : List Int) (j : Nat) (ha : 0 ≤ ep ∧ ep ≤ 18446744073709551615) (hb : 0 ≤ e2 ∧ e2 ≤ 18446744073709551615) (hne : ep ≠ e2) : piece e2 (k + j) (blk ep k u j) = none := by
  have hp := pay_len ep u j
  have h2 := outOf_sealed 76 ((k + j : Nat) : Int) (hdr ep (lst u j) ++ pc u j) hp
  have h3 : (hdr ep (lst u j) ++ pc u j).take 9 = hdr ep (lst u j) := by
    rw [List.take_append_of_le_length (by rw [hdr_length]; omega), List.take_of_length_le (by rw [hdr_length]; omega)]
  unfold piece blk
  rw [h2, h3, if_neg]
  rintro ⟨_, _, h⟩
  exact hne (hdr_inj ha hb h)
/-- A block of noughts holds none. -/
theorem piece_zero (ep : Int) (k : Nat) : piece ep k (List.replicate 256 0) = none := by
  unfold piece
  rw [if_neg]
  rintro ⟨h, _⟩
  unfold okOf at h
  simp only [Bool.and_eq_true, decide_eq_true_eq] at h
  have h1 := h.2.2
  have h2 : gi (sealed 76 (k : Int) (pay (List.replicate 256 0))) 8 = 76 := by
    have e : sealed 76 (k : Int) (pay (List.replicate 256 0)) = be (fnv (rest 76 (k : Int) (pay (List.replicate 256 0)))) 8 8 ++ rest 76 (k : Int) (pay (List.replicate 256 0)) := rfl
    have := gi_app (be (fnv (rest 76 (k : Int) (pay (List.replicate 256 0)))) 8 8) (rest 76 (k : Int) (pay (List.replicate 256 0))) 0
    rw [be_length] at this
    rw [e, this]
    rfl
  rw [h1] at h2
  have h3 : gi (List.replicate 256 0) 8 = 0 := rfl
  omega
/-- What a log reads: from block k on, n blocks; u is the unit that is begun, used what ends behind the last whole one. -/
def scan (ep : Int) (bs : Nat → List Int) : Nat → Nat → List Int → Nat → List (List Int) × Nat
  | 0, _, _, used => ([], used)
  | n + 1, k, u, used => match piece ep k (bs k) with
    | none => ([], used)
    | some (x, false) => scan ep bs n (k + 1) (u ++ x) used
    | some (x, true) => ((u ++ x) :: (scan ep bs n (k + 1) [] (k + 1)).1, (scan ep bs n (k + 1) [] (k + 1)).2)
/-- The units lie from block k on, and end ahead of block e. -/
def Laid (ep : Int) (bs : Nat → List Int) : Nat → List (List Int) → Nat → Prop
  | k, [], e => k = e
  | k, u :: us, e => u ≠ [] ∧ (∀ j, j < nbl u → bs (k + j) = blk ep k u j) ∧ Laid ep bs (k + nbl u) us e
theorem nbl_pos {u : List Int} (h : u ≠ []) : 1 ≤ nbl u := by
  have := List.length_pos_iff.2 h
  unfold nbl
  omega
theorem take_pc (u : List Int) (j : Nat) : u.take (233 * j) ++ pc u j = u.take (233 * (j + 1)) := by
  have : 233 * (j + 1) = 233 * j + 233 := by omega
  rw [this, List.take_add]
  rfl
theorem take_last {u : List Int} {j : Nat} (h : j + 1 = nbl u) : u.take (233 * (j + 1)) = u := List.take_of_length_le (by unfold nbl at h; omega)
theorem scan_unit (ep : Int) (bs : Nat → List Int) (k : Nat) (u : List Int) (hb : ∀ j, j < nbl u → bs (k + j) = blk ep k u j) (n used : Nat) :
    ∀ d j, j + d = nbl u → 0 < d → scan ep bs (n + d) (k + j) (u.take (233 * j)) used = (u :: (scan ep bs n (k + nbl u) [] (k + nbl u)).1, (scan ep bs n (k + nbl u) [] (k + nbl u)).2) := by
  intro d
  induction d with
  | zero => intro j _ h; omega
  | succ d ih =>
    intro j hj _
    have hlt : j < nbl u := by omega
    have hp : piece ep (k + j) (bs (k + j)) = some (pc u j, lst u j) := by rw [hb j hlt]; exact piece_blk ep k u j hlt
    rw [lst_iff hlt] at hp
    rw [show n + (d + 1) = n + d + 1 from rfl, scan, hp]
    rcases Nat.eq_zero_or_pos d with h0 | h0
    · subst h0
      have he : j + 1 = nbl u := by omega
      rw [decide_eq_true he]
      simp only [take_pc, take_last he, Nat.add_zero]
      rw [show k + j + 1 = k + nbl u from by omega]
    · rw [decide_eq_false (by omega)]
      simp only [take_pc]
      rw [show k + j + 1 = k + (j + 1) from by omega]
      exact ih (j + 1) (by omega) h0
/-- Behind the units no block ends one. -/
def Quiet (ep : Int) (bs : Nat → List Int) (a b : Nat) : Prop := ∀ i, a ≤ i → i < b → ∀ x, piece ep i (bs i) ≠ some (x, true)
theorem scan_quiet (ep : Int) (bs : Nat → List Int) : ∀ (n k : Nat) (u : List Int) (used : Nat), Quiet ep bs k (k + n) → scan ep bs n k u used = ([], used) := by
  intro n
  induction n with
  | zero => intro k u used _; rfl
  | succ n ih =>
    intro k u used hq
    rw [scan]
    rcases hp : piece ep k (bs k) with _ | ⟨x, _ | _⟩
    · rfl
    · exact ih (k + 1) _ used fun i h1 h2 => hq i (by omega) (by omega)
    · exact absurd hp (hq k (Nat.le_refl _) (by omega) x)
theorem Laid.le {ep : Int} {bs : Nat → List Int} : ∀ {us : List (List Int)} {k e : Nat}, Laid ep bs k us e → k ≤ e := by
  intro us
  induction us with
  | nil => intro k e h; exact Nat.le_of_eq h
  | cons u t ih => intro k e h; have := ih h.2.2; omega
theorem scan_laid (ep : Int) (bs : Nat → List Int) : ∀ (us : List (List Int)) (n k e used : Nat), Laid ep bs k us e → e ≤ k + n → Quiet ep bs e (k + n) → (us = [] → used = k) → scan ep bs n k [] used = (us, e) := by
  intro us
  induction us with
  | nil =>
    intro n k e used h he hq hu
    have : k = e := h
    subst this
    rw [scan_quiet ep bs n k [] used hq, hu rfl]
  | cons u t ih =>
    intro n k e used h he hq _
    obtain ⟨hne, hb, ht⟩ := h
    have h1 := nbl_pos hne
    have h2 := ht.le
    obtain ⟨m, rfl⟩ : ∃ m, n = m + nbl u := ⟨n - nbl u, by omega⟩
    have := scan_unit ep bs k u hb m used (nbl u) 0 (by omega) h1
    rw [Nat.mul_zero, List.take_zero, Nat.add_zero] at this
    rw [this, ih m (k + nbl u) e (k + nbl u) ht (by omega) (by rw [show k + nbl u + m = k + (m + nbl u) from by omega]; exact hq) fun _ => rfl]
theorem Laid.congr {ep : Int} {bs bs' : Nat → List Int} : ∀ {us : List (List Int)} {k e : Nat}, Laid ep bs k us e → (∀ i, k ≤ i → i < e → bs' i = bs i) → Laid ep bs' k us e := by
  intro us
  induction us with
  | nil => intro k e h _; exact h
  | cons u t ih =>
    intro k e h hc
    have hle := h.2.2.le
    exact ⟨h.1, fun j hj => (hc _ (by omega) (by omega)).trans (h.2.1 j hj), ih h.2.2 fun i h1 h2 => hc i (by omega) h2⟩
theorem Laid.snoc {ep : Int} {bs : Nat → List Int} {u : List Int} : ∀ {us : List (List Int)} {k e : Nat}, Laid ep bs k us e → u ≠ [] → (∀ j, j < nbl u → bs (e + j) = blk ep e u j) → Laid ep bs k (us ++ [u]) (e + nbl u) := by
  intro us
  induction us with
  | nil =>
    intro k e h hu hb
    have : k = e := h
    subst this
    exact ⟨hu, hb, rfl⟩
  | cons v t ih => intro k e h hu hb; exact ⟨h.1, h.2.1, ih h.2.2 hu hb⟩
/-- What is true of an area of a log: the units lie in it; behind them nothing ends one; of later epochs nothing is there. -/
structure Ar (ep : Int) (bs : Nat → List Int) (count : Nat) (us : List (List Int)) (used : Nat) : Prop where
  laid : Laid ep bs 0 us used
  le : used ≤ count
  quiet : Quiet ep bs used count
  old : ∀ i, i < count → ∀ e, ep < e → e ≤ 18446744073709551615 → piece e i (bs i) = none
  range : 0 ≤ ep ∧ ep ≤ 18446744073709551615
theorem Ar.scan {ep : Int} {bs : Nat → List Int} {count used : Nat} {us : List (List Int)} (h : Ar ep bs count us used) : Gp.scan ep bs count 0 [] 0 = (us, used) :=
  scan_laid ep bs us count 0 used 0 h.laid (by have := h.le; omega) (by rw [Nat.zero_add]; exact h.quiet) fun _ => rfl
theorem Ar.zero {ep : Int} (count : Nat) (hr : 0 ≤ ep ∧ ep ≤ 18446744073709551615) {bs : Nat → List Int} (hb : ∀ i, i < count → bs i = List.replicate 256 0) : Ar ep bs count [] 0 :=
  ⟨rfl, Nat.zero_le _, (fun i _ hi x h => by rw [hb i hi, piece_zero] at h; cases h), fun i hi e _ _ => by rw [hb i hi, piece_zero], hr⟩
/-- Another epoch begins. -/
theorem Ar.later {ep e2 : Int} {bs : Nat → List Int} {count used : Nat} {us : List (List Int)} (h : Ar ep bs count us used) (hlt : ep < e2) (h2 : e2 ≤ 18446744073709551615) : Ar e2 bs count [] 0 :=
  ⟨rfl, Nat.zero_le _, (fun i _ hi x hp => by rw [h.old i hi e2 hlt h2] at hp; cases hp), fun i hi e he hm => h.old i hi e (by omega) hm, ⟨by have := h.range; omega, h2⟩⟩
/-- The first n pieces of a unit are written behind the others. -/
def put (bs : Nat → List Int) (ep : Int) (k : Nat) (u : List Int) (n : Nat) : Nat → List Int := fun i => if k ≤ i ∧ i < k + n then blk ep k u (i - k) else bs i
theorem put_old {ep e : Int} {bs : Nat → List Int} {count k n : Nat} {u : List Int} (ho : ∀ i, i < count → ∀ e, ep < e → e ≤ 18446744073709551615 → piece e i (bs i) = none) (hr : 0 ≤ ep ∧ ep ≤ 18446744073709551615)
    {i : Nat} (hi : i < count) (h1 : ep < e) (h2 : e ≤ 18446744073709551615) : piece e i (put bs ep k u n i) = none := by
  unfold put
  by_cases h : k ≤ i ∧ i < k + n
  · rw [if_pos h]
    have := piece_other k u (i - k) hr ⟨by omega, h2⟩ (show ep ≠ e by omega)
    rwa [show k + (i - k) = i from by omega] at this
  · rw [if_neg h]
    exact ho i hi e h1 h2
theorem Ar.part {ep : Int} {bs : Nat → List Int} {count used n : Nat} {us : List (List Int)} {u : List Int} (h : Ar ep bs count us used) (hn : n < nbl u) : Ar ep (put bs ep used u n) count us used := by
  refine ⟨h.laid.congr fun i _ hi => ?_, h.le, fun i h1 h2 x hp => ?_, fun i hi e h1 h2 => put_old h.old h.range hi h1 h2, h.range⟩
  · unfold put
    rw [if_neg (by omega)]
  · unfold put at hp
    by_cases hc : used ≤ i ∧ i < used + n
    · rw [if_pos hc] at hp
      have hlt : i - used < nbl u := by omega
      have := piece_blk ep used u (i - used) hlt
      rw [show used + (i - used) = i from by omega, hp, lst_iff hlt, decide_eq_false (by omega)] at this
      simp at this
    · rw [if_neg hc] at hp
      exact h.quiet i h1 h2 x hp
theorem Ar.whole {ep : Int} {bs : Nat → List Int} {count used : Nat} {us : List (List Int)} {u : List Int} (h : Ar ep bs count us used) (hu : u ≠ []) (hfit : used + nbl u ≤ count) : Ar ep (put bs ep used u (nbl u)) count (us ++ [u]) (used + nbl u) := by
  refine ⟨(h.laid.congr fun i _ hi => ?_).snoc hu fun j hj => ?_, hfit, fun i h1 h2 x hp => ?_, fun i hi e h1 h2 => put_old h.old h.range hi h1 h2, h.range⟩
  · unfold put
    rw [if_neg (by omega)]
  · unfold put
    rw [if_pos (by omega), show used + j - used = j from by omega]
  · unfold put at hp
    rw [if_neg (by omega)] at hp
    exact h.quiet i (by omega) h2 x hp
theorem Ar.congr {ep : Int} {bs bs' : Nat → List Int} {count used : Nat} {us : List (List Int)} (h : Ar ep bs count us used) (hc : ∀ i, i < count → bs' i = bs i) : Ar ep bs' count us used :=
  ⟨h.laid.congr fun i _ hi => hc i (by have := h.le; omega), h.le, fun i h1 h2 x hp => h.quiet i h1 h2 x (by rw [← hc i h2]; exact hp), fun i hi e h1 h2 => by rw [hc i hi]; exact h.old i hi e h1 h2, h.range⟩
end Go.Proofs.Ytheopehhpoikdaa.Gp
