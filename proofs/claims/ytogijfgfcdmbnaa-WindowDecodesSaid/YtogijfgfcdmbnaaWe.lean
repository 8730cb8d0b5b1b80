/-
  Plain laws on a window's bytes.
-/
import Derived.Test.YtogijfgfcdmbnaaWp
import Derived.Test.YtogijfgfcdmbnaaCr2
import Derived.Test.YtogijfgfcdmbnaaCp
set_option linter.unusedVariables false
set_option linter.unusedSimpArgs false
namespace Go.Proofs.Ytogijfgfcdmbnaa.We
open Go.Proofs.Ytogijfgfcdmbnaa.Wp Go.Proofs.Ytogijfgfcdmbnaa.Cm
open Go.Proofs.Ytogijfgfcdmbnaa.Cr (Byte)
def SerNd (x : St) : Prop := ∀ e ∈ x, e.2.Nodup
def encE (e : Int × List Int) : List Int := num e.1 ++ (num e.2.length ++ e.2.flatMap num)
/-- A window's bytes. -/
def encX (x : St) : List Int := num x.length ++ x.flatMap encE
def rdS (c : Int) : Nat → St → List Int → Option (St × List Int)
  | 0, x, l => some (x, l)
  | k + 1, x, l => match rdNum l with
    | none => none
    | some (s, r) => if (addX x c s).1 then rdS c k (addX x c s).2 r else none
def rdC : Nat → St → List Int → Option (St × List Int)
  | 0, x, l => some (x, l)
  | n + 1, x, l => match rdNum l with
    | none => none
    | some (c, r) => match rdNum r with
      | none => none
      | some (k, r2) => if 1 ≤ k ∧ k ≤ 4 ∧ c ∉ x.map (·.1) then (match rdS c k.toNat x r2 with
        | none => none
        | some (y, r3) => rdC n y r3) else none
/-- The window of bytes. -/
def decX (l : List Int) : Option St := match rdNum l with
  | none => none
  | some (n, r) => if n ≤ 64 then (match rdC n.toNat [] r with
    | some (x, []) => some x
    | _ => none) else none
theorem SerNd.nil : SerNd [] := fun e h => by cases h
theorem sr_nd {x : St} (h : SerNd x) (c : Int) : (sr x c).Nodup := by
  rcases sr_mem (x := x) (c := c) with h1 | ⟨e, he, _, h2⟩
  · rw [h1]; exact List.nodup_nil
  · rw [← h2]; exact h e he
theorem SerNd.add {x : St} (h : SerNd x) (c s : Int) : SerNd (addX x c s).2 := by
  unfold addX
  by_cases hs : s ∈ sr x c
  · rw [if_pos hs]
    exact h
  · rw [if_neg hs]
    have hl : SerNd (laid x c s) := by
      intro e he
      unfold laid at he
      rcases List.mem_append.1 he with he | he
      · exact h e (List.mem_filter.1 he).1
      · obtain rfl := List.mem_singleton.1 he
        refine List.Nodup.sublist (List.drop_sublist _ _) ?_
        rw [List.nodup_append]
        exact ⟨sr_nd h c, by simp, fun a ha b hb => by
          obtain rfl : b = s := by simpa using hb
          rintro rfl
          exact hs ha⟩
    intro e he
    simp only [cut64] at he
    split at he
    · exact hl e (List.mem_of_mem_drop he)
    · exact hl e he
/-- A window behind whose clients one stands, with the serials pre. -/
def st (y : St) (c : Int) (pre : List Int) : St := if pre = [] then y else y ++ [(c, pre)]
theorem sr_st {y : St} {c : Int} (hc : c ∉ y.map (·.1)) (pre : List Int) : sr (st y c pre) c = pre := by
  have hy : ∀ e ∈ y, e.1 ≠ c := fun e he h => hc (List.mem_map.2 ⟨e, he, h⟩)
  unfold st
  split
  · rename_i h
    rw [h, sr_none y c hy]
  · rw [sr_append y _ c hy]
    simp [sr]
theorem rest_st {y : St} {c : Int} (hc : c ∉ y.map (·.1)) (pre : List Int) : rest (st y c pre) c = y := by
  have hy : rest y c = y := List.filter_eq_self.2 fun e he => by
    have : e.1 ≠ c := fun h => hc (List.mem_map.2 ⟨e, he, h⟩)
    simpa using this
  unfold st
  split
  · exact hy
  · have : rest (y ++ [(c, pre)]) c = rest y c ++ rest [(c, pre)] c := List.filter_append ..
    rw [this, hy]
    simp [rest]
theorem addX_st {y : St} {c s : Int} (hc : c ∉ y.map (·.1)) {pre : List Int} (hs : s ∉ pre) (hl : pre.length < 4) (hy : y.length < 64) : addX (st y c pre) c s = (true, st y c (pre ++ [s])) := by
  unfold addX laid
  rw [sr_st hc, if_neg hs, rest_st hc]
  have h4 : cut4 (pre ++ [s]) = pre ++ [s] := by
    unfold cut4
    rw [show (pre ++ [s]).length - 4 = 0 from by simp; omega]
    rfl
  rw [h4]
  unfold cut64 st
  rw [if_neg (by simp; omega), if_neg (by simp)]
theorem rdS_put {y : St} {c : Int} (hc : c ∉ y.map (·.1)) (hy : y.length < 64) (r : List Int) : ∀ (post pre : List Int), (pre ++ post).Nodup → (pre ++ post).length ≤ 4 → (∀ s ∈ post, Key s) →
    rdS c post.length (st y c pre) (post.flatMap num ++ r) = some (st y c (pre ++ post), r) := by
  intro post
  induction post with
  | nil => intro pre _ _ _; simp [rdS]
  | cons s t ih =>
    intro pre hnd hl hk
    have hks := hk s List.mem_cons_self
    have e : (s :: t).flatMap num ++ r = num s ++ (t.flatMap num ++ r) := by simp
    have hsp : s ∉ pre := fun h => by
      rw [List.nodup_append] at hnd
      exact hnd.2.2 s h s List.mem_cons_self rfl
    have hlen : pre.length < 4 := by simp at hl; omega
    rw [e, List.length_cons, rdS, Cp.rdNum_num s _ hks.1 hks.2]
    simp only [addX_st hc hsp hlen hy, if_true]
    have := ih (pre ++ [s]) (by simpa using hnd) (by simpa using hl) fun z hz => hk z (List.mem_cons_of_mem _ hz)
    rw [this]
    simp
theorem rdC_put (r : List Int) : ∀ (x y : St), Ok (y ++ x) → SerNd (y ++ x) → rdC x.length y (x.flatMap encE ++ r) = some (y ++ x, r) := by
  intro x
  induction x with
  | nil => intro y _ _; simp [rdC]
  | cons e t ih =>
    intro y ho hn
    obtain ⟨c, ss⟩ := e
    have hmem : ((c, ss) : Int × List Int) ∈ y ++ (c, ss) :: t := by simp
    have hkc := ho.key _ hmem
    have hle := ho.le _ hmem
    have hser := ho.ser _ hmem
    have hnd := hn _ hmem
    have hlen := ho.len
    simp only at hkc hle hser hnd
    have hcy : c ∉ y.map (·.1) := fun h => by
      have h2 := ho.nd
      rw [List.map_append, List.map_cons, List.nodup_append] at h2
      exact h2.2.2 c h c List.mem_cons_self rfl
    have e1 : ((c, ss) :: t).flatMap encE ++ r = num c ++ (num ss.length ++ (ss.flatMap num ++ (t.flatMap encE ++ r))) := by simp [encE]
    rw [e1, List.length_cons, rdC, Cp.rdNum_num c _ hkc.1 hkc.2]
    simp only
    rw [Cp.rdNum_num (ss.length : Int) _ (by omega) (by omega)]
    simp only [Int.toNat_natCast]
    rw [if_pos ⟨by omega, by omega, hcy⟩]
    have hp := rdS_put hcy (by simp at hlen; omega) (t.flatMap encE ++ r) ss [] (by simpa using hnd) (by simpa using hle.2) hser
    have e2 : st y c [] = y := rfl
    have e3 : st y c ([] ++ ss) = y ++ [(c, ss)] := by
      unfold st
      rw [if_neg]
      · rfl
      · intro h
        rw [List.nil_append] at h
        rw [h] at hle
        simp at hle
    rw [e2, e3] at hp
    rw [hp]
    have := ih (y ++ [(c, ss)]) (by simpa using ho) (by simpa using hn)
    simp only [this]
    simp
/-- What was encoded is decoded. -/
theorem dec_enc {x : St} (ho : Ok x) (hn : SerNd x) : decX (encX x) = some x := by
  have hl := ho.len
  have h := rdC_put [] x [] (by simpa using ho) (by simpa using hn)
  rw [List.append_nil, List.nil_append] at h
  unfold decX encX
  rw [Cp.rdNum_num (x.length : Int) _ (by omega) (by omega)]
  simp only [Int.toNat_natCast]
  rw [if_pos (by omega), h]
theorem rdNum_rng {l r : List Int} {n : Int} (hb : Byte l) (h : rdNum l = some (n, r)) : Key n ∧ l = num n ++ r ∧ Byte r := by
  have hr := Cr.stN_range l false hb
  have e := Cp.rdNum_only l n r hb h
  have e2 : stN l false = (n, r, false) := by unfold stN; rw [h]
  rw [e2] at hr
  exact ⟨hr, e, fun c hc => hb c (by rw [e]; exact List.mem_append_right _ hc)⟩
theorem rdS_only {y : St} {c : Int} (hc : c ∉ y.map (·.1)) (hy : y.length < 64) : ∀ (k : Nat) (pre l : List Int) (q : St × List Int), Byte l → pre.length + k ≤ 4 → rdS c k (st y c pre) l = some q →
    ∃ post, post.length = k ∧ l = post.flatMap num ++ q.2 ∧ q.1 = st y c (pre ++ post) ∧ Byte q.2 ∧ (∀ s ∈ post, Key s) ∧ (pre.Nodup → (pre ++ post).Nodup) := by
  intro k
  induction k with
  | zero =>
    intro pre l q hb _ h
    simp only [rdS, Option.some.injEq] at h
    subst h
    exact ⟨[], rfl, by simp, by simp, hb, by simp, fun h => by simpa using h⟩
  | succ k ih =>
    intro pre l q hb hk h
    rw [rdS] at h
    rcases hq : rdNum l with _ | ⟨s, r⟩
    · rw [hq] at h; cases h
    · rw [hq] at h
      simp only at h
      obtain ⟨hks, hl, hbr⟩ := rdNum_rng hb hq
      by_cases hs : s ∈ pre
      · have : addX (st y c pre) c s = (false, st y c pre) := by unfold addX; rw [sr_st hc, if_pos hs]
        rw [this] at h
        simp at h
      · rw [addX_st hc hs (by omega) hy] at h
        simp only [if_true] at h
        obtain ⟨post, p1, p2, p3, p4, p5, p6⟩ := ih (pre ++ [s]) r q hbr (by simp; omega) h
        refine ⟨s :: post, by simp [p1], by rw [hl, p2]; simp, by rw [p3]; simp, p4, fun z hz => ?_, fun hn => ?_⟩
        · rcases List.mem_cons.1 hz with rfl | hz
          · exact hks
          · exact p5 z hz
        · have := p6 (by
            rw [List.nodup_append]
            exact ⟨hn, by simp, fun a ha b hb => by
              obtain rfl : b = s := by simpa using hb
              rintro rfl
              exact hs ha⟩)
          simpa using this
theorem rdC_only : ∀ (n : Nat) (y : St) (l : List Int) (q : St × List Int), Byte l → Ok y → SerNd y → y.length + n ≤ 64 → rdC n y l = some q →
    ∃ z, z.length = n ∧ q.1 = y ++ z ∧ l = z.flatMap encE ++ q.2 ∧ Ok q.1 ∧ SerNd q.1 := by
  intro n
  induction n with
  | zero =>
    intro y l q _ ho hn _ h
    simp only [rdC, Option.some.injEq] at h
    subst h
    exact ⟨[], rfl, by simp, by simp, ho, hn⟩
  | succ n ih =>
    intro y l q hb ho hn hlen h
    rw [rdC] at h
    rcases hq : rdNum l with _ | ⟨c, r⟩
    · rw [hq] at h; cases h
    rw [hq] at h
    simp only at h
    obtain ⟨hkc, hl, hbr⟩ := rdNum_rng hb hq
    rcases hq2 : rdNum r with _ | ⟨k, r2⟩
    · rw [hq2] at h; cases h
    rw [hq2] at h
    simp only at h
    obtain ⟨hkk, hl2, hbr2⟩ := rdNum_rng hbr hq2
    by_cases hc : 1 ≤ k ∧ k ≤ 4 ∧ c ∉ y.map (·.1)
    · rw [if_pos hc] at h
      rcases hq3 : rdS c k.toNat y r2 with _ | ⟨y2, r3⟩
      · rw [hq3] at h; cases h
      rw [hq3] at h
      simp only at h
      obtain ⟨post, p1, p2, p3, p4, p5, p6⟩ := rdS_only hc.2.2 (by omega) k.toNat [] r2 (y2, r3) hbr2 (by simp; omega) hq3
      simp only [List.nil_append] at p2 p3 p4 p6
      have hne : post ≠ [] := fun h => by
        rw [h] at p1
        simp at p1
        omega
      have e3 : st y c post = y ++ [(c, post)] := by unfold st; rw [if_neg hne]
      rw [e3] at p3
      subst p3
      have hpl : 1 ≤ post.length ∧ post.length ≤ 4 := by omega
      have ho2 : Ok (y ++ [(c, post)]) := by
        refine ⟨fun e he => ?_, ?_, fun e he => ?_, fun e he => ?_, by simp; omega⟩
        · rcases List.mem_append.1 he with he | he
          · exact ho.key e he
          · obtain rfl := List.mem_singleton.1 he
            exact hkc
        · rw [List.map_append, List.nodup_append]
          exact ⟨ho.nd, by simp, fun a ha b hb => by
            obtain rfl : b = c := by simpa using hb
            rintro rfl
            exact hc.2.2 ha⟩
        · rcases List.mem_append.1 he with he | he
          · exact ho.le e he
          · obtain rfl := List.mem_singleton.1 he
            exact hpl
        · rcases List.mem_append.1 he with he | he
          · exact ho.ser e he
          · obtain rfl := List.mem_singleton.1 he
            exact p5
      have hn2 : SerNd (y ++ [(c, post)]) := fun e he => by
        rcases List.mem_append.1 he with he | he
        · exact hn e he
        · obtain rfl := List.mem_singleton.1 he
          exact p6 List.nodup_nil
      obtain ⟨z, z1, z2, z3, z4, z5⟩ := ih _ r3 q p4 ho2 hn2 (by simp; omega) h
      refine ⟨(c, post) :: z, by simp [z1], by rw [z2]; simp, ?_, z4, z5⟩
      rw [hl, hl2, p2, z3]
      have : (k : Int) = (post.length : Int) := by omega
      simp [encE, this]
    · rw [if_neg hc] at h; cases h
/-- Who is decoded has just those bytes. -/
theorem dec_only {l : List Int} {x : St} (hb : Byte l) (h : decX l = some x) : encX x = l ∧ Ok x ∧ SerNd x := by
  unfold decX at h
  rcases hq : rdNum l with _ | ⟨n, r⟩
  · rw [hq] at h; cases h
  rw [hq] at h
  simp only at h
  obtain ⟨hkn, hl, hbr⟩ := rdNum_rng hb hq
  by_cases hn : n ≤ 64
  · rw [if_pos hn] at h
    rcases hq2 : rdC n.toNat [] r with _ | ⟨y, r2⟩
    · rw [hq2] at h; cases h
    rw [hq2] at h
    rcases r2 with _ | ⟨z, r2⟩
    · simp only [Option.some.injEq] at h
      subst h
      obtain ⟨z, z1, z2, z3, z4, z5⟩ := rdC_only n.toNat [] r (y, []) hbr Ok.nil SerNd.nil (by simp; omega) hq2
      simp only [List.nil_append, List.append_nil] at z2 z3 z4 z5
      subst z2
      refine ⟨?_, z4, z5⟩
      unfold encX
      have : ((y.length : Nat) : Int) = n := by
        have := hkn.1
        omega
      rw [this, ← z3]
      exact hl.symm
    · cases h
  · rw [if_neg hn] at h; cases h
theorem encE_le (e : Int × List Int) (h : e.2.length ≤ 4) : (encE e).length ≤ 54 := by
  have h1 := (num_length e.1).2
  have h2 := (num_length (e.2.length : Int)).2
  have h3 : ∀ l : List Int, (l.flatMap num).length ≤ 9 * l.length := by
    intro l
    induction l with
    | nil => simp
    | cons a t ih =>
      have := (num_length a).2
      simp only [List.flatMap_cons, List.length_append, List.length_cons]
      omega
  have := h3 e.2
  simp only [encE, List.length_append]
  omega
theorem encX_take_le {x : St} (ho : Ok x) (j : Nat) : ((x.take j).flatMap encE).length ≤ 54 * 64 := by
  have h : ∀ y : St, (∀ e ∈ y, e.2.length ≤ 4) → (y.flatMap encE).length ≤ 54 * y.length := by
    intro y
    induction y with
    | nil => simp
    | cons a t ih =>
      intro hy
      have := encE_le a (hy a List.mem_cons_self)
      have := ih fun e he => hy e (List.mem_cons_of_mem _ he)
      simp only [List.flatMap_cons, List.length_append, List.length_cons]
      omega
  have h1 := h (x.take j) fun e he => (ho.le e (List.mem_of_mem_take he)).2
  have h2 : (x.take j).length ≤ 64 := by
    have := ho.len
    rw [List.length_take]
    omega
  omega
theorem encX_byte {x : St} (ho : Ok x) : Byte (encX x) := by
  intro c hc
  unfold encX at hc
  rcases List.mem_append.1 hc with hc | hc
  · exact Cp.num_byte _ (by omega) c hc
  · obtain ⟨e, he, hc⟩ := List.mem_flatMap.1 hc
    unfold encE at hc
    rcases List.mem_append.1 hc with hc | hc
    · exact Cp.num_byte _ (ho.key e he).1 c hc
    · rcases List.mem_append.1 hc with hc | hc
      · exact Cp.num_byte _ (by omega) c hc
      · obtain ⟨s, hs, hc⟩ := List.mem_flatMap.1 hc
        exact Cp.num_byte _ (ho.ser e he s hs).1 c hc
end Go.Proofs.Ytogijfgfcdmbnaa.We
