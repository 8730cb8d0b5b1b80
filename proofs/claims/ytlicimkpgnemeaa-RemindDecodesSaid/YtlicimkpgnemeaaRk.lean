/-
  Plain laws on a queue's bytes.
-/
import Derived.Test.YtlicimkpgnemeaaRe
import Derived.Test.YtlicimkpgnemeaaCf
import Derived.Test.YtlicimkpgnemeaaCp
import Derived.Test.YtlicimkpgnemeaaCw2
set_option linter.unusedVariables false
set_option linter.unusedSimpArgs false
namespace Go.Proofs.Ytlicimkpgnemeaa.Nd
open Go.RowKit Go.Proofs.Ytlicimkpgnemeaa Go.Proofs.Ytlicimkpgnemeaa.B Go.Proofs.Ytlicimkpgnemeaa.Cm Go.Proofs.Ytlicimkpgnemeaa.Cw Go.Proofs.Ytlicimkpgnemeaa.Cr
theorem uz_zz (n : Int) : uz (zz n) = n := by unfold uz zz; split <;> split <;> omega
theorem back_num (n : Int) (r : List Int) (h0 : 0 ≤ n) (h1 : n ≤ 18446744073709551615) : stN (num n ++ r) false = (n, r, false) := by
  unfold stN
  rw [Cp.rdNum_num n r h0 h1]
theorem back_text (s : ByteArray) (r : List Int) (hs : s.size ≤ 18446744073709551615) : stT (num s.size ++ sb s ++ r) false = (sb s, r, false) := by
  unfold stT
  rw [List.append_assoc, back_num s.size (sb s ++ r) (by omega) (by omega)]
  have hl := sb_length s
  simp only [Bool.false_eq_true, if_false]
  rw [if_neg (by rw [List.length_append]; omega)]
  have e : ((s.size : Int)).toNat = (sb s).length := by omega
  rw [e, List.take_left, List.drop_left]
theorem sb_str (s : ByteArray) : strOfNums (sb s) = s := by
  apply ByteArray.ext
  apply Array.toList_inj.1
  simp only [strOfNums, sb, List.map_map]
  have : (s.data.toList.map ((fun n : Int => UInt8.ofNat n.toNat) ∘ fun b : UInt8 => (b.toNat : Int))) = s.data.toList := by
    conv => rhs; rw [← List.map_id s.data.toList]
    exact List.map_congr_left fun b _ => by simp
  simpa using this
theorem stN_only {l r : List Int} {n : Int} (hb : Byte l) (h : stN l false = (n, r, false)) : l = num n ++ r ∧ Byte r ∧ 0 ≤ n ∧ n ≤ 18446744073709551615 := by
  have hr := stN_range l false hb
  rw [h] at hr
  unfold stN at h
  rcases hq : rdNum l with _ | ⟨n', r'⟩
  · rw [hq] at h
    simp at h
  · rw [hq] at h
    simp only [Prod.mk.injEq, and_true] at h
    obtain ⟨rfl, rfl⟩ := h
    have e := Cp.rdNum_only l n' r' hb hq
    exact ⟨e, fun c hc => hb c (by rw [e]; exact List.mem_append_right _ hc), hr.1, hr.2⟩
theorem sb_strOf (t : List Int) (hb : Byte t) : sb (strOfNums t) = t := by
  simp only [sb, strOfNums, List.map_map]
  conv => rhs; rw [← List.map_id t]
  exact List.map_congr_left fun b hbm => by
    have := hb b hbm
    simp
    omega
theorem stT_only {l r t : List Int} (hb : Byte l) (h : stT l false = (t, r, false)) : l = num (strOfNums t).size ++ sb (strOfNums t) ++ r ∧ Byte r := by
  unfold stT at h
  obtain ⟨n, r1, b1, e⟩ : ∃ n r1 b1, stN l false = (n, r1, b1) := ⟨_, _, _, rfl⟩
  rw [e] at h
  simp only at h
  rcases b1 with _ | _
  · simp only [Bool.false_eq_true, if_false] at h
    obtain ⟨h1, h2, h3, h4⟩ := stN_only hb e
    by_cases h5 : (r1.length : Int) < n
    · rw [if_pos h5] at h
      simp at h
    · rw [if_neg h5] at h
      simp only [Prod.mk.injEq, and_true] at h
      obtain ⟨rfl, rfl⟩ := h
      have hs := strOfNums_size (r1.take n.toNat)
      rw [List.length_take] at hs
      have hn : ((strOfNums (r1.take n.toNat)).size : Int) = n := by omega
      refine ⟨?_, fun c hc => h2 c (List.mem_of_mem_drop hc)⟩
      rw [hn, sb_strOf _ fun c hc => h2 c (List.mem_of_mem_take hc), List.append_assoc, List.take_append_drop]
      exact h1
  · simp at h
theorem zz_uz (n : Int) (h : 0 ≤ n) : Cw.zz (uz n) = n := by unfold uz Cw.zz; split <;> split <;> omega
theorem uz_in (n : Int) (h0 : 0 ≤ n) (h1 : n ≤ 18446744073709551615) : -9223372036854775808 ≤ uz n ∧ uz n ≤ 9223372036854775807 := by unfold uz; split <;> omega
theorem stN_true (l : List Int) : (stN l true).2.2 = true := by
  unfold stN
  split <;> rfl
theorem stN_good {l r : List Int} {n : Int} {b : Bool} (h : stN l b = (n, r, false)) : b = false := by
  rcases b with _ | _
  · rfl
  · have := stN_true l
    rw [h] at this
    cases this
theorem stT_good {l r t : List Int} {b : Bool} (h : stT l b = (t, r, false)) : b = false := by
  cases b with
  | false => rfl
  | true =>
    unfold stT at h
    rw [stN_true l] at h
    simp at h
def encR (r : Rm) : List Int := num r.actor.size ++ sb r.actor ++ (num r.name.size ++ sb r.name ++ (num (zz r.due) ++ (num (zz r.per) ++ num (zz r.kind))))
/-- A queue's bytes. -/
def encQ (l : List Rm) : List Int := num l.length ++ l.flatMap encR
def rdR (l : List Int) (b : Bool) : Rm × List Int × Bool :=
  let q1 := stT l b
  let q2 := stT q1.2.1 q1.2.2
  let q3 := stN q2.2.1 q2.2.2
  let q4 := stN q3.2.1 q3.2.2
  let q5 := stN q4.2.1 q4.2.2
  (⟨strOfNums q1.1, strOfNums q2.1, uz q3.1, uz q4.1, uz q5.1⟩, q5.2.1, q5.2.2)
def goodR (x : List Rm) (r : Rm) : Bool := decide (wrongR r = 0) && !has r.actor r.name x && (match x.getLast? with
  | none => true
  | some y => less y r)
def rdQ : Nat → List Rm → List Int → Option (List Rm × List Int)
  | 0, x, l => some (x, l)
  | n + 1, x, l => if (rdR l false).2.2 = false ∧ goodR x (rdR l false).1 = true then rdQ n (x ++ [(rdR l false).1]) (rdR l false).2.1 else none
def fin : Option (List Rm × List Int) → Option (List Rm)
  | some (x, []) => some x
  | _ => none
/-- The queue of bytes. -/
def decQ (l : List Int) : Option (List Rm) := match rdNum l with
  | none => none
  | some (n, r) => if n ≤ 64 then fin (rdQ n.toNat [] r) else none
theorem rdR_put {r : Rm} (ha : r.actor.size ≤ 40) (hn : r.name.size ≤ 40) (hr : I64 r.due ∧ I64 r.per ∧ I64 r.kind) (rest : List Int) : rdR (encR r ++ rest) false = (r, rest, false) := by
  have e : encR r ++ rest = num r.actor.size ++ sb r.actor ++ (num r.name.size ++ sb r.name ++ (num (zz r.due) ++ (num (zz r.per) ++ (num (zz r.kind) ++ rest)))) := by simp [encR]
  obtain ⟨hd, hp, hk⟩ := hr
  unfold I64 at hd hp hk
  have z1 := zz_range r.due hd.1 hd.2
  have z2 := zz_range r.per hp.1 hp.2
  have z3 := zz_range r.kind hk.1 hk.2
  rw [e]
  unfold rdR
  rw [back_text _ _ (by omega)]
  simp only
  rw [back_text _ _ (by omega)]
  simp only
  rw [back_num _ _ z1.1 z1.2]
  simp only
  rw [back_num _ _ z2.1 z2.2]
  simp only
  rw [back_num _ _ z3.1 z3.2]
  simp only [sb_str, uz_zz]
theorem rdR_only {l rest : List Int} {r : Rm} (hb : Byte l) (h : rdR l false = (r, rest, false)) : l = encR r ++ rest ∧ Byte rest ∧ I64 r.due ∧ I64 r.per ∧ I64 r.kind := by
  unfold rdR at h
  obtain ⟨t1, l1, b1, e1⟩ : ∃ t l' b', stT l false = (t, l', b') := ⟨_, _, _, rfl⟩
  obtain ⟨t2, l2, b2, e2⟩ : ∃ t l' b', stT l1 b1 = (t, l', b') := ⟨_, _, _, rfl⟩
  obtain ⟨n3, l3, b3, e3⟩ : ∃ t l' b', stN l2 b2 = (t, l', b') := ⟨_, _, _, rfl⟩
  obtain ⟨n4, l4, b4, e4⟩ : ∃ t l' b', stN l3 b3 = (t, l', b') := ⟨_, _, _, rfl⟩
  obtain ⟨n5, l5, b5, e5⟩ : ∃ t l' b', stN l4 b4 = (t, l', b') := ⟨_, _, _, rfl⟩
  rw [e1] at h
  simp only at h
  rw [e2] at h
  simp only at h
  rw [e3] at h
  simp only at h
  rw [e4] at h
  simp only at h
  rw [e5] at h
  simp only [Prod.mk.injEq] at h
  obtain ⟨rfl, rfl, rfl⟩ := h
  obtain rfl := stN_good e5
  obtain rfl := stN_good e4
  obtain rfl := stN_good e3
  obtain rfl := stT_good e2
  obtain ⟨f1, g1⟩ := stT_only hb e1
  obtain ⟨f2, g2⟩ := stT_only g1 e2
  obtain ⟨f3, g3, p3, q3⟩ := stN_only g2 e3
  obtain ⟨f4, g4, p4, q4⟩ := stN_only g3 e4
  obtain ⟨f5, g5, p5, q5⟩ := stN_only g4 e5
  refine ⟨?_, g5, uz_in n3 p3 q3, uz_in n4 p4 q4, uz_in n5 p5 q5⟩
  unfold encR
  simp only
  rw [zz_uz n3 p3, zz_uz n4 p4, zz_uz n5 p5, f1, f2, f3, f4, f5]
  simp
theorem Inv.snoc {x : List Rm} {r : Rm} (h : Inv x) (hg : goodR x r = true) (hr : I64 r.due ∧ I64 r.per ∧ I64 r.kind) (hl : x.length < 64) : Inv (x ++ [r]) := by
  unfold goodR at hg
  simp only [Bool.and_eq_true, decide_eq_true_eq, Bool.not_eq_true'] at hg
  obtain ⟨⟨hw, hh⟩, hlast⟩ := hg
  have hall : ∀ a ∈ x, less a r = true := fun a ha => by
    have hne : x ≠ [] := fun e => by rw [e] at ha; cases ha
    rw [List.getLast?_eq_some_getLast hne] at hlast
    simp only at hlast
    have e := List.dropLast_concat_getLast hne
    have hs := h.srt
    rw [← e, List.pairwise_append] at hs
    rw [← e] at ha
    rcases List.mem_append.1 ha with ha | ha
    · exact less_trans (hs.2.2 a ha _ (List.mem_singleton.2 rfl)) hlast
    · rw [List.mem_singleton.1 ha]
      exact hlast
  refine ⟨?_, ?_, by simp; omega, fun y hy => ?_⟩
  · rw [List.pairwise_append]
    exact ⟨h.srt, by simp, fun a ha b hb => by rw [List.mem_singleton.1 hb]; exact hall a ha⟩
  · rw [List.pairwise_append]
    exact ⟨h.unq, by simp, fun a ha b hb => by rw [List.mem_singleton.1 hb]; exact has_false hh ha⟩
  · rcases List.mem_append.1 hy with hy | hy
    · exact h.ok y hy
    · rw [List.mem_singleton.1 hy]
      exact ⟨hw, hr.1, hr.2.1, hr.2.2⟩
theorem Inv.good {x : List Rm} {r : Rm} (h : Inv (x ++ [r])) : goodR x r = true := by
  unfold goodR
  simp only [Bool.and_eq_true, decide_eq_true_eq, Bool.not_eq_true']
  have hs := h.srt
  have hu := h.unq
  rw [List.pairwise_append] at hs hu
  refine ⟨⟨(h.ok r (by simp)).w, ?_⟩, ?_⟩
  · unfold has
    rw [List.any_eq_false]
    intro y hy
    rw [hu.2.2 y hy r (by simp)]
    simp
  · rcases hx : x.getLast? with _ | y
    · rfl
    · exact hs.2.2 y (List.mem_of_getLast? hx) r (by simp)
theorem rdQ_put (rest : List Int) : ∀ (t x : List Rm), Inv (x ++ t) → rdQ t.length x (t.flatMap encR ++ rest) = some (x ++ t, rest) := by
  intro t
  induction t with
  | nil => intro x _; simp [rdQ]
  | cons r t ih =>
    intro x h
    have e : (r :: t).flatMap encR ++ rest = encR r ++ (t.flatMap encR ++ rest) := by simp
    have ho := h.ok r (by simp)
    have hor := ho.r
    have h2 : Inv ((x ++ [r]) ++ t) := by simpa using h
    have h1 : Inv (x ++ [r]) := h2.sub (List.sublist_append_left _ _)
    rw [e, List.length_cons, rdQ, rdR_put hor.2.2.2.1 hor.2.2.2.2 ⟨ho.d, ho.p, ho.k⟩, if_pos ⟨rfl, h1.good⟩, ih _ h2]
    simp
theorem rdQ_only : ∀ (n : Nat) (x : List Rm) (l : List Int) (q : List Rm × List Int), Byte l → Inv x → x.length + n ≤ 64 → rdQ n x l = some q →
    ∃ z, z.length = n ∧ q.1 = x ++ z ∧ l = z.flatMap encR ++ q.2 ∧ Inv q.1 := by
  intro n
  induction n with
  | zero =>
    intro x l q _ h _ hq
    simp only [rdQ, Option.some.injEq] at hq
    subst hq
    exact ⟨[], rfl, by simp, by simp, h⟩
  | succ n ih =>
    intro x l q hb h hl hq
    rw [rdQ] at hq
    obtain ⟨r, rest, b, e⟩ : ∃ r rest b, rdR l false = (r, rest, b) := ⟨_, _, _, rfl⟩
    rw [e] at hq
    simp only at hq
    by_cases hg : b = false ∧ goodR x r = true
    · rw [if_pos hg] at hq
      obtain ⟨rfl, hg⟩ := hg
      obtain ⟨f1, f2, f3⟩ := rdR_only hb e
      obtain ⟨z, z1, z2, z3, z4⟩ := ih _ rest q f2 (h.snoc hg f3 (by omega)) (by simp; omega) hq
      exact ⟨r :: z, by simp [z1], by rw [z2]; simp, by rw [f1, z3]; simp, z4⟩
    · rw [if_neg hg] at hq
      cases hq
theorem dec_enc {l : List Rm} (h : Inv l) : decQ (encQ l) = some l := by
  have hl := h.len
  have hp := rdQ_put [] l [] (by simpa using h)
  rw [List.append_nil, List.nil_append] at hp
  unfold decQ encQ
  rw [Cp.rdNum_num (l.length : Int) _ (by omega) (by omega)]
  simp only [Int.toNat_natCast]
  rw [if_pos (by omega), hp]
  rfl
theorem dec_only {l : List Int} {x : List Rm} (hb : Byte l) (h : decQ l = some x) : encQ x = l ∧ Inv x := by
  unfold decQ at h
  rcases hq : rdNum l with _ | ⟨n, r⟩
  · rw [hq] at h; cases h
  rw [hq] at h
  simp only at h
  have hs : stN l false = (n, r, false) := by unfold stN; rw [hq]
  obtain ⟨e, hbr, h0, _⟩ := stN_only hb hs
  by_cases hn : n ≤ 64
  · rw [if_pos hn] at h
    rcases hq2 : rdQ n.toNat [] r with _ | ⟨y, r2⟩
    · rw [hq2] at h; cases h
    rw [hq2] at h
    rcases r2 with _ | ⟨z, r2⟩
    · simp only [fin, Option.some.injEq] at h
      subst h
      obtain ⟨z, z1, z2, z3, z4⟩ := rdQ_only n.toNat [] r (y, []) hbr Inv.nil (by simp; omega) hq2
      simp only [List.nil_append, List.append_nil] at z2 z3 z4
      subst z2
      refine ⟨?_, z4⟩
      unfold encQ
      have : ((y.length : Nat) : Int) = n := by omega
      rw [this, ← z3]
      exact e.symm
    · cases h
  · rw [if_neg hn] at h; cases h
theorem encR_le {r : Rm} (h : Okr r) : (encR r).length ≤ 125 := by
  have hr := h.r
  have h1 := (num_length r.actor.size).2
  have h2 := (num_length r.name.size).2
  have h3 := (num_length (zz r.due)).2
  have h4 := (num_length (zz r.per)).2
  have h5 := (num_length (zz r.kind)).2
  have h6 := sb_length r.actor
  have h7 := sb_length r.name
  simp only [encR, List.length_append]
  omega
theorem encQ_take_le {l : List Rm} (h : Inv l) (j : Nat) : ((l.take j).flatMap encR).length ≤ 8000 := by
  have hh : ∀ y : List Rm, (∀ r ∈ y, Okr r) → (y.flatMap encR).length ≤ 125 * y.length := by
    intro y
    induction y with
    | nil => simp
    | cons a t ih =>
      intro hy
      have := encR_le (hy a List.mem_cons_self)
      have := ih fun e he => hy e (List.mem_cons_of_mem _ he)
      simp only [List.flatMap_cons, List.length_append, List.length_cons]
      omega
  have h1 := hh (l.take j) fun r hr => h.ok r (List.mem_of_mem_take hr)
  have h2 : (l.take j).length ≤ 64 := by
    have := h.len
    rw [List.length_take]
    omega
  omega
theorem sb_byte (s : ByteArray) : Byte (sb s) := by
  intro c hc
  simp only [sb, List.mem_map] at hc
  obtain ⟨b, _, rfl⟩ := hc
  have := b.toNat_lt
  omega
theorem encQ_byte {l : List Rm} (h : Inv l) : Byte (encQ l) := by
  intro c hc
  unfold encQ at hc
  rcases List.mem_append.1 hc with hc | hc
  · exact Cp.num_byte _ (by omega) c hc
  · obtain ⟨r, hr, hc⟩ := List.mem_flatMap.1 hc
    have ho := h.ok r hr
    have z1 := zz_range r.due ho.d.1 ho.d.2
    have z2 := zz_range r.per ho.p.1 ho.p.2
    have z3 := zz_range r.kind ho.k.1 ho.k.2
    simp only [encR, List.mem_append] at hc
    rcases hc with (hc | hc) | (hc | hc) | hc | hc | hc
    · exact Cp.num_byte _ (by omega) c hc
    · exact sb_byte _ c hc
    · exact Cp.num_byte _ (by omega) c hc
    · exact sb_byte _ c hc
    · exact Cp.num_byte _ z1.1 c hc
    · exact Cp.num_byte _ z2.1 c hc
    · exact Cp.num_byte _ z3.1 c hc
end Go.Proofs.Ytlicimkpgnemeaa.Nd
