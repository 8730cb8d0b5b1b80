/-
  Reminders: plain laws (no program in sight): the order, queues as sorted lists.
-/
import Derived.Test.YtlicimkpgnemeaaBase
import Derived.Lib.Bytealg
set_option linter.unusedVariables false
set_option linter.unusedSimpArgs false
namespace Go.Proofs.Ytlicimkpgnemeaa.Nd
open Go.RowKit Go.Proofs.Ytlicimkpgnemeaa.B
structure Rm where
  actor : ByteArray
  name : ByteArray
  due : Int
  per : Int
  kind : Int
def rc (r : Rm) : List Value := [.string r.actor, .string r.name, .int .i64 r.due, .int .i64 r.per, .int .i64 r.kind]
def rv (r : Rm) : Value := .agg #[.string r.actor, .string r.name, .int .i64 r.due, .int .i64 r.per, .int .i64 r.kind]
/-! ### texts -/
def bl (x y : ByteArray) : Bool := Op.bytesLess x.toList y.toList
def be (x y : ByteArray) : Bool := x.toList == y.toList
theorem toList_data (x : ByteArray) : x.toList = x.data.toList := by
  obtain ⟨⟨l⟩⟩ := x
  exact ByteArray.toList_mk l
theorem be_iff (x y : ByteArray) : be x y = true ↔ x = y := by
  unfold be
  rw [beq_iff_eq]
  refine ⟨fun h => ?_, fun h => by rw [h]⟩
  rw [toList_data, toList_data] at h
  obtain ⟨⟨a⟩⟩ := x
  obtain ⟨⟨b⟩⟩ := y
  simp only at h
  rw [h]
theorem be_refl (x : ByteArray) : be x x = true := (be_iff x x).2 rfl
theorem bl_irrefl_l : ∀ x : List UInt8, Op.bytesLess x x = false
  | [] => rfl
  | a :: x => by
    show (decide (a < a) || (a == a && Op.bytesLess x x)) = false
    rw [bl_irrefl_l x]
    simp
theorem bl_trans_l : ∀ x y z : List UInt8, Op.bytesLess x y = true → Op.bytesLess y z = true → Op.bytesLess x z = true
  | _, [], _, h, _ => by cases ‹List UInt8› <;> simp [Op.bytesLess] at h
  | _, _ :: _, [], _, h => by simp [Op.bytesLess] at h
  | [], _ :: _, _ :: _, _, _ => rfl
  | a :: x, b :: y, c :: z, h1, h2 => by
    have e1 : (decide (a < b) || (a == b && Op.bytesLess x y)) = true := h1
    have e2 : (decide (b < c) || (b == c && Op.bytesLess y z)) = true := h2
    show (decide (a < c) || (a == c && Op.bytesLess x z)) = true
    simp only [Bool.or_eq_true, Bool.and_eq_true, decide_eq_true_eq, beq_iff_eq] at e1 e2 ⊢
    rcases e1 with e1 | ⟨e1, e1'⟩
    · rcases e2 with e2 | ⟨e2, e2'⟩
      · exact .inl (UInt8.lt_trans e1 e2)
      · exact .inl (e2 ▸ e1)
    · rcases e2 with e2 | ⟨e2, e2'⟩
      · exact .inl (e1 ▸ e2)
      · exact .inr ⟨e1.trans e2, bl_trans_l x y z e1' e2'⟩
theorem cb_lt : ∀ x y : List UInt8, (Lib.compareBytes x y < 0 ↔ Op.bytesLess x y = true) ∧ (Lib.compareBytes x y = 0 ↔ x = y)
  | [], [] => by simp [Lib.compareBytes, Op.bytesLess]
  | [], _ :: _ => by simp [Lib.compareBytes, Op.bytesLess]
  | _ :: _, [] => by simp [Lib.compareBytes, Op.bytesLess]
  | a :: x, b :: y => by
    have ih := cb_lt x y
    have e : Op.bytesLess (a :: x) (b :: y) = (decide (a < b) || (a == b && Op.bytesLess x y)) := rfl
    rw [e]
    unfold Lib.compareBytes
    by_cases h1 : a < b
    · have hne : a ≠ b := UInt8.ne_of_lt h1
      simp [h1, hne]
    · by_cases h2 : b < a
      · have hne : a ≠ b := (UInt8.ne_of_lt h2).symm
        simp [h1, h2, hne]
      · have hab : a = b := UInt8.le_antisymm (UInt8.not_lt.1 h2) (UInt8.not_lt.1 h1)
        subst hab
        simp only [h1, if_false, ih.1, ih.2, decide_false, Bool.false_or, beq_self_eq_true, Bool.true_and, List.cons.injEq, true_and, and_self]
theorem bl_irrefl (x : ByteArray) : bl x x = false := bl_irrefl_l _
theorem bl_trans {x y z : ByteArray} (h1 : bl x y = true) (h2 : bl y z = true) : bl x z = true := bl_trans_l _ _ _ h1 h2
theorem cb_swap : ∀ x y : List UInt8, Lib.compareBytes x y = - Lib.compareBytes y x
  | [], [] => rfl
  | [], _ :: _ => rfl
  | _ :: _, [] => rfl
  | a :: x, b :: y => by
    have ih := cb_swap x y
    unfold Lib.compareBytes
    by_cases h1 : a < b
    · have h2 : ¬ b < a := fun h => UInt8.lt_irrefl a (UInt8.lt_trans h1 h)
      simp [h1, h2]
    · by_cases h2 : b < a
      · simp [h1, h2]
      · simp [h1, h2, ih]
theorem bl_total (x y : ByteArray) : bl x y = true ∨ x = y ∨ bl y x = true := by
  have h1 := cb_lt x.toList y.toList
  have h2 := cb_lt y.toList x.toList
  have h3 := cb_swap x.toList y.toList
  rcases Int.lt_trichotomy (Lib.compareBytes x.toList y.toList) 0 with h | h | h
  · exact .inl (h1.1.1 h)
  · exact .inr (.inl ((be_iff x y).1 (beq_iff_eq.2 (h1.2.1 h))))
  · exact .inr (.inr (h2.1.1 (by omega)))
/-! ### the order -/
def less (a b : Rm) : Bool := if a.due ≠ b.due then decide (a.due < b.due) else if be a.actor b.actor = false then bl a.actor b.actor else bl a.name b.name
/-- The same actor and name. -/
def ke (a n : ByteArray) (r : Rm) : Bool := be r.actor a && be r.name n
theorem ke_iff {a n : ByteArray} {r : Rm} : ke a n r = true ↔ r.actor = a ∧ r.name = n := by unfold ke; rw [Bool.and_eq_true, be_iff, be_iff]
theorem be_false {x y : ByteArray} : be x y = false ↔ x ≠ y := by
  rw [← Bool.not_eq_true, be_iff]
theorem less_iff {a b : Rm} : less a b = true ↔ a.due < b.due ∨ (a.due = b.due ∧ (bl a.actor b.actor = true ∨ (a.actor = b.actor ∧ bl a.name b.name = true))) := by
  unfold less
  by_cases h1 : a.due = b.due
  · rw [if_neg (by simpa using h1)]
    by_cases h2 : a.actor = b.actor
    · rw [if_neg (by rw [be_false]; simpa using h2), h2, bl_irrefl]
      simp [h1]
    · rw [if_pos (be_false.2 h2)]
      simp [h1, h2]
  · rw [if_pos h1, decide_eq_true_iff]
    simp [h1]
theorem less_irrefl (a : Rm) : less a a = false := by
  rw [← Bool.not_eq_true, less_iff, bl_irrefl, bl_irrefl]
  simp
theorem less_trans {a b c : Rm} (h1 : less a b = true) (h2 : less b c = true) : less a c = true := by
  rw [less_iff] at h1 h2 ⊢
  rcases h1 with h1 | ⟨h1, h1'⟩
  · rcases h2 with h2 | ⟨h2, _⟩
    · exact .inl (by omega)
    · exact .inl (by omega)
  · rcases h2 with h2 | ⟨h2, h2'⟩
    · exact .inl (by omega)
    · refine .inr ⟨by omega, ?_⟩
      rcases h1' with h1' | ⟨e1, h1'⟩
      · rcases h2' with h2' | ⟨e2, h2'⟩
        · exact .inl (bl_trans h1' h2')
        · exact .inl (e2 ▸ h1')
      · rcases h2' with h2' | ⟨e2, h2'⟩
        · exact .inl (e1 ▸ h2')
        · exact .inr ⟨e1.trans e2, bl_trans h1' h2'⟩
theorem less_total {a b : Rm} (h : ke b.actor b.name a = false) : less a b = true ∨ less b a = true := by
  rw [less_iff, less_iff]
  rcases Int.lt_trichotomy a.due b.due with h1 | h1 | h1
  · exact .inl (.inl h1)
  · rcases bl_total a.actor b.actor with h2 | h2 | h2
    · exact .inl (.inr ⟨h1, .inl h2⟩)
    · rcases bl_total a.name b.name with h3 | h3 | h3
      · exact .inl (.inr ⟨h1, .inr ⟨h2, h3⟩⟩)
      · rw [ke_iff.2 ⟨h2, h3⟩] at h
        cases h
      · exact .inr (.inr ⟨h1.symm, .inr ⟨h2.symm, h3⟩⟩)
    · exact .inr (.inr ⟨h1.symm, .inl h2⟩)
  · exact .inr (.inl h1)
/-- What compare answers. -/
def sgn (a b : Int) : Int := if a < b then -1 else if b < a then 1 else 0
def cmp (a b : Rm) : Int := if sgn a.due b.due ≠ 0 then sgn a.due b.due else if Lib.compareBytes a.actor.data.toList b.actor.data.toList ≠ 0 then Lib.compareBytes a.actor.data.toList b.actor.data.toList else Lib.compareBytes a.name.data.toList b.name.data.toList
theorem cmp_lt (a b : Rm) : cmp a b < 0 ↔ less a b = true := by
  have h1 := cb_lt a.actor.toList b.actor.toList
  have h2 := cb_lt a.name.toList b.name.toList
  rw [less_iff]
  unfold bl
  unfold cmp
  rw [← toList_data, ← toList_data, ← toList_data, ← toList_data]
  have hl : (a.actor.toList = b.actor.toList) ↔ a.actor = b.actor := by rw [← be_iff]; unfold be; rw [beq_iff_eq]
  rw [hl] at h1
  have hs : (sgn a.due b.due < 0 ↔ a.due < b.due) ∧ (sgn a.due b.due = 0 ↔ a.due = b.due) := by
    unfold sgn
    split
    · constructor <;> constructor <;> intro <;> omega
    · split
      · constructor <;> constructor <;> intro <;> omega
      · constructor <;> constructor <;> intro <;> omega
  by_cases h3 : a.due = b.due
  · rw [if_neg (fun h => h (hs.2.2 h3))]
    by_cases h4 : a.actor = b.actor
    · rw [if_neg (fun h => h (h1.2.2 h4)), h2.1]
      simp [h3, h4, bl_irrefl_l]
    · rw [if_pos (fun h => h4 (h1.2.1 h)), h1.1]
      simp [h3, h4]
  · rw [if_pos (fun h => h3 (hs.2.1 h)), hs.1]
    simp [h3]
theorem cmp_ge (a b : Rm) : (0 ≤ cmp a b) ↔ less a b = false := by
  have := cmp_lt a b
  rcases h : less a b with _ | _
  · rw [h] at this
    constructor
    · intro _; rfl
    · intro _
      have h2 : ¬ cmp a b < 0 := fun h3 => by have := this.1 h3; cases this
      omega
  · rw [h] at this
    have := this.2 rfl
    constructor
    · intro; omega
    · intro h; cases h
/-! ### queues -/
def has (a n : ByteArray) (l : List Rm) : Bool := l.any (ke a n)
def del (a n : ByteArray) (l : List Rm) : List Rm := l.filter fun r => !ke a n r
def ins (l : List Rm) (r : Rm) : List Rm := l.takeWhile (fun x => less x r) ++ r :: l.dropWhile (fun x => less x r)
def I64 (n : Int) : Prop := -9223372036854775808 ≤ n ∧ n ≤ 9223372036854775807
def keyB (s : ByteArray) : Bool := decide (1 ≤ s.size ∧ s.size ≤ 40)
def wrongR (r : Rm) : Int := if keyB r.actor = false ∨ 40 < r.name.size then 1 else if r.due < 0 ∨ r.per < 1 then 3 else 0
structure Okr (r : Rm) : Prop where
  w : wrongR r = 0
  d : I64 r.due
  p : I64 r.per
  k : I64 r.kind
structure Inv (l : List Rm) : Prop where
  srt : l.Pairwise fun a b => less a b = true
  unq : l.Pairwise fun a b => ke b.actor b.name a = false
  len : l.length ≤ 64
  ok : ∀ r ∈ l, Okr r
theorem Okr.r {r : Rm} (h : Okr r) : 0 ≤ r.due ∧ 1 ≤ r.per ∧ 1 ≤ r.actor.size ∧ r.actor.size ≤ 40 ∧ r.name.size ≤ 40 := by
  have h1 := h.w
  unfold wrongR at h1
  split at h1
  · cases h1
  · rename_i h2
    split at h1
    · cases h1
    · rename_i h3
      have h4 : ¬ keyB r.actor = false := fun h => h2 (.inl h)
      have h5 : keyB r.actor = true := by simpa using h4
      unfold keyB at h5
      have h6 := of_decide_eq_true h5
      omega
theorem Inv.nil : Inv [] := ⟨List.Pairwise.nil, List.Pairwise.nil, by simp, fun r hr => (by cases hr)⟩
theorem Inv.sub {l l' : List Rm} (h : Inv l) (hs : List.Sublist l' l) : Inv l' := ⟨h.srt.sublist hs, h.unq.sublist hs, Nat.le_trans hs.length_le h.len, fun r hr => h.ok r (hs.subset hr)⟩
theorem Inv.del {l : List Rm} (h : Inv l) (a n : ByteArray) : Inv (del a n l) := h.sub List.filter_sublist
theorem mem_ins {l : List Rm} {r x : Rm} : x ∈ ins l r ↔ x ∈ l ∨ x = r := by
  have e := List.takeWhile_append_dropWhile (p := fun x => less x r) (l := l)
  constructor
  · intro h
    unfold ins at h
    rcases List.mem_append.1 h with h | h
    · exact .inl (by rw [← e]; exact List.mem_append.2 (.inl h))
    · rcases List.mem_cons.1 h with h | h
      · exact .inr h
      · exact .inl (by rw [← e]; exact List.mem_append.2 (.inr h))
  · intro h
    unfold ins
    rcases h with h | h
    · rw [← e] at h
      rcases List.mem_append.1 h with h | h
      · exact List.mem_append.2 (.inl h)
      · exact List.mem_append.2 (.inr (List.mem_cons_of_mem _ h))
    · subst h
      exact List.mem_append.2 (.inr List.mem_cons_self)
theorem ins_length (l : List Rm) (r : Rm) : (ins l r).length = l.length + 1 := by
  have e := congrArg List.length (List.takeWhile_append_dropWhile (p := fun x => less x r) (l := l))
  unfold ins
  rw [List.length_append] at e ⊢
  rw [List.length_cons]
  omega
theorem drop_all {l : List Rm} {r : Rm} (hs : l.Pairwise fun a b => less a b = true) (hk : ∀ x ∈ l, ke r.actor r.name x = false) : ∀ x ∈ l.dropWhile (fun x => less x r), less r x = true := by
  induction l with
  | nil => intro x hx; cases hx
  | cons a t ih =>
    intro x hx
    rw [List.dropWhile_cons] at hx
    split at hx
    · exact ih (List.pairwise_cons.1 hs).2 (fun y hy => hk y (List.mem_cons_of_mem _ hy)) x hx
    · rename_i h
      have ha : less r a = true := (less_total (hk a List.mem_cons_self)).resolve_left h
      rcases List.mem_cons.1 hx with rfl | hx
      · exact ha
      · exact less_trans ha ((List.pairwise_cons.1 hs).1 x hx)
theorem take_all {l : List Rm} {r : Rm} : ∀ x ∈ l.takeWhile (fun x => less x r), less x r = true := by
  induction l with
  | nil => intro x hx; cases hx
  | cons a t ih =>
    intro x hx
    rw [List.takeWhile_cons] at hx
    split at hx
    · rename_i h
      rcases List.mem_cons.1 hx with rfl | hx
      · exact h
      · exact ih x hx
    · cases hx
theorem Inv.ins {l : List Rm} {r : Rm} (h : Inv l) (hk : has r.actor r.name l = false) (hr : Okr r) (hl : l.length + 1 ≤ 64) : Inv (ins l r) := by
  have hk' : ∀ x ∈ l, ke r.actor r.name x = false := fun x hx => by
    have := List.any_eq_false.1 hk x hx
    simpa using this
  have e := List.takeWhile_append_dropWhile (p := fun x => less x r) (l := l)
  have h1 := h.srt
  have h2 := h.unq
  rw [← e] at h1 h2
  rw [List.pairwise_append] at h1 h2
  have hsub1 : ∀ x ∈ l.takeWhile (fun x => less x r), x ∈ l := fun x hx => by rw [← e]; exact List.mem_append.2 (.inl hx)
  have hsub2 : ∀ x ∈ l.dropWhile (fun x => less x r), x ∈ l := fun x hx => by rw [← e]; exact List.mem_append.2 (.inr hx)
  have hkr : ∀ x, ke r.actor r.name x = false → ke x.actor x.name r = false := fun x hx => by
    cases h9 : ke x.actor x.name r
    · rfl
    · obtain ⟨e1, e2⟩ := ke_iff.1 h9
      rw [ke_iff.2 ⟨e1.symm, e2.symm⟩] at hx
      exact hx
  refine ⟨?_, ?_, by rw [ins_length]; exact hl, fun x hx => ?_⟩
  · unfold Nd.ins
    rw [List.pairwise_append, List.pairwise_cons]
    refine ⟨h1.1, ⟨drop_all h.srt hk', h1.2.1⟩, fun a ha b hb => ?_⟩
    rcases List.mem_cons.1 hb with rfl | hb
    · exact take_all a ha
    · exact h1.2.2 a ha b hb
  · unfold Nd.ins
    rw [List.pairwise_append, List.pairwise_cons]
    refine ⟨h2.1, ⟨fun b hb => hkr b (hk' b (hsub2 b hb)), h2.2.1⟩, fun a ha b hb => ?_⟩
    rcases List.mem_cons.1 hb with rfl | hb
    · exact hk' a (hsub1 a ha)
    · exact h2.2.2 a ha b hb
  · rcases mem_ins.1 hx with hx | rfl
    · exact h.ok x hx
    · exact hr
/-- Where the elements that come ahead of r end. -/
theorem take_of {l : List Rm} {r : Rm} {k : Nat} (hk : k ≤ l.length) (h1 : ∀ i (hi : i < l.length), i < k → less l[i] r = true) (h2 : ∀ i (hi : i < l.length), k ≤ i → less l[i] r = false) :
    l.takeWhile (fun x => less x r) = l.take k ∧ l.dropWhile (fun x => less x r) = l.drop k := by
  induction l generalizing k with
  | nil => simp
  | cons a t ih =>
    rw [List.takeWhile_cons, List.dropWhile_cons]
    cases k with
    | zero =>
      have h := h2 0 (by simp) (Nat.le_refl _)
      simp only [List.getElem_cons_zero] at h
      rw [if_neg (by rw [h]; simp), if_neg (by rw [h]; simp)]
      exact ⟨rfl, rfl⟩
    | succ k =>
      have h := h1 0 (by simp) (by omega)
      simp only [List.getElem_cons_zero] at h
      obtain ⟨i1, i2⟩ := ih (k := k) (by simpa using hk) (fun i hi hik => h1 (i + 1) (by simpa using hi) (by omega)) (fun i hi hik => h2 (i + 1) (by simpa using hi) (by omega))
      rw [if_pos h, if_pos h, i1, i2]
      exact ⟨rfl, rfl⟩
theorem ins_at {l : List Rm} {r : Rm} {k : Nat} (hk : k ≤ l.length) (h1 : ∀ i (hi : i < l.length), i < k → less l[i] r = true) (h2 : ∀ i (hi : i < l.length), k ≤ i → less l[i] r = false) : ins l r = l.take k ++ r :: l.drop k := by
  obtain ⟨e1, e2⟩ := take_of hk h1 h2
  unfold ins
  rw [e1, e2]
/-- In a sorted list those that come ahead of r are the first ones. -/
theorem mono {l : List Rm} (h : l.Pairwise fun a b => less a b = true) {r : Rm} {i j : Nat} (hij : i ≤ j) (hj : j < l.length) (hl : less l[j] r = true) : less (l[i]'(by omega)) r = true := by
  rcases Nat.lt_or_ge i j with h1 | h1
  · exact less_trans (List.pairwise_iff_getElem.1 h i j (by omega) hj h1) hl
  · obtain rfl : i = j := by omega
    exact hl
/-- The one that is cancelled. -/
theorem del_at {l : List Rm} {a n : ByteArray} (h : l.Pairwise fun a b => ke b.actor b.name a = false) {i : Nat} (hi : i < l.length) (hk : ke a n l[i] = true) : del a n l = l.take i ++ l.drop (i + 1) := by
  obtain ⟨e1, e2⟩ := ke_iff.1 hk
  have e : l = l.take i ++ l[i] :: l.drop (i + 1) := by rw [← List.drop_eq_getElem_cons hi, List.take_append_drop]
  have hp := h
  rw [e, List.pairwise_append, List.pairwise_cons] at hp
  have f1 : (l.take i).filter (fun r => !ke a n r) = l.take i := by
    rw [List.filter_eq_self]
    intro x hx
    have := hp.2.2 x hx l[i] List.mem_cons_self
    rw [e1, e2] at this
    rw [this]
    rfl
  have f2 : (l.drop (i + 1)).filter (fun r => !ke a n r) = l.drop (i + 1) := by
    rw [List.filter_eq_self]
    intro x hx
    have := hp.2.1.1 x hx
    cases h9 : ke a n x
    · rfl
    · obtain ⟨g1, g2⟩ := ke_iff.1 h9
      rw [ke_iff.2 ⟨e1.trans g1.symm, e2.trans g2.symm⟩] at this
      cases this
  have h3 : del a n l = (l.take i ++ l[i] :: l.drop (i + 1)).filter (fun r => !ke a n r) := by rw [← e]; rfl
  rw [h3, List.filter_append, List.filter_cons, f1, f2, hk]
  rfl
theorem del_none {l : List Rm} {a n : ByteArray} (h : has a n l = false) : del a n l = l := by
  unfold del
  rw [List.filter_eq_self]
  intro x hx
  have := List.any_eq_false.1 h x hx
  simpa using this
theorem has_del (l : List Rm) (a n : ByteArray) : has a n (del a n l) = false := by
  unfold has del
  rw [List.any_eq_false]
  intro x hx
  have := (List.mem_filter.1 hx).2
  simpa using this
theorem del_le (l : List Rm) (a n : ByteArray) : (del a n l).length ≤ l.length := List.length_filter_le _ _
theorem del_lt {l : List Rm} {a n : ByteArray} (h : has a n l = true) : (del a n l).length + 1 ≤ l.length := by
  obtain ⟨x, hx, hk⟩ := List.any_eq_true.1 h
  have := List.length_filter_lt_length_iff_exists (p := fun r => !ke a n r) (l := l)
  exact this.2 ⟨x, hx, by simp [hk]⟩
/-- What Set answers, and the queue behind it. -/
def setR (l : List Rm) (r : Rm) : Int × List Rm :=
  if wrongR r ≠ 0 then (wrongR r, l) else if has r.actor r.name l = false ∧ 64 ≤ l.length then (6, l) else (0, ins (del r.actor r.name l) r)
def dueR (l : List Rm) (now : Int) : Option Rm := match l with
  | [] => none
  | r :: _ => if now < r.due then none else some r
def nextR (l : List Rm) (r : Rm) : List Rm := if r.due + r.per ≤ 9223372036854775807 then ins (del r.actor r.name l) { r with due := r.due + r.per } else del r.actor r.name l
def serveR (l : List Rm) (now : Int) : Option Rm × List Rm := match dueR l now with
  | none => (none, l)
  | some r => (some r, nextR l r)
theorem Inv.set {l : List Rm} {r : Rm} (h : Inv l) (hr : I64 r.due ∧ I64 r.per ∧ I64 r.kind) : Inv (setR l r).2 := by
  unfold setR
  by_cases hw : wrongR r = 0
  · rw [if_neg (by simpa using hw)]
    split
    · exact h
    · rename_i hf
      refine (h.del _ _).ins (has_del l _ _) ⟨hw, hr.1, hr.2.1, hr.2.2⟩ ?_
      cases hh : has r.actor r.name l
      · have h1 := del_le l r.actor r.name
        have h2 : ¬ 64 ≤ l.length := fun h3 => hf ⟨hh, h3⟩
        omega
      · have h1 := del_lt hh
        have h2 := h.len
        omega
  · rw [if_pos hw]
    exact h
theorem due_mem {l : List Rm} {now : Int} {r : Rm} (h : dueR l now = some r) : ∃ t, l = r :: t ∧ ¬ now < r.due := by
  unfold dueR at h
  cases l with
  | nil => cases h
  | cons a t =>
    simp only at h
    split at h
    · cases h
    · rename_i hn
      injection h with h
      subst h
      exact ⟨t, rfl, hn⟩
theorem Inv.next {l : List Rm} {r : Rm} (h : Inv l) (hr : r ∈ l) : Inv (nextR l r) := by
  have ho := h.ok r hr
  have hor := ho.r
  unfold nextR
  split
  · rename_i hd
    refine (h.del _ _).ins (has_del l _ _) ⟨?_, ?_, ho.p, ho.k⟩ ?_
    · have h1 := ho.w
      unfold wrongR at h1 ⊢
      split at h1
      · cases h1
      · rename_i h2
        rw [if_neg h2, if_neg (by simp only; omega)]
    · unfold I64
      simp only
      omega
    · have h1 : has r.actor r.name l = true := List.any_eq_true.2 ⟨r, hr, ke_iff.2 ⟨rfl, rfl⟩⟩
      have h2 := del_lt h1
      have h3 := h.len
      omega
  · exact h.del _ _
theorem Inv.serve {l : List Rm} (h : Inv l) (now : Int) : Inv (serveR l now).2 := by
  unfold serveR
  cases hd : dueR l now with
  | none => exact h
  | some r =>
    obtain ⟨t, rfl, _⟩ := due_mem hd
    exact h.next List.mem_cons_self
theorem del_head {r : Rm} {t : List Rm} (h : (r :: t).Pairwise fun a b => ke b.actor b.name a = false) : del r.actor r.name (r :: t) = t := by
  have := del_at (a := r.actor) (n := r.name) h (i := 0) (by simp) (ke_iff.2 ⟨rfl, rfl⟩)
  simpa using this
end Go.Proofs.Ytlicimkpgnemeaa.Nd
