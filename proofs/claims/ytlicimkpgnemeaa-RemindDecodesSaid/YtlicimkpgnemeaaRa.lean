/-
  The reference's queue (reeveref15): the object; Key, Wrong, less, has.
-/
import Derived.Test.YtlicimkpgnemeaaNt
set_option linter.unusedVariables false
set_option linter.unusedSimpArgs false
namespace Go.Proofs.Ytlicimkpgnemeaa.Nd
open Go.RowKit Go.Proofs.Ytlicimkpgnemeaa.B Go.Proofs.Ytlicimkpgnemeaa.Op
/-- The queue at q holds l; F: its blocks. -/
def Wq (w : World) (F : Nat → Prop) (q : Nat) (l : List Rm) : Prop :=
  ∃ v, Blk w q 36 #[v] ∧ w.ownsRow 0 27 5 v l.length (l.flatMap rc) ∧ ∀ k, F k ↔ k = q ∨ v.ownBlock = some k
section
variable {w w' : World} {F G : Nat → Prop} {q : Nat} {l : List Rm}
theorem Wq.upd (h : Wq w F q l) (hu : Upd G w w') (hn : ∀ k, F k → ¬ G k) : Wq w' F q l := by
  obtain ⟨v, h1, h2, h3⟩ := h
  exact ⟨v, h1.upd hu (hn _ ((h3 q).2 (.inl rfl))), own_upd h2 hu fun k hk => hn k ((h3 k).2 (.inr hk)), h3⟩
theorem Wq.quiet (h : Wq w F q l) (hu : Upd No w w') : Wq w' F q l := h.upd hu fun _ _ => no_ _
theorem Wq.here (h : Wq w F q l) : F q := by
  obtain ⟨v, h1, h2, h3⟩ := h
  exact (h3 q).2 (.inl rfl)
theorem Wq.lt (h : Wq w F q l) : ∀ k, F k → k < w.heap.size := by
  obtain ⟨v, h1, h2, h3⟩ := h
  intro k hk
  rcases (h3 k).1 hk with rfl | hk
  · exact h1.lt
  · exact (h2.lt k hk).2
theorem Wq.cell (h : Wq w F q l) : ∃ A c, w.cell? ⟨q, 0, none⟩ = some (.slice A l.length c) ∧ Rd w 5 A l.length (l.flatMap rc) ∧ l.length ≤ c ∧ c ≤ maxLen := by
  obtain ⟨v, h1, h2, h3⟩ := h
  obtain ⟨A, c, rfl, h4, h5⟩ := own_shape h2
  have e := h1.cell 0
  simp at e
  exact ⟨A, c, e, Rd.of_own h2, h4, h5⟩
theorem Wq.new (w : World) : Wq (w.alloc (.cells #[.slice none 0 0] 36)) (fun k => k = w.heap.size) w.heap.size [] :=
  ⟨_, Blk.fresh w _ _, World.ownsRow_nil _ _ _ _, fun k => by simp [Value.ownBlock]⟩
/-- Behind the store of another row. -/
theorem Wq.stored {w1 w2 : World} {v v' : Value} {l' : List Rm} (hb : Blk w q 36 #[v]) (ho : w.ownsRow 0 27 5 v l.length (l.flatMap rc)) (h3 : ∀ k, F k ↔ k = q ∨ v.ownBlock = some k)
    (hu : Upd (fun k => v.ownBlock = some k) w w1) (ho1 : w1.ownsRow 0 27 5 v' l'.length (l'.flatMap rc)) (hat : ∀ k, v'.ownBlock = some k → v.ownBlock = some k ∨ w.heap.size ≤ k) (hw2 : w2 = w1.setCell ⟨q, 0, none⟩ v') :
    ∃ F', Wq w2 F' q l' ∧ Mv F F' w w2 := by
  subst hw2
  have hne : v.ownBlock ≠ some q := own_blk_ne ho hb (by decide)
  have hb1 : Blk w1 q 36 #[v] := hb.upd hu hne
  have hu2 : Upd (fun k => k = q) w1 (w1.setCell ⟨q, 0, none⟩ v') := (Upd.refl _ _).set1 _ _
  refine ⟨fun k => k = q ∨ v'.ownBlock = some k, ⟨v', by simpa using hb1.put 0 v', own_upd ho1 hu2 fun k hk e => ?_, fun k => Iff.rfl⟩, (hu.mono fun k _ hk => (h3 k).2 (.inr hk)).set (.inl ((h3 q).2 (.inl rfl))) _, fun k hk => ?_⟩
  · subst e
    exact own_blk_ne ho1 hb1 (by decide) hk
  · rcases hk with rfl | hk
    · exact .inl ((h3 _).2 (.inl rfl))
    · exact (hat k hk).imp (fun h => (h3 k).2 (.inr h)) id
end
theorem Wq.parts {w : World} {F : Nat → Prop} {q : Nat} {l : List Rm} (h : Wq w F q l) : ∃ A c, Blk w q 36 #[.slice A l.length c] ∧ w.ownsRow 0 27 5 (.slice A l.length c) l.length (l.flatMap rc) ∧ (∀ k, F k ↔ k = q ∨ (Value.slice A l.length c).ownBlock = some k) ∧ l.length ≤ c ∧ c ≤ maxLen := by
  obtain ⟨v, h1, h2, h3⟩ := h
  obtain ⟨A, c, rfl, h4, h5⟩ := own_shape h2
  exact ⟨A, c, h1, h2, h3, h4, h5⟩
theorem rf_info : (Try.prog.info? 27).map (fun i => (i.zero, i.size, i.bytes)) = some (some (.agg #[.string ⟨#[]⟩, .string ⟨#[]⟩, .int .i64 0, .int .i64 0, .int .i64 0]), 5, 56) := by kernel_rfl
set_option maxHeartbeats 400000 in
theorem rkey_ (s : ByteArray) (w : World) : Calls Try.prog 63 #[.string s] w fun e w' => e = .returned (.bool (keyB s)) ∧ w = w' := by
  have HK : Hid (keyB s = decide (1 ≤ s.size ∧ s.size ≤ 40)) := hid rfl
  by_cases h0 : 1 ≤ s.size
  · have h0' : (1 : Int) ≤ (s.size : Int) := by omega
    by_cases h1 : s.size ≤ 40
    · have HE : Hid (keyB s = true) := hid (by rw [HK.out, decide_eq_true (by omega)])
      have h1' : (s.size : Int) ≤ 40 := by omega
      clear HK
      go_enter Try.func63, Try.ntmps63
      go_wp2
      go_ret
      exact ⟨congrArg (fun z => Ending.returned (.bool z)) HE.out.symm, rfl⟩
    · have HE : Hid (keyB s = false) := hid (by rw [HK.out, decide_eq_false (by omega)])
      have h1' : ¬ (s.size : Int) ≤ 40 := by omega
      clear HK
      go_enter Try.func63, Try.ntmps63
      go_wp2
      go_ret
      exact ⟨congrArg (fun z => Ending.returned (.bool z)) HE.out.symm, rfl⟩
  · have HE : Hid (keyB s = false) := hid (by rw [HK.out, decide_eq_false (by omega)])
    have h0' : ¬ (1 : Int) ≤ (s.size : Int) := by omega
    clear HK
    go_enter Try.func63, Try.ntmps63
    go_wp2
    go_ret
    exact ⟨congrArg (fun z => Ending.returned (.bool z)) HE.out.symm, rfl⟩
set_option maxHeartbeats 1000000 in
theorem rwrong_ (r : Rm) (w : World) : Calls Try.prog 29 #[rv r] w fun e w' => e = .returned (.int .i64 (wrongR r)) ∧ Upd No w w' := by
  have HW : Hid (wrongR r = if keyB r.actor = false ∨ 40 < r.name.size then 1 else if r.due < 0 ∨ r.per < 1 then 3 else 0) := hid rfl
  have HK := hid fun W => rkey_ r.actor W
  obtain ⟨ac, an, ad, ap, ak⟩ := r
  unfold rv
  simp only at HW HK ⊢
  have HU : Hid (Upd No w (w.alloc (.cells #[.string ac, .string an, .int .i64 ad, .int .i64 ap, .int .i64 ak] 27))) := hid ((Upd.refl _ _).alloc _)
  rcases hk : keyB ac with _ | _
  · have HE : Hid (wrongR ⟨ac, an, ad, ap, ak⟩ = 1) := hid (by rw [HW.out, if_pos (.inl hk)])
    rw [hk] at HK
    clear HW hk
    go_enter Try.func29, Try.ntmps29
    go_wp2_with (fail)
    refine (HK.out _).mono ?_
    rintro e w1 ⟨rfl, rfl⟩
    go_wp2
    go_ret
    exact ⟨congrArg (fun z => Ending.returned (.int .i64 z)) HE.out.symm, HU.out⟩
  · by_cases hn : 40 < an.size
    · have HE : Hid (wrongR ⟨ac, an, ad, ap, ak⟩ = 1) := hid (by rw [HW.out, if_pos (.inr hn)])
      have hn' : (40 : Int) < (an.size : Int) := by omega
      rw [hk] at HK
      clear HW hk
      go_enter Try.func29, Try.ntmps29
      go_wp2_with (fail)
      refine (HK.out _).mono ?_
      rintro e w1 ⟨rfl, rfl⟩
      go_wp2
      go_ret
      exact ⟨congrArg (fun z => Ending.returned (.int .i64 z)) HE.out.symm, HU.out⟩
    · have hn' : ¬ (40 : Int) < (an.size : Int) := by omega
      have hno : ¬ (keyB ac = false ∨ 40 < an.size) := by rw [hk]; simp; omega
      rw [if_neg hno] at HW
      rw [hk] at HK
      clear hk hno
      by_cases hd : ad < 0
      · have HE : Hid (wrongR ⟨ac, an, ad, ap, ak⟩ = 3) := hid (by rw [HW.out, if_pos (.inl hd)])
        clear HW
        go_enter Try.func29, Try.ntmps29
        go_wp2_with (fail)
        refine (HK.out _).mono ?_
        rintro e w1 ⟨rfl, rfl⟩
        go_wp2
        go_ret
        exact ⟨congrArg (fun z => Ending.returned (.int .i64 z)) HE.out.symm, HU.out⟩
      · by_cases hp : ap < 1
        · have HE : Hid (wrongR ⟨ac, an, ad, ap, ak⟩ = 3) := hid (by rw [HW.out, if_pos (.inr hp)])
          clear HW
          go_enter Try.func29, Try.ntmps29
          go_wp2_with (fail)
          refine (HK.out _).mono ?_
          rintro e w1 ⟨rfl, rfl⟩
          go_wp2
          go_ret
          exact ⟨congrArg (fun z => Ending.returned (.int .i64 z)) HE.out.symm, HU.out⟩
        · have HE : Hid (wrongR ⟨ac, an, ad, ap, ak⟩ = 0) := hid (by rw [HW.out, if_neg (by omega)])
          clear HW
          go_enter Try.func29, Try.ntmps29
          go_wp2_with (fail)
          refine (HK.out _).mono ?_
          rintro e w1 ⟨rfl, rfl⟩
          go_wp2
          go_ret
          exact ⟨congrArg (fun z => Ending.returned (.int .i64 z)) HE.out.symm, HU.out⟩
set_option maxHeartbeats 1000000 in
theorem rless_ (a b : Rm) (w : World) : Calls Try.prog 54 #[rv a, rv b] w fun e w' => e = .returned (.bool (less a b)) ∧ Upd No w w' := by
  have HL : Hid (less a b = if a.due ≠ b.due then decide (a.due < b.due) else if be a.actor b.actor = false then bl a.actor b.actor else bl a.name b.name) := hid rfl
  obtain ⟨ac, an, ad, ap, ak⟩ := a
  obtain ⟨bc, bn, bd, bp, bk⟩ := b
  unfold rv
  simp only at HL ⊢
  have HU : Hid (Upd No w ((w.alloc (.cells #[.string ac, .string an, .int .i64 ad, .int .i64 ap, .int .i64 ak] 27)).alloc (.cells #[.string bc, .string bn, .int .i64 bd, .int .i64 bp, .int .i64 bk] 27))) := hid (((Upd.refl _ _).alloc _).alloc _)
  generalize less ⟨ac, an, ad, ap, ak⟩ ⟨bc, bn, bd, bp, bk⟩ = z at *
  by_cases h1 : ad = bd
  · rw [if_neg (by simpa using h1)] at HL
    have h1' : (ad != bd) = false := by simp [h1]
    clear h1
    rcases h2 : be ac bc with _ | _
    · rw [if_pos h2] at HL
      have h2' : (ac.toList != bc.toList) = true := by unfold be at h2; simp [bne, h2]
      have h2'' : (ac.toList == bc.toList) = false := h2
      unfold bl at HL
      clear h2
      go_enter Try.func54, Try.ntmps54
      go_wp2
      go_ret
      exact ⟨congrArg (fun z => Ending.returned (.bool z)) HL.out.symm, HU.out⟩
    · rw [if_neg (by rw [h2]; simp)] at HL
      have h2' : (ac.toList != bc.toList) = false := by unfold be at h2; simp [bne, h2]
      have h2'' : (ac.toList == bc.toList) = true := h2
      unfold bl at HL
      clear h2
      go_enter Try.func54, Try.ntmps54
      go_wp2
      go_ret
      exact ⟨congrArg (fun z => Ending.returned (.bool z)) HL.out.symm, HU.out⟩
  · rw [if_pos h1] at HL
    have h1' : (ad != bd) = true := by simp [h1]
    clear h1
    go_enter Try.func54, Try.ntmps54
    go_wp2
    go_ret
    exact ⟨congrArg (fun z => Ending.returned (.bool z)) HL.out.symm, HU.out⟩
set_option maxHeartbeats 1000000 in
theorem rhas_ (q : Nat) (F : Nat → Prop) (l : List Rm) (a n : ByteArray) (w : World) (h : Wq w F q l) (hl : l.length ≤ 1000) :
    Calls Try.prog 30 #[.pointer (some ⟨q, 0, none⟩), .string a, .string n] w fun e w' => e = .returned (.bool (has a n l)) ∧ Upd No w w' := by
  have HH : Hid ((∀ i (hi : i < l.length), ke a n l[i] = false) → has a n l = false) := hid fun h => by
    unfold has
    rw [List.any_eq_false]
    intro x hx
    obtain ⟨i, hi, rfl⟩ := List.mem_iff_getElem.1 hx
    simpa using h i hi
  have HT : Hid (∀ i (hi : i < l.length), ke a n l[i] = true → has a n l = true) := hid fun i hi h => List.any_eq_true.2 ⟨_, List.getElem_mem hi, h⟩
  have HQ := hid h
  obtain ⟨A, c, hc, _, _, _⟩ := h.cell
  generalize has a n l = z at *
  clear h
  go_enter Try.func30, Try.ntmps30
  go_wp2_with (fail)
  go_loopw [13] (fun v13 W => ∃ j : Nat, j ≤ l.length ∧ v13 = .int .i64 j ∧ Hid (∀ i (hi : i < l.length), i < j → ke a n l[i] = false) ∧ Hid (Upd No w W)) (fun v13 _ => l.length - (intOf v13).toNat)
  case atStart => exact ⟨0, by omega, rfl, hid (fun i hi h0 => by omega), hid (Upd.refl _ _)⟩
  case round =>
    obtain ⟨j, hj, rfl, HJ, HU⟩ := hrel
    by_cases hlt : j < l.length
    · have hj2 : (j : Int) < (l.length : Int) := by omega
      have hj1 : (0 : Int) ≤ (j : Int) := by omega
      obtain ⟨A2, c2, hc2, hrd, _, _⟩ := (HQ.out.quiet HU.out).cell
      obtain ⟨ad, rfl, hat⟩ := rm_at hrd hlt
      have HKe : Hid (ke a n l[j] = (be l[j].actor a && be l[j].name n)) := hid rfl
      have HT2 := hid (HT.out j hlt)
      have HN : Hid (ke a n l[j] = false → ∀ i (hi : i < l.length), i < j + 1 → ke a n l[i] = false) := hid fun h i hi h1 => by
        rcases Nat.lt_or_ge i j with h2 | h2
        · exact HJ.out i hi h2
        · obtain rfl : i = j := by omega
          exact h
      generalize l[j] = x at *
      obtain ⟨x0, x1, x2, x3, x4⟩ := hat
      clear hrd hc
      rcases hb : be x.actor a with _ | _
      · rw [hb, Bool.false_and] at HKe
        have hb' : (x.actor.toList == a.toList) = false := hb
        clear hb
        go_wp2
        go_roundw
        case rel => exact ⟨j + 1, by omega, by go_num, hid (HN.out HKe.out), HU⟩
        case measure => simp [intOf]; omega
      · have hb' : (x.actor.toList == a.toList) = true := hb
        rw [hb, Bool.true_and] at HKe
        rcases hb2 : be x.name n with _ | _
        · have hb2' : (x.name.toList == n.toList) = false := hb2
          rw [hb2] at HKe
          clear hb hb2
          go_wp2
          go_roundw
          case rel => exact ⟨j + 1, by omega, by go_num, hid (HN.out HKe.out), HU⟩
          case measure => simp [intOf]; omega
        · have hb2' : (x.name.toList == n.toList) = true := hb2
          rw [hb2] at HKe
          clear hb hb2
          go_wp2
          go_ret
          exact ⟨congrArg (fun z => Ending.returned (.bool z)) (HT2.out HKe.out).symm, HU.out⟩
    · obtain rfl : j = l.length := by omega
      go_wp2
      go_ret
      exact ⟨congrArg (fun z => Ending.returned (.bool z)) (HH.out fun i hi => HJ.out i hi hi).symm, HU.out⟩
end Go.Proofs.Ytlicimkpgnemeaa.Nd
