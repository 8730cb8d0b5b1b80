/-
  The object of package remind; New, find, lay, wrong.
-/
import Derived.Test.YtlicimkpgnemeaaNk
import Derived.Test.YtlicimkpgnemeaaNi
set_option linter.unusedVariables false
set_option linter.unusedSimpArgs false
namespace Go.Proofs.Ytlicimkpgnemeaa.Nd
open Go.RowKit Go.Proofs.Ytlicimkpgnemeaa.B Go.Proofs.Ytlicimkpgnemeaa.Op
theorem rc_len (r : Rm) : (rc r).length = 5 := rfl
theorem flat_take (l : List Rm) (k : Nat) : (l.take k).flatMap rc = (l.flatMap rc).take (k * 5) := by
  induction l generalizing k with
  | nil => simp
  | cons a t ih =>
    cases k with
    | zero => simp
    | succ k =>
      rw [List.take_succ_cons, List.flatMap_cons, List.flatMap_cons, ih, List.take_append, List.take_of_length_le (l := rc a) (by rw [rc_len]; omega), rc_len, show (k + 1) * 5 - 5 = k * 5 from by omega]
theorem flat_drop (l : List Rm) (k : Nat) : (l.drop k).flatMap rc = (l.flatMap rc).drop (k * 5) := by
  induction l generalizing k with
  | nil => simp
  | cons a t ih =>
    cases k with
    | zero => simp
    | succ k =>
      rw [List.drop_succ_cons, List.flatMap_cons, ih, List.drop_append, List.drop_of_length_le (l := rc a) (by rw [rc_len]; omega), List.nil_append, rc_len, show (k + 1) * 5 - 5 = k * 5 from by omega]
theorem flat_one (l : List Rm) : ∀ u ∈ l.flatMap rc, u.oneCell' = true := by
  intro u hu
  obtain ⟨r, _, hu⟩ := List.mem_flatMap.1 hu
  simp only [rc, List.mem_cons, List.not_mem_nil, or_false] at hu
  rcases hu with rfl | rfl | rfl | rfl | rfl <;> rfl
theorem rc_one (r : Rm) : ∀ u ∈ (rc r).toArray.toList, u.oneCell' = true := by
  intro u hu
  simp only [rc, List.mem_cons, List.not_mem_nil, or_false] at hu
  rcases hu with rfl | rfl | rfl | rfl | rfl <;> rfl
/-- The queue at q holds l; F: its blocks. -/
def Qo (w : World) (F : Nat → Prop) (q : Nat) (l : List Rm) : Prop :=
  ∃ v, Blk w q 47 #[v] ∧ w.ownsRow 0 30 5 v l.length (l.flatMap rc) ∧ ∀ k, F k ↔ k = q ∨ v.ownBlock = some k
section
variable {w w' : World} {F G : Nat → Prop} {q : Nat} {l : List Rm}
theorem Qo.upd (h : Qo w F q l) (hu : Upd G w w') (hn : ∀ k, F k → ¬ G k) : Qo w' F q l := by
  obtain ⟨v, h1, h2, h3⟩ := h
  exact ⟨v, h1.upd hu (hn _ ((h3 q).2 (.inl rfl))), own_upd h2 hu fun k hk => hn k ((h3 k).2 (.inr hk)), h3⟩
theorem Qo.quiet (h : Qo w F q l) (hu : Upd No w w') : Qo w' F q l := h.upd hu fun _ _ => no_ _
theorem Qo.here (h : Qo w F q l) : F q := by
  obtain ⟨v, h1, h2, h3⟩ := h
  exact (h3 q).2 (.inl rfl)
theorem Qo.lt (h : Qo w F q l) : ∀ k, F k → k < w.heap.size := by
  obtain ⟨v, h1, h2, h3⟩ := h
  intro k hk
  rcases (h3 k).1 hk with rfl | hk
  · exact h1.lt
  · exact (h2.lt k hk).2
theorem Qo.cell (h : Qo w F q l) : ∃ A c, w.cell? ⟨q, 0, none⟩ = some (.slice A l.length c) ∧ Rd w 5 A l.length (l.flatMap rc) ∧ l.length ≤ c ∧ c ≤ maxLen := by
  obtain ⟨v, h1, h2, h3⟩ := h
  obtain ⟨A, c, rfl, h4, h5⟩ := own_shape h2
  have e := h1.cell 0
  simp at e
  exact ⟨A, c, e, Rd.of_own h2, h4, h5⟩
theorem Qo.new (w : World) : Qo (w.alloc (.cells #[.slice none 0 0] 47)) (fun k => k = w.heap.size) w.heap.size [] :=
  ⟨_, Blk.fresh w _ _, World.ownsRow_nil _ _ _ _, fun k => by simp [Value.ownBlock]⟩
/-- Behind the store of another row. -/
theorem Qo.stored {w1 w2 : World} {v v' : Value} {l' : List Rm} (hb : Blk w q 47 #[v]) (ho : w.ownsRow 0 30 5 v l.length (l.flatMap rc)) (h3 : ∀ k, F k ↔ k = q ∨ v.ownBlock = some k)
    (hu : Upd (fun k => v.ownBlock = some k) w w1) (ho1 : w1.ownsRow 0 30 5 v' l'.length (l'.flatMap rc)) (hat : ∀ k, v'.ownBlock = some k → v.ownBlock = some k ∨ w.heap.size ≤ k) (hw2 : w2 = w1.setCell ⟨q, 0, none⟩ v') :
    ∃ F', Qo w2 F' q l' ∧ Mv F F' w w2 := by
  subst hw2
  have hne : v.ownBlock ≠ some q := own_blk_ne ho hb (by decide)
  have hb1 : Blk w1 q 47 #[v] := hb.upd hu hne
  have hu2 : Upd (fun k => k = q) w1 (w1.setCell ⟨q, 0, none⟩ v') := (Upd.refl _ _).set1 _ _
  refine ⟨fun k => k = q ∨ v'.ownBlock = some k, ⟨v', by simpa using hb1.put 0 v', own_upd ho1 hu2 fun k hk e => ?_, fun k => Iff.rfl⟩, (hu.mono fun k _ hk => (h3 k).2 (.inr hk)).set (.inl ((h3 q).2 (.inl rfl))) _, fun k hk => ?_⟩
  · subst e
    exact own_blk_ne ho1 hb1 (by decide) hk
  · rcases hk with rfl | hk
    · exact .inl ((h3 _).2 (.inl rfl))
    · exact (hat k hk).imp (fun h => (h3 k).2 (.inr h)) id
end
set_option maxHeartbeats 400000 in
theorem new_ (w : World) : Calls Try.prog 11 #[] w fun e w' => e = .returned (.pointer (some ⟨w.heap.size, 0, none⟩)) ∧ w.alloc (.cells #[.slice none 0 0] 47) = w' := by
  go_enter Try.func11, Try.ntmps11
  go_wp2
  go_ret
  exact ⟨rfl, rfl⟩
theorem size_zero {s : ByteArray} (h : s.size = 0) : s = ⟨#[]⟩ := by
  obtain ⟨⟨l⟩⟩ := s
  have : l.length = 0 := h
  rw [List.eq_nil_of_length_eq_zero this]
theorem toList_length (s : ByteArray) : s.toList.length = s.size := by
  rw [toList_data, Array.length_toList]
  rfl
set_option maxHeartbeats 400000 in
theorem key_ (s : ByteArray) (w : World) : Calls Try.prog 58 #[.string s] w fun e w' => e = .returned (.bool (keyB s)) ∧ w = w' := by
  have HK : Hid (keyB s = decide (1 ≤ s.size ∧ s.size ≤ 40)) := hid rfl
  by_cases h0 : s.size = 0
  · have HE : Hid (keyB s = false) := hid (by rw [HK.out, decide_eq_false (by omega)])
    obtain rfl := size_zero h0
    go_enter Try.func58, Try.ntmps58
    go_wp2
    go_ret
    exact ⟨congrArg (fun z => Ending.returned (.bool z)) HE.out.symm, rfl⟩
  · have he : ¬ s.toList = [] := by
      intro h
      have := congrArg List.length h
      rw [toList_length] at this
      exact h0 this
    have he2 : s.toList.isEmpty = false := by simpa using he
    by_cases h1 : s.size ≤ 40
    · have HE : Hid (keyB s = true) := hid (by rw [HK.out, decide_eq_true (by omega)])
      have h1' : (s.size : Int) ≤ 40 := by omega
      go_enter Try.func58, Try.ntmps58
      go_wp2
      go_ret
      exact ⟨congrArg (fun z => Ending.returned (.bool z)) HE.out.symm, rfl⟩
    · have HE : Hid (keyB s = false) := hid (by rw [HK.out, decide_eq_false (by omega)])
      have h1' : ¬ (s.size : Int) ≤ 40 := by omega
      go_enter Try.func58, Try.ntmps58
      go_wp2
      go_ret
      exact ⟨congrArg (fun z => Ending.returned (.bool z)) HE.out.symm, rfl⟩
set_option maxHeartbeats 1000000 in
theorem wrong_ (r : Rm) (w : World) : Calls Try.prog 25 #[rv r] w fun e w' => e = .returned (.int .i64 (wrongR r)) ∧ Upd No w w' := by
  have HW : Hid (wrongR r = if keyB r.actor = false ∨ 40 < r.name.size then 1 else if r.due < 0 ∨ r.per < 1 then 3 else 0) := hid rfl
  have HK := hid fun W => key_ r.actor W
  obtain ⟨ac, an, ad, ap, ak⟩ := r
  unfold rv
  simp only at HW HK ⊢
  have HU : Hid (Upd No w (w.alloc (.cells #[.string ac, .string an, .int .i64 ad, .int .i64 ap, .int .i64 ak] 30))) := hid ((Upd.refl _ _).alloc _)
  rcases hk : keyB ac with _ | _
  · have HE : Hid (wrongR ⟨ac, an, ad, ap, ak⟩ = 1) := hid (by rw [HW.out, if_pos (.inl hk)])
    rw [hk] at HK
    clear HW hk
    go_enter Try.func25, Try.ntmps25
    go_wp2_with (fail)
    refine (HK.out _).mono ?_
    rintro e w1 ⟨rfl, rfl⟩
    go_wp2
    go_ret
    exact ⟨congrArg (fun z => Ending.returned (.int .i64 z)) HE.out.symm, HU.out⟩
  · by_cases hn : 40 < an.size
    · have HE : Hid (wrongR ⟨ac, an, ad, ap, ak⟩ = 1) := hid (by rw [HW.out, if_pos (.inr hn)])
      have hn' : (40 : Int) < (an.size : Int) := by omega
      rw [hk] at HK
      clear HW hk
      go_enter Try.func25, Try.ntmps25
      go_wp2_with (fail)
      refine (HK.out _).mono ?_
      rintro e w1 ⟨rfl, rfl⟩
      go_wp2
      go_ret
      exact ⟨congrArg (fun z => Ending.returned (.int .i64 z)) HE.out.symm, HU.out⟩
    · have hn' : ¬ (40 : Int) < (an.size : Int) := by omega
      have hno : ¬ (keyB ac = false ∨ 40 < an.size) := by rw [hk]; simp; omega
      rw [if_neg hno] at HW
      rw [hk] at HK
      clear hk hno
      by_cases hd : ad < 0
      · have HE : Hid (wrongR ⟨ac, an, ad, ap, ak⟩ = 3) := hid (by rw [HW.out, if_pos (.inl hd)])
        clear HW
        go_enter Try.func25, Try.ntmps25
        go_wp2_with (fail)
        refine (HK.out _).mono ?_
        rintro e w1 ⟨rfl, rfl⟩
        go_wp2
        go_ret
        exact ⟨congrArg (fun z => Ending.returned (.int .i64 z)) HE.out.symm, HU.out⟩
      · by_cases hp : ap < 1
        · have HE : Hid (wrongR ⟨ac, an, ad, ap, ak⟩ = 3) := hid (by rw [HW.out, if_pos (.inr hp)])
          clear HW
          go_enter Try.func25, Try.ntmps25
          go_wp2_with (fail)
          refine (HK.out _).mono ?_
          rintro e w1 ⟨rfl, rfl⟩
          go_wp2
          go_ret
          exact ⟨congrArg (fun z => Ending.returned (.int .i64 z)) HE.out.symm, HU.out⟩
        · have HE : Hid (wrongR ⟨ac, an, ad, ap, ak⟩ = 0) := hid (by rw [HW.out, if_neg (by omega)])
          clear HW
          go_enter Try.func25, Try.ntmps25
          go_wp2_with (fail)
          refine (HK.out _).mono ?_
          rintro e w1 ⟨rfl, rfl⟩
          go_wp2
          go_ret
          exact ⟨congrArg (fun z => Ending.returned (.int .i64 z)) HE.out.symm, HU.out⟩
set_option maxHeartbeats 1000000 in
theorem find_ (q : Nat) (F : Nat → Prop) (l : List Rm) (a n : ByteArray) (w : World) (h : Qo w F q l) (hl : l.length ≤ 1000) :
    Calls Try.prog 26 #[.pointer (some ⟨q, 0, none⟩), .string a, .string n] w fun e w' => IxOut a n l w e w' := by
  have hu : Upd No w ((w.alloc (.cells #[.string a] 9)).alloc (.cells #[.string n] 9)) := ((Upd.refl _ _).alloc _).alloc _
  obtain ⟨A, c, hc, hrd, hlc, hcm⟩ := (h.quiet hu).cell
  have b1 : Blk ((w.alloc (.cells #[.string a] 9)).alloc (.cells #[.string n] 9)) w.heap.size 9 #[.string a] := (Blk.fresh _ _ _).alloc _
  have b2 : Blk ((w.alloc (.cells #[.string a] 9)).alloc (.cells #[.string n] 9)) (w.heap.size + 1) 9 #[.string n] := by
    have := Blk.fresh (w.alloc (.cells #[.string a] 9)) 9 #[.string n]
    simpa using this
  have HI := hid (index_func _ _ c A a n l _ b1 b2 hrd (by omega))
  unfold IxOut at HI
  have HU := hid hu
  clear h hu hrd b1 b2
  go_enter Try.func26, Try.ntmps26
  go_wp2_with (fail)
  refine HI.out.mono ?_
  rintro e w1 ⟨r, rfl, hx, hu1⟩
  have HX := hid hx
  have HU1 := hid (HU.out.next hu1)
  clear hx hu1
  go_wp2
  go_ret
  exact .of ⟨r, rfl, HX.out, HU1.out⟩
theorem Qo.parts {w : World} {F : Nat → Prop} {q : Nat} {l : List Rm} (h : Qo w F q l) : ∃ A c, Blk w q 47 #[.slice A l.length c] ∧ w.ownsRow 0 30 5 (.slice A l.length c) l.length (l.flatMap rc) ∧ (∀ k, F k ↔ k = q ∨ (Value.slice A l.length c).ownBlock = some k) ∧ l.length ≤ c ∧ c ≤ maxLen := by
  obtain ⟨v, h1, h2, h3⟩ := h
  obtain ⟨A, c, rfl, h4, h5⟩ := own_shape h2
  exact ⟨A, c, h1, h2, h3, h4, h5⟩
set_option maxHeartbeats 2000000 in
set_option maxRecDepth 100000 in
theorem lay_ (q : Nat) (F : Nat → Prop) (l : List Rm) (r : Rm) (w : World) (h : Qo w F q l) (hs : l.Pairwise fun a b => less a b = true) (hl : l.length + 1 ≤ 1000) :
    Calls Try.prog 28 #[.pointer (some ⟨q, 0, none⟩), rv r] w fun e w' => e = .returned (.tuple #[]) ∧ ∃ F', Qo w' F' q (ins l r) ∧ Mv F F' w w' := by
  obtain ⟨A, c, hb, ho, hF, hlc, hcm⟩ := h.parts
  simp only [maxLen] at hcm
  have hsr := fun W (hu : Upd No w W) => search c A r l W (Rd.upd (Rd.of_own ho) (by omega) hu fun _ _ => no_ _) (by omega) hs
  have HB := hid hb
  have HO := hid ho
  have HF := hid hF
  have HSr := hid hsr
  have HIl := hid (ins_length l r)
  have HW : Hid (∃ w1 p, w1 = w.alloc (.cells (rc r).toArray 30) ∧ p = w.heap.size ∧ Blk w1 p 30 (rc r).toArray ∧ Upd No w w1) := hid ⟨_, _, rfl, rfl, Blk.fresh _ _ _, (Upd.refl _ _).alloc _⟩
  clear h hb ho hF hsr
  obtain ⟨r0, hr0⟩ : ∃ r0, r0 = r := ⟨_, rfl⟩
  have HR := hid hr0
  rw [← hr0] at HSr HIl HW ⊢
  clear hr0
  obtain ⟨ac, an, ad, ap, ak⟩ := r
  unfold rv at HSr ⊢
  have hra : Hid (r0.actor = ac ∧ r0.name = an ∧ r0.due = ad ∧ r0.per = ap ∧ r0.kind = ak) := hid (by rw [HR.out]; exact ⟨rfl, rfl, rfl, rfl, rfl⟩)
  rw [hra.out.1, hra.out.2.1, hra.out.2.2.1, hra.out.2.2.2.1, hra.out.2.2.2.2] at HSr ⊢
  have hrc : Hid ((rc r0).toArray = #[.string ac, .string an, .int .i64 ad, .int .i64 ap, .int .i64 ak]) := hid (by rw [HR.out]; rfl)
  rw [hrc.out] at HW
  go_enter Try.func28, Try.ntmps28
  go_wp2_with (fail)
  obtain ⟨w1, p, hw1, hp, hb1, hu1⟩ := HW.out
  rw [← hw1, ← hp]
  have HL1 : Hid (∀ W, Upd No w1 W → (W.cell? ⟨q, 0, none⟩ = some (.slice A l.length c)) ∧ (W.cell? ⟨p, 0, none⟩ = some (.string ac) ∧ W.cell? ⟨p, 1, none⟩ = some (.string an) ∧ W.cell? ⟨p, 2, none⟩ = some (.int .i64 ad) ∧ W.cell? ⟨p, 3, none⟩ = some (.int .i64 ap) ∧ W.cell? ⟨p, 4, none⟩ = some (.int .i64 ak))) := hid fun W hu => by
    have e0 := (HB.out.upd (hu1.next hu) (no_ _)).cell 0
    have b := hb1.upd hu (no_ _)
    have a0 := b.cell 0
    have a1 := b.cell 1
    have a2 := b.cell 2
    have a3 := b.cell 3
    have a4 := b.cell 4
    simp at e0 a0 a1 a2 a3 a4
    exact ⟨e0, a0, a1, a2, a3, a4⟩
  have HU1 := hid hu1
  clear hw1 hp hb1 hu1 HW
  unfold BsOut at HSr
  refine wp_region_held_drew (S := fun W => Upd No w1 W) (by kernel_rfl) (Upd.refl _ _).drew (fun hS => ?_)
  refine rg_at 0 (by decide) (fun oi hoi => ?_)
  have ho2 := hoi; simp only [List.getElem?_toArray, List.getElem?_cons_succ, List.getElem?_cons_zero, Option.some.injEq] at ho2; subst ho2
  refine rg_take (v := ?_) 0 hoi (by kernel_rfl) (by kernel_rfl) (by kernel_rfl) (fun _ _ _ h => h) (by rfl) ?_ hS ?_
  rotate_left
  · intro w _; go_simp; try with_reducible rfl
  clear hoi; try simp only [Act.put, List.setIfInBounds_toArray, List.set_cons_zero, List.set_cons_succ]
  refine rg_at 1 (by decide) (fun oi hoi => ?_)
  have ho2 := hoi; simp only [List.getElem?_toArray, List.getElem?_cons_succ, List.getElem?_cons_zero, Option.some.injEq] at ho2; subst ho2
  refine rg_take (v := ?_) 1 hoi (by kernel_rfl) (by kernel_rfl) (by kernel_rfl) (fun _ _ _ h => h) (by rfl) ?_ hS ?_
  rotate_left
  · intro w _; go_simp; try with_reducible rfl
  clear hoi; try simp only [Act.put, List.setIfInBounds_toArray, List.set_cons_zero, List.set_cons_succ]
  refine rg_at 2 (by decide) (fun oi hoi => ?_)
  have ho2 := hoi; simp only [List.getElem?_toArray, List.getElem?_cons_succ, List.getElem?_cons_zero, Option.some.injEq] at ho2; subst ho2
  refine rg_take (v := ?_) 2 hoi (by kernel_rfl) (by kernel_rfl) (by kernel_rfl) (fun _ _ _ h => h) (by rfl) ?_ hS ?_
  rotate_left
  · intro w _; go_simp; try with_reducible rfl
  clear hoi; try simp only [Act.put, List.setIfInBounds_toArray, List.set_cons_zero, List.set_cons_succ]
  refine rg_at 3 (by decide) (fun oi hoi => ?_)
  have ho2 := hoi; simp only [List.getElem?_toArray, List.getElem?_cons_succ, List.getElem?_cons_zero, Option.some.injEq] at ho2; subst ho2
  refine rg_take (v := ?_) 3 hoi (by kernel_rfl) (by kernel_rfl) (by kernel_rfl) (fun _ _ _ h => h) (by rfl) ?_ hS ?_
  rotate_left
  · intro w hw; have hf := (HL1.out w hw).1; clear hw; go_simp; try with_reducible rfl
  clear hoi; try simp only [Act.put, List.setIfInBounds_toArray, List.set_cons_zero, List.set_cons_succ]
  refine rg_at 4 (by decide) (fun oi hoi => ?_)
  have ho2 := hoi; simp only [List.getElem?_toArray, List.getElem?_cons_succ, List.getElem?_cons_zero, Option.some.injEq] at ho2; subst ho2
  refine rg_take (v := ?_) 4 hoi (by kernel_rfl) (by kernel_rfl) (by kernel_rfl) (fun _ _ _ h => h) (by rfl) ?_ hS ?_
  rotate_left
  · intro w hw; have hf := (HL1.out w hw).2; clear hw; go_simp; try with_reducible rfl
  clear hoi; try simp only [Act.put, List.setIfInBounds_toArray, List.set_cons_zero, List.set_cons_succ]
  refine rg_at 5 (by decide) (fun oi hoi => ?_)
  have ho2 := hoi; simp only [List.getElem?_toArray, List.getElem?_cons_succ, List.getElem?_cons_zero, Option.some.injEq] at ho2; subst ho2
  refine rg_call 5 (by kernel_rfl) hoi (by rfl) (fun K hK => ?_)
  clear hoi
  go_simp
  refine Calls.mono (HSr.out _ (HU1.out.next hS)) ?_
  rintro e w2 ⟨k, b, rfl, hk, hi, hu2⟩
  go_wp2_with (fail)
  refine hK.out _ _ ((hS.next hu2)) (fun hS => ?_)
  clear hK K
  try simp only [Act.put, List.setIfInBounds_toArray, List.set_cons_zero, List.set_cons_succ]
  refine rg_at 6 (by decide) (fun oi hoi => ?_)
  have ho2 := hoi; simp only [List.getElem?_toArray, List.getElem?_cons_succ, List.getElem?_cons_zero, Option.some.injEq] at ho2; subst ho2
  refine rg_take (v := ?_) 6 hoi (by kernel_rfl) (by kernel_rfl) (by kernel_rfl) (fun _ _ _ h => h) (by rfl) ?_ hS ?_
  rotate_left
  · intro w _; go_simp; try with_reducible rfl
  clear hoi; try simp only [Act.put, List.setIfInBounds_toArray, List.set_cons_zero, List.set_cons_succ]
  refine rg_at 7 (by decide) (fun oi hoi => ?_)
  have ho2 := hoi; simp only [List.getElem?_toArray, List.getElem?_cons_succ, List.getElem?_cons_zero, Option.some.injEq] at ho2; subst ho2
  refine rg_take (v := ?_) 7 hoi (by kernel_rfl) (by kernel_rfl) (by kernel_rfl) (fun _ _ _ h => h) (by rfl) ?_ hS ?_
  rotate_left
  · intro w _; go_simp; try with_reducible rfl
  clear hoi; try simp only [Act.put, List.setIfInBounds_toArray, List.set_cons_zero, List.set_cons_succ]
  refine rg_at 8 (by decide) (fun oi hoi => ?_)
  have ho2 := hoi; simp only [List.getElem?_toArray, List.getElem?_cons_succ, List.getElem?_cons_zero, Option.some.injEq] at ho2; subst ho2
  refine rg_take (v := ?_) 8 hoi (by kernel_rfl) (by kernel_rfl) (by kernel_rfl) (fun _ _ _ h => h) (by rfl) ?_ hS ?_
  rotate_left
  · intro w _; go_simp; try with_reducible rfl
  clear hoi; try simp only [Act.put, List.setIfInBounds_toArray, List.set_cons_zero, List.set_cons_succ]
  refine rg_at 9 (by decide) (fun oi hoi => ?_)
  have ho2 := hoi; simp only [List.getElem?_toArray, List.getElem?_cons_succ, List.getElem?_cons_zero, Option.some.injEq] at ho2; subst ho2
  refine rg_take (v := ?_) 9 hoi (by kernel_rfl) (by kernel_rfl) (by kernel_rfl) (fun _ _ _ h => h) (by rfl) ?_ hS ?_
  rotate_left
  · intro w _; go_simp; try with_reducible rfl
  clear hoi; try simp only [Act.put, List.setIfInBounds_toArray, List.set_cons_zero, List.set_cons_succ]
  refine rg_at 10 (by decide) (fun oi hoi => ?_)
  have ho2 := hoi; simp only [List.getElem?_toArray, List.getElem?_cons_succ, List.getElem?_cons_zero, Option.some.injEq] at ho2; subst ho2
  refine rg_take (v := ?_) 10 hoi (by kernel_rfl) (by kernel_rfl) (by kernel_rfl) (fun _ _ _ h => h) (by rfl) ?_ hS ?_
  rotate_left
  · intro w _; go_simp; try with_reducible rfl
  clear hoi; try simp only [Act.put, List.setIfInBounds_toArray, List.set_cons_zero, List.set_cons_succ]
  refine wpAnyH_done (by kernel_rfl) ?_ _
  have hL2 := HL1.out w2 hS
  obtain ⟨x0, y0, y1, y2, y3, y4⟩ := hL2
  have hL3 := fun o => HL1.out (w2.alloc o) (hS.alloc o)
  have z0 := fun o => (hL3 o).1
  have z1 := fun o => (hL3 o).2.1
  have z2 := fun o => (hL3 o).2.2.1
  have z3 := fun o => (hL3 o).2.2.2.1
  have z4 := fun o => (hL3 o).2.2.2.2.1
  have z5 := fun o => (hL3 o).2.2.2.2.2
  have hb2 : Blk w2 q 47 #[.slice A l.length c] := HB.out.upd (HU1.out.next hS) (no_ _)
  have ho2 := own_upd HO.out (HU1.out.next hS) (fun _ _ => no_ _)
  have hal : Upd No w2 (w2.drew.alloc (.cells (rc r0).toArray 30)) := ((Upd.refl No w2).drew).alloc _
  have HIn := hid (insert 0 l.length (l.length + 1) c k w2.drew.heap.size A (l.flatMap rc) (rc r0).toArray _ (own_upd ho2 hal fun _ _ => no_ _) (flat_one l) rfl hl hk (Blk.fresh w2.drew _ _) rfl (rc_one r0) (fun e => by
    have := (ho2.lt _ e).2
    simp at this) (Nat.zero_le _))
  unfold InsOut at HIn
  rw [hrc.out] at HIn hal
  have HB2 := hid hb2
  have HO2 := hid ho2
  have HAl := hid hal
  have HU2 := hid (HU1.out.next hS)
  have HI := hid hi
  have hcl : (ins l r0).flatMap rc = (l.flatMap rc).take (k * 5) ++ (rc r0).toArray.toList ++ (l.flatMap rc).drop (k * 5) := by
    rw [hi, List.flatMap_append, List.flatMap_cons, flat_take, flat_drop]
    simp
  rw [hrc.out] at hcl
  have HE : Hid (∀ (W w3 : World) (A3 : Option Addr) (c3 : Nat), Upd No w2 W → w3.ownsRow 0 30 5 (.slice A3 (l.length + 1) c3) (l.length + 1) ((ins l r0).flatMap rc) → Upd (fun k => (Value.slice A l.length c).ownBlock = some k) W w3 → (∀ k, (Value.slice A3 (l.length + 1) c3).ownBlock = some k → (Value.slice A l.length c).ownBlock = some k ∨ W.heap.size ≤ k) →
      ∃ F', Qo (w3.setCell ⟨q, 0, none⟩ (.slice A3 (l.length + 1) c3)) F' q (ins l r0) ∧ Mv F F' w (w3.setCell ⟨q, 0, none⟩ (.slice A3 (l.length + 1) c3))) := hid fun W w3 A3 c3 hw ho3 hu3 hat3 => by
    obtain ⟨F', h1, h2⟩ := Qo.stored (l' := ins l r0) (HB2.out.upd hw (no_ _)) (own_upd HO2.out hw fun _ _ => no_ _) HF.out hu3 (v' := .slice A3 (l.length + 1) c3) (by rw [HIl.out]; exact ho3) hat3 rfl
    exact ⟨F', h1, Mv.trans (Mv.quiet ((HU2.out.next hw).old (Nat.le_refl _))) h2⟩
  have HCl := hid hcl
  clear hS hu2 hi hL3 hb2 ho2 hal HSr HL1 hcl
  go_wp2_with (fail)
  refine wp_region_held_drew (S := fun _ => True) (by kernel_rfl) trivial (fun hS => ?_)
  refine rg_at 0 (by decide) (fun oi hoi => ?_)
  have ho2 := hoi; simp only [List.getElem?_toArray, List.getElem?_cons_succ, List.getElem?_cons_zero, Option.some.injEq] at ho2; subst ho2
  refine rg_take (v := ?_) 0 hoi (by kernel_rfl) (by kernel_rfl) (by kernel_rfl) (fun _ _ _ h => h) (by rfl) ?_ hS ?_
  rotate_left
  · intro w _; go_simp; try with_reducible rfl
  clear hoi; try simp only [Act.put, List.setIfInBounds_toArray, List.set_cons_zero, List.set_cons_succ]
  refine rg_at 1 (by decide) (fun oi hoi => ?_)
  have ho2 := hoi; simp only [List.getElem?_toArray, List.getElem?_cons_succ, List.getElem?_cons_zero, Option.some.injEq] at ho2; subst ho2
  refine rg_take (v := ?_) 1 hoi (by kernel_rfl) (by kernel_rfl) (by kernel_rfl) (fun _ _ _ h => h) (by rfl) ?_ hS ?_
  rotate_left
  · intro w _; go_simp; try with_reducible rfl
  clear hoi; try simp only [Act.put, List.setIfInBounds_toArray, List.set_cons_zero, List.set_cons_succ]
  refine rg_at 2 (by decide) (fun oi hoi => ?_)
  have ho2 := hoi; simp only [List.getElem?_toArray, List.getElem?_cons_succ, List.getElem?_cons_zero, Option.some.injEq] at ho2; subst ho2
  refine rg_take (v := ?_) 2 hoi (by kernel_rfl) (by kernel_rfl) (by kernel_rfl) (fun _ _ _ h => h) (by rfl) ?_ hS ?_
  rotate_left
  · intro w _; go_simp; try with_reducible rfl
  clear hoi; try simp only [Act.put, List.setIfInBounds_toArray, List.set_cons_zero, List.set_cons_succ]
  refine rg_at 3 (by decide) (fun oi hoi => ?_)
  have ho2 := hoi; simp only [List.getElem?_toArray, List.getElem?_cons_succ, List.getElem?_cons_zero, Option.some.injEq] at ho2; subst ho2
  refine rg_take (v := ?_) 3 hoi (by kernel_rfl) (by kernel_rfl) (by kernel_rfl) (fun _ _ _ h => h) (by rfl) ?_ hS ?_
  rotate_left
  · intro w _; go_simp; try with_reducible rfl
  clear hoi; try simp only [Act.put, List.setIfInBounds_toArray, List.set_cons_zero, List.set_cons_succ]
  refine rg_at 5 (by decide) (fun oi hoi => ?_)
  have ho2 := hoi; simp only [List.getElem?_toArray, List.getElem?_cons_succ, List.getElem?_cons_zero, Option.some.injEq] at ho2; subst ho2
  refine rg_take (v := ?_) 5 hoi (by kernel_rfl) (by kernel_rfl) (by kernel_rfl) (fun _ _ _ h => h) (by rfl) ?_ hS ?_
  rotate_left
  · intro w _; go_simp; try with_reducible rfl
  clear hoi; try simp only [Act.put, List.setIfInBounds_toArray, List.set_cons_zero, List.set_cons_succ]
  refine rg_two 4 6 (by kernel_rfl) ?_ ?_
  · refine rg_op_at 4 (by decide) (fun oi hoi => ?_)
    have ho2 := hoi; simp only [List.getElem?_toArray, List.getElem?_cons_succ, List.getElem?_cons_zero, Option.some.injEq] at ho2; subst ho2
    refine rg_step 4 hoi (by rfl) (fun K hK => ?_)
    clear hoi
    skip
    go_simp
    refine hK.out _ _ (trivial) (fun hS => ?_)
    clear hK K
    try simp only [Act.put, List.setIfInBounds_toArray, List.set_cons_zero, List.set_cons_succ]
    refine rg_at 6 (by decide) (fun oi hoi => ?_)
    have ho2 := hoi; simp only [List.getElem?_toArray, List.getElem?_cons_succ, List.getElem?_cons_zero, Option.some.injEq] at ho2; subst ho2
    refine rg_call 6 (by kernel_rfl) hoi (by rfl) (fun K hK => ?_)
    clear hoi
    skip
    go_simp
    refine hK.out _ _ (trivial) (fun hS => ?_)
    clear hK K
    try simp only [Act.put, List.setIfInBounds_toArray, List.set_cons_zero, List.set_cons_succ]
    refine rg_at 7 (by decide) (fun oi hoi => ?_)
    have ho2 := hoi; simp only [List.getElem?_toArray, List.getElem?_cons_succ, List.getElem?_cons_zero, Option.some.injEq] at ho2; subst ho2
    refine rg_call 7 (by kernel_rfl) hoi (by rfl) (fun K hK => ?_)
    clear hoi
    skip
    go_simp
    refine hK.out _ _ (trivial) (fun hS => ?_)
    clear hK K
    try simp only [Act.put, List.setIfInBounds_toArray, List.set_cons_zero, List.set_cons_succ]
    refine rg_at 8 (by decide) (fun oi hoi => ?_)
    have ho2 := hoi; simp only [List.getElem?_toArray, List.getElem?_cons_succ, List.getElem?_cons_zero, Option.some.injEq] at ho2; subst ho2
    refine rg_call 8 (by kernel_rfl) hoi (by rfl) (fun K hK => ?_)
    clear hoi
    go_simp
    refine Calls.mono HIn.out ?_
    rintro e w3 ⟨A3, c3, rfl, ho3, hu3, hat3⟩
    have hb3 : Blk w3 q 47 #[.slice A l.length c] := (HB2.out.upd HAl.out (no_ _)).upd hu3 (own_blk_ne HO2.out HB2.out (by decide))
    have x3 := hb3.cell 0
    have f3 := hb3.free 0
    simp at x3
    go_wp2_with (fail)
    refine hK.out _ _ (trivial) (fun hS => ?_)
    clear hK K
    try simp only [Act.put, List.setIfInBounds_toArray, List.set_cons_zero, List.set_cons_succ]
    refine rg_at 9 (by decide) (fun oi hoi => ?_)
    have ho2 := hoi; simp only [List.getElem?_toArray, List.getElem?_cons_succ, List.getElem?_cons_zero, Option.some.injEq] at ho2; subst ho2
    refine rg_take (v := ?_) 9 hoi (by kernel_rfl) (by kernel_rfl) (by kernel_rfl) (fun _ _ _ h => h) (by rfl) ?_ hS ?_
    rotate_left
    · intro w _; go_simp; try with_reducible rfl
    clear hoi; try simp only [Act.put, List.setIfInBounds_toArray, List.set_cons_zero, List.set_cons_succ]
    refine rg_at 10 (by decide) (fun oi hoi => ?_)
    have ho2 := hoi; simp only [List.getElem?_toArray, List.getElem?_cons_succ, List.getElem?_cons_zero, Option.some.injEq] at ho2; subst ho2
    refine rg_take (v := ?_) 10 hoi (by kernel_rfl) (by kernel_rfl) (by kernel_rfl) (fun _ _ _ h => h) (by rfl) ?_ hS ?_
    rotate_left
    · intro w _; go_simp; try with_reducible rfl
    clear hoi; try simp only [Act.put, List.setIfInBounds_toArray, List.set_cons_zero, List.set_cons_succ]
    refine rg_at 11 (by decide) (fun oi hoi => ?_)
    have ho2 := hoi; simp only [List.getElem?_toArray, List.getElem?_cons_succ, List.getElem?_cons_zero, Option.some.injEq] at ho2; subst ho2
    refine rg_call 11 (by kernel_rfl) hoi (by rfl) (fun K hK => ?_)
    clear hoi
    skip
    go_simp
    refine hK.out _ _ (trivial) (fun hS => ?_)
    clear hK K
    try simp only [Act.put, List.setIfInBounds_toArray, List.set_cons_zero, List.set_cons_succ]
    refine wpAnyH_done (by kernel_rfl) ?_ _
    rw [← HCl.out] at ho3
    have HZ := hid (HE.out _ _ _ _ HAl.out ho3 hu3 hat3)
    clear ho3 hu3 hat3
    go_wp2
    go_end0
    exact ⟨rfl, HZ.out⟩
  · refine rg_op_at 6 (by decide) (fun oi hoi => ?_)
    have ho2 := hoi; simp only [List.getElem?_toArray, List.getElem?_cons_succ, List.getElem?_cons_zero, Option.some.injEq] at ho2; subst ho2
    refine rg_step 6 hoi (by rfl) (fun K hK => ?_)
    clear hoi
    skip
    go_simp
    refine hK.out _ _ (trivial) (fun hS => ?_)
    clear hK K
    try simp only [Act.put, List.setIfInBounds_toArray, List.set_cons_zero, List.set_cons_succ]
    refine rg_two 4 7 (by kernel_rfl) ?_ ?_
    · refine rg_op_at 4 (by decide) (fun oi hoi => ?_)
      have ho2 := hoi; simp only [List.getElem?_toArray, List.getElem?_cons_succ, List.getElem?_cons_zero, Option.some.injEq] at ho2; subst ho2
      refine rg_step 4 hoi (by rfl) (fun K hK => ?_)
      clear hoi
      skip
      go_simp
      refine hK.out _ _ (trivial) (fun hS => ?_)
      clear hK K
      try simp only [Act.put, List.setIfInBounds_toArray, List.set_cons_zero, List.set_cons_succ]
      refine rg_at 7 (by decide) (fun oi hoi => ?_)
      have ho2 := hoi; simp only [List.getElem?_toArray, List.getElem?_cons_succ, List.getElem?_cons_zero, Option.some.injEq] at ho2; subst ho2
      refine rg_call 7 (by kernel_rfl) hoi (by rfl) (fun K hK => ?_)
      clear hoi
      skip
      go_simp
      refine hK.out _ _ (trivial) (fun hS => ?_)
      clear hK K
      try simp only [Act.put, List.setIfInBounds_toArray, List.set_cons_zero, List.set_cons_succ]
      refine rg_at 8 (by decide) (fun oi hoi => ?_)
      have ho2 := hoi; simp only [List.getElem?_toArray, List.getElem?_cons_succ, List.getElem?_cons_zero, Option.some.injEq] at ho2; subst ho2
      refine rg_call 8 (by kernel_rfl) hoi (by rfl) (fun K hK => ?_)
      clear hoi
      go_simp
      refine Calls.mono HIn.out ?_
      rintro e w3 ⟨A3, c3, rfl, ho3, hu3, hat3⟩
      have hb3 : Blk w3 q 47 #[.slice A l.length c] := (HB2.out.upd HAl.out (no_ _)).upd hu3 (own_blk_ne HO2.out HB2.out (by decide))
      have x3 := hb3.cell 0
      have f3 := hb3.free 0
      simp at x3
      go_wp2_with (fail)
      refine hK.out _ _ (trivial) (fun hS => ?_)
      clear hK K
      try simp only [Act.put, List.setIfInBounds_toArray, List.set_cons_zero, List.set_cons_succ]
      refine rg_at 9 (by decide) (fun oi hoi => ?_)
      have ho2 := hoi; simp only [List.getElem?_toArray, List.getElem?_cons_succ, List.getElem?_cons_zero, Option.some.injEq] at ho2; subst ho2
      refine rg_take (v := ?_) 9 hoi (by kernel_rfl) (by kernel_rfl) (by kernel_rfl) (fun _ _ _ h => h) (by rfl) ?_ hS ?_
      rotate_left
      · intro w _; go_simp; try with_reducible rfl
      clear hoi; try simp only [Act.put, List.setIfInBounds_toArray, List.set_cons_zero, List.set_cons_succ]
      refine rg_at 10 (by decide) (fun oi hoi => ?_)
      have ho2 := hoi; simp only [List.getElem?_toArray, List.getElem?_cons_succ, List.getElem?_cons_zero, Option.some.injEq] at ho2; subst ho2
      refine rg_take (v := ?_) 10 hoi (by kernel_rfl) (by kernel_rfl) (by kernel_rfl) (fun _ _ _ h => h) (by rfl) ?_ hS ?_
      rotate_left
      · intro w _; go_simp; try with_reducible rfl
      clear hoi; try simp only [Act.put, List.setIfInBounds_toArray, List.set_cons_zero, List.set_cons_succ]
      refine rg_at 11 (by decide) (fun oi hoi => ?_)
      have ho2 := hoi; simp only [List.getElem?_toArray, List.getElem?_cons_succ, List.getElem?_cons_zero, Option.some.injEq] at ho2; subst ho2
      refine rg_call 11 (by kernel_rfl) hoi (by rfl) (fun K hK => ?_)
      clear hoi
      skip
      go_simp
      refine hK.out _ _ (trivial) (fun hS => ?_)
      clear hK K
      try simp only [Act.put, List.setIfInBounds_toArray, List.set_cons_zero, List.set_cons_succ]
      refine wpAnyH_done (by kernel_rfl) ?_ _
      rw [← HCl.out] at ho3
      have HZ := hid (HE.out _ _ _ _ HAl.out ho3 hu3 hat3)
      clear ho3 hu3 hat3
      go_wp2
      go_end0
      exact ⟨rfl, HZ.out⟩
    · refine rg_op_at 7 (by decide) (fun oi hoi => ?_)
      have ho2 := hoi; simp only [List.getElem?_toArray, List.getElem?_cons_succ, List.getElem?_cons_zero, Option.some.injEq] at ho2; subst ho2
      refine rg_step 7 hoi (by rfl) (fun K hK => ?_)
      clear hoi
      skip
      go_simp
      refine hK.out _ _ (trivial) (fun hS => ?_)
      clear hK K
      try simp only [Act.put, List.setIfInBounds_toArray, List.set_cons_zero, List.set_cons_succ]
      refine rg_at 4 (by decide) (fun oi hoi => ?_)
      have ho2 := hoi; simp only [List.getElem?_toArray, List.getElem?_cons_succ, List.getElem?_cons_zero, Option.some.injEq] at ho2; subst ho2
      refine rg_call 4 (by kernel_rfl) hoi (by rfl) (fun K hK => ?_)
      clear hoi
      skip
      go_simp
      refine hK.out _ _ (trivial) (fun hS => ?_)
      clear hK K
      try simp only [Act.put, List.setIfInBounds_toArray, List.set_cons_zero, List.set_cons_succ]
      refine rg_at 8 (by decide) (fun oi hoi => ?_)
      have ho2 := hoi; simp only [List.getElem?_toArray, List.getElem?_cons_succ, List.getElem?_cons_zero, Option.some.injEq] at ho2; subst ho2
      refine rg_call 8 (by kernel_rfl) hoi (by rfl) (fun K hK => ?_)
      clear hoi
      go_simp
      refine Calls.mono HIn.out ?_
      rintro e w3 ⟨A3, c3, rfl, ho3, hu3, hat3⟩
      have hb3 : Blk w3 q 47 #[.slice A l.length c] := (HB2.out.upd HAl.out (no_ _)).upd hu3 (own_blk_ne HO2.out HB2.out (by decide))
      have x3 := hb3.cell 0
      have f3 := hb3.free 0
      simp at x3
      go_wp2_with (fail)
      refine hK.out _ _ (trivial) (fun hS => ?_)
      clear hK K
      try simp only [Act.put, List.setIfInBounds_toArray, List.set_cons_zero, List.set_cons_succ]
      refine rg_at 9 (by decide) (fun oi hoi => ?_)
      have ho2 := hoi; simp only [List.getElem?_toArray, List.getElem?_cons_succ, List.getElem?_cons_zero, Option.some.injEq] at ho2; subst ho2
      refine rg_take (v := ?_) 9 hoi (by kernel_rfl) (by kernel_rfl) (by kernel_rfl) (fun _ _ _ h => h) (by rfl) ?_ hS ?_
      rotate_left
      · intro w _; go_simp; try with_reducible rfl
      clear hoi; try simp only [Act.put, List.setIfInBounds_toArray, List.set_cons_zero, List.set_cons_succ]
      refine rg_at 10 (by decide) (fun oi hoi => ?_)
      have ho2 := hoi; simp only [List.getElem?_toArray, List.getElem?_cons_succ, List.getElem?_cons_zero, Option.some.injEq] at ho2; subst ho2
      refine rg_take (v := ?_) 10 hoi (by kernel_rfl) (by kernel_rfl) (by kernel_rfl) (fun _ _ _ h => h) (by rfl) ?_ hS ?_
      rotate_left
      · intro w _; go_simp; try with_reducible rfl
      clear hoi; try simp only [Act.put, List.setIfInBounds_toArray, List.set_cons_zero, List.set_cons_succ]
      refine rg_at 11 (by decide) (fun oi hoi => ?_)
      have ho2 := hoi; simp only [List.getElem?_toArray, List.getElem?_cons_succ, List.getElem?_cons_zero, Option.some.injEq] at ho2; subst ho2
      refine rg_call 11 (by kernel_rfl) hoi (by rfl) (fun K hK => ?_)
      clear hoi
      skip
      go_simp
      refine hK.out _ _ (trivial) (fun hS => ?_)
      clear hK K
      try simp only [Act.put, List.setIfInBounds_toArray, List.set_cons_zero, List.set_cons_succ]
      refine wpAnyH_done (by kernel_rfl) ?_ _
      rw [← HCl.out] at ho3
      have HZ := hid (HE.out _ _ _ _ HAl.out ho3 hu3 hat3)
      clear ho3 hu3 hat3
      go_wp2
      go_end0
      exact ⟨rfl, HZ.out⟩
end Go.Proofs.Ytlicimkpgnemeaa.Nd
