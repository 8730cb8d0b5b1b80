/-
  The walk of reevelaw01.CodecReads.
-/
import Derived.Test.YtlghblpkgmajeaaCe
import Derived.Test.YtlghblpkgmajeaaCn
set_option linter.unusedVariables false
set_option linter.unusedSimpArgs false
namespace Go.Proofs.Ytlghblpkgmajeaa.Cd
open Go.RowKit Go.Proofs.Ytlghblpkgmajeaa.B Go.Proofs.Ytlghblpkgmajeaa.Cm Go.Proofs.Ytlghblpkgmajeaa.Cw Go.Proofs.Ytlghblpkgmajeaa.Cr
/-- Both readers stand alike. -/
def Alike (w0 : World) (p q : Nat) (W : World) : Prop :=
  ∃ (F G : Nat → Prop) (A A' : Option Addr) (c c' : Nat) (l : List Int) (bad : Bool), Rr 57 W F p A c l bad ∧ Rr 45 W G q A' c' l bad ∧ (∀ k, F k → ¬ k = q) ∧ (∀ k, G k → ¬ k = p) ∧ Upd (fun k => k = p ∨ k = q) w0 W
theorem Alike.drew {w0 W : World} {p q : Nat} (h : Alike w0 p q W) : Alike w0 p q W.drew := by
  obtain ⟨F, G, A, A', c, c', l, bad, h1, h2, h3, h4, h5⟩ := h
  exact ⟨F, G, A, A', c, c', l, bad, h1.keep (Upd.drew (Upd.refl No _)) (fun k _ => no_ k), h2.keep (Upd.drew (Upd.refl No _)) (fun k _ => no_ k), h3, h4, Upd.drew h5⟩
theorem rint_eq {F : Nat → Prop} {p c : Nat} {A : Option Addr} {l r : List Int} {n z : Int} {bad bd : Bool} {w : World} (h : Rr 57 w F p A c l bad) (hs : stN l bad = (n, r, bd)) (hz : uz n = z) :
    Calls Try.prog 16 #[.pointer (some ⟨p, 0, none⟩)] w fun e w' => e = .returned (.int .i64 z) ∧ ∃ A' c', Rr 57 w' F p A' c' r bd ∧ Upd (fun k => k = p) w w' :=
  (rint F p c A l bad w h).mono fun e w' hp => by
    rw [hs] at hp
    simp only [hz] at hp
    exact hp
theorem rtext_eq {F : Nat → Prop} {p c : Nat} {A : Option Addr} {l r s : List Int} {bad bd : Bool} {w : World} (h : Rr 57 w F p A c l bad) (hs : stT l bad = (s, r, bd)) :
    Calls Try.prog 23 #[.pointer (some ⟨p, 0, none⟩)] w fun e w' => e = .returned (.string (strOfNums s)) ∧ ∃ A' c', Rr 57 w' F p A' c' r bd ∧ Upd (fun k => k = p) w w' :=
  (rtext F p c A l bad w h).mono fun e w' hp => by
    unfold TextPost at hp
    rw [hs] at hp
    exact hp
theorem int_eq {F : Nat → Prop} {p c : Nat} {A : Option Addr} {l r : List Int} {n z : Int} {bad bd : Bool} {w : World} (h : Rr 45 w F p A c l bad) (hs : stN l bad = (n, r, bd)) (hz : uz n = z) :
    Calls Try.prog 22 #[.pointer (some ⟨p, 0, none⟩)] w fun e w' => e = .returned (.int .i64 z) ∧ ∃ A' c', Rr 45 w' F p A' c' r bd ∧ Upd (fun k => k = p) w w' :=
  (Ce.int_ F p c A l bad w h).mono fun e w' hp => by
    rw [hs] at hp
    simp only [hz] at hp
    exact hp
theorem text_eq {F : Nat → Prop} {p c : Nat} {A : Option Addr} {l r s : List Int} {bad bd : Bool} {w : World} (h : Rr 45 w F p A c l bad) (hs : stT l bad = (s, r, bd)) :
    Calls Try.prog 24 #[.pointer (some ⟨p, 0, none⟩)] w fun e w' => e = .returned (.string (strOfNums s)) ∧ ∃ A' c', Rr 45 w' F p A' c' r bd ∧ Upd (fun k => k = p) w w' :=
  (Ce.text_ F p c A l bad w h).mono fun e w' hp => by
    unfold TextPost at hp
    rw [hs] at hp
    exact hp
theorem byThree {G : Prop} (n : Int) (h0 : (n % 3 == 0) = true → G) (h1 : (n % 3 == 0) = false → (n % 3 == 1) = true → G) (h2 : (n % 3 == 0) = false → (n % 3 == 1) = false → G) : G := by
  by_cases a : n % 3 = 0
  · exact h0 (by simp [a])
  · by_cases b : n % 3 = 1
    · exact h1 (by simp [b]) (by simp [b])
    · exact h2 (by simp [a]) (by simp [b])
set_option maxHeartbeats 4000000 in
set_option maxRecDepth 100000 in
theorem reads (A B : Option Addr) (c d : Nat) (l m : List Int) (w : World) (hr : Rn w .u8 A l) (hc : l.length ≤ c) (hl : c ≤ 140737488351232) (hb : Byte l)
    (hro : Rn w .u8 B m) (hd : m.length ≤ d) (hlo : d ≤ 140737488351232) (hbo : Byte m) :
    Calls Try.prog 7 #[.slice A l.length c, .slice B m.length d] w fun e w' => e = .returned (.bool true) ∧ Below w.heap.size w w' := by
  go_enter Try.func7, Try.ntmps7
  go_wp2_with (fail)
  refine (Ca.awake w).mono ?_
  rintro e w1 ⟨rfl, hb1⟩
  have hr1 : Rn w1 .u8 A l := Rd.below hr (by omega) hb1
  go_wp2_with (fail)
  refine (newReader A c l w1 hr1 (by omega) hb).mono ?_
  rintro e w2 ⟨F2, p, A2, c2, rfl, hq2, hF2, hb2⟩
  have hr2 : Rn w2 .u8 A l := Rd.below hr1 (by omega) hb2
  go_wp2_with (fail)
  refine (Ce.of_ A c l w2 hr2 hc (by omega) hb).mono ?_
  rintro e w3 ⟨rfl, hq3, hb3⟩
  have hq23 := Co.Rr.old hq2 (Upd.of_below No hb3)
  have hp2 := hF2 _ hq2.here
  have hp2' := hq2.lt _ hq2.here
  have hb23 := hb1.trans ((hb2.trans (hb3.mono hb2.size)).mono hb1.size)
  have hal : Alike w3 p w2.heap.size w3 := by
    refine ⟨_, _, _, _, _, _, _, _, hq23, hq3, fun k hk he => ?_, fun k hk he => ?_, Upd.refl _ _⟩
    · have := hq2.lt k hk
      omega
    · rcases hk with rfl | ⟨hne, ad, e, rfl⟩
      · omega
      · obtain ⟨ad', e', hlt⟩ := Rd.lt hr1 (List.length_pos_iff.2 hne) (by omega)
        rw [e] at e'
        injection e' with e'
        rw [e'] at he
        omega
  have hro3 : Rn w3 .u8 B m := Rd.below hro (by omega) hb23
  have hp3 : w.heap.size ≤ p ∧ w.heap.size ≤ w2.heap.size ∧ p < w2.heap.size := ⟨by have := hb1.size; omega, by have := hb1.size; have := hb2.size; omega, hp2'⟩
  obtain ⟨q, hq⟩ : ∃ q, q = w2.heap.size := ⟨_, rfl⟩
  rw [← hq] at hp3 hal ⊢
  have HRO : Hid (∀ W : World, Upd (fun k => k = p ∨ k = q) w3 W → Rn W .u8 B m) := hid fun W hu => Rd.upd0 hro3 (by omega) hu fun h0 ad e => by
    obtain ⟨ad', e', hlt⟩ := Rd.lt hro h0 (by omega)
    rw [e] at e'
    injection e' with e'
    subst e'
    omega
  clear hq hq2 hq3 hq23 hF2 hb1 hb2 hb3 hr1 hr2 hp2 hp2' hr hb hro hro3
  go_wp2_with (fail)
  go_loopw [17] (fun v17 W => ∃ j : Nat, j ≤ m.length ∧ v17 = .int .i64 j ∧ Alike w3 p q W) (fun v17 _ => m.length - (intOf v17).toNat)
  case atStart => exact ⟨0, by omega, rfl, hal⟩
  case round =>
    obtain ⟨j, hj, rfl, hal'⟩ := hrel
    by_cases hlt : j < m.length
    · obtain ⟨F, G, A4, A5, c4, c5, l4, bd4, h1, h2, h3, h4, h5⟩ := hal'
      have hrm := HRO.out wr h5
      obtain ⟨ad, rfl, hxj⟩ := Rn.at_ (i := j) hrm hlt
      have hby := hbo _ (gi_mem m j hlt)
      clear hrm HRO
      refine byThree (gi m j) ?three0 ?three1 ?three2
      case' three0 =>
        intro hg
        obtain ⟨n, r, bd, hst⟩ : ∃ n r bd, stN l4 bd4 = (n, r, bd) := ⟨_, _, _, rfl⟩
        obtain ⟨z, hz⟩ : ∃ z, uz n = z := ⟨_, rfl⟩
        have HST := hid hst
        have HZ := hid hz
        have C0 := hid (rnumber_eq h1 hst)
        clear hst hz
        go_wp2_with (fail)
        refine Calls.mono (C0).out ?_
        rintro e w5 ⟨rfl, A6, c6, h6, hu6⟩
        have h7 := h2.keep hu6 (fun k hk hk' => h4 k hk hk')
        have C1 := hid (Ce.number_eq h7 HST.out)
        clear h1 h2 h7
        go_wp2_with (fail)
        refine Calls.mono C1.out ?_
        rintro e w6 ⟨rfl, A8, c8, h8, hu8⟩
        have h9 := h6.keep hu8 (fun k hk hk' => h3 k hk hk')
        have h10 := (h5.trans hu6 fun k _ hk => Or.inl hk).trans hu8 fun k _ hk => Or.inr hk
        clear h6 hu6 hu8 h5
        go_wp2_with (fail)
      case' three1 =>
        intro hg hg1
        obtain ⟨n, r, bd, hst⟩ : ∃ n r bd, stN l4 bd4 = (n, r, bd) := ⟨_, _, _, rfl⟩
        obtain ⟨z, hz⟩ : ∃ z, uz n = z := ⟨_, rfl⟩
        have HST := hid hst
        have HZ := hid hz
        have C0 := hid (rint_eq h1 hst hz)
        clear hst hz
        go_wp2_with (fail)
        refine Calls.mono (C0).out ?_
        rintro e w5 ⟨rfl, A6, c6, h6, hu6⟩
        have h7 := h2.keep hu6 (fun k hk hk' => h4 k hk hk')
        have C1 := hid (int_eq h7 HST.out HZ.out)
        clear h1 h2 h7
        go_wp2_with (fail)
        refine Calls.mono C1.out ?_
        rintro e w6 ⟨rfl, A8, c8, h8, hu8⟩
        have h9 := h6.keep hu8 (fun k hk hk' => h3 k hk hk')
        have h10 := (h5.trans hu6 fun k _ hk => Or.inl hk).trans hu8 fun k _ hk => Or.inr hk
        clear h6 hu6 hu8 h5
        go_wp2_with (fail)
      case' three2 =>
        intro hg hg1
        obtain ⟨s, r, bd, hst⟩ : ∃ s r bd, stT l4 bd4 = (s, r, bd) := ⟨_, _, _, rfl⟩
        have HST := hid hst
        have C0 := hid (rtext_eq h1 hst)
        clear hst
        go_wp2_with (fail)
        refine Calls.mono (C0).out ?_
        rintro e w5 ⟨rfl, A6, c6, h6, hu6⟩
        have h7 := h2.keep hu6 (fun k hk hk' => h4 k hk hk')
        have C1 := hid (text_eq h7 HST.out)
        clear h1 h2 h7
        go_wp2_with (fail)
        refine Calls.mono C1.out ?_
        rintro e w6 ⟨rfl, A8, c8, h8, hu8⟩
        have h9 := h6.keep hu8 (fun k hk hk' => h3 k hk hk')
        have h10 := (h5.trans hu6 fun k _ hk => Or.inl hk).trans hu8 fun k _ hk => Or.inr hk
        clear h6 hu6 hu8 h5
        go_wp2_with (fail)
      all_goals
        have hal2 : Hid (Alike w3 p q w6.drew) := hid (Alike.drew ⟨F, G, A6, A8, c6, c8, r, bd, h9, h8, h3, h4, h10⟩)
        have h9d := Co.Rr.old h9 (Upd.drew (Upd.refl _ w6))
        have h8d := h8.keep (Upd.drew (Upd.refl No w6)) (fun k _ => no_ k)
        have hq0 := h8d.blk.cell 0
        have hq1 := h8d.blk.cell 1
        simp at hq0 hq1
        have E1 := hid (bad p bd _ _ h9d.blk)
        have E2 := hid (left p r.length _ _ _ _ h9d.blk)
        have E3 := hid (end_ p r.length _ _ bd _ h9d.blk)
        have E4 := hid (Ce.end_ q r.length _ _ bd _ h8d.blk)
        have hQ0 := hid (fun (W : World) (e : W = w6.drew) => (congrArg (fun v => World.cell? v ⟨q, 0, none⟩) e).trans hq0)
        have hQ1 := hid (fun (W : World) (e : W = w6.drew) => (congrArg (fun v => World.cell? v ⟨q, 1, none⟩) e).trans hq1)
        obtain ⟨ee, hee⟩ : ∃ ee, ee = (!bd && decide (r.length = 0)) := ⟨_, rfl⟩
        rw [← hee] at E3 E4
        clear hee hq0 hq1 h9d h8d h8 h9 h10 HST h3 h4 C0 C1
        refine wp_region_held_drew (S := fun W => W = w6.drew) (by kernel_rfl) rfl (fun hS => ?_)
        refine rg_at 0 (by decide) (fun oi hoi => ?_)
        have ho2 := hoi; simp only [List.getElem?_toArray, List.getElem?_cons_succ, List.getElem?_cons_zero, Option.some.injEq] at ho2; subst ho2
        refine rg_take (v := ?_) 0 hoi (by kernel_rfl) (by kernel_rfl) (by kernel_rfl) (fun _ _ _ h => h) (by rfl) ?_ hS ?_
        rotate_left
        · intro w _; go_simp; try with_reducible rfl
        clear hoi; try simp only [Act.put, List.setIfInBounds_toArray, List.set_cons_zero, List.set_cons_succ]
        refine rg_at 1 (by decide) (fun oi hoi => ?_)
        have ho2 := hoi; simp only [List.getElem?_toArray, List.getElem?_cons_succ, List.getElem?_cons_zero, Option.some.injEq] at ho2; subst ho2
        refine rg_take (v := ?_) 1 hoi (by kernel_rfl) (by kernel_rfl) (by kernel_rfl) (fun _ _ _ h => h) (by rfl) ?_ hS ?_
        rotate_left
        · intro w _; go_simp; try with_reducible rfl
        clear hoi; try simp only [Act.put, List.setIfInBounds_toArray, List.set_cons_zero, List.set_cons_succ]
        refine rg_at 2 (by decide) (fun oi hoi => ?_)
        have ho2 := hoi; simp only [List.getElem?_toArray, List.getElem?_cons_succ, List.getElem?_cons_zero, Option.some.injEq] at ho2; subst ho2
        refine rg_take (v := ?_) 2 hoi (by kernel_rfl) (by kernel_rfl) (by kernel_rfl) (fun _ _ _ h => h) (by rfl) ?_ hS ?_
        rotate_left
        · intro w _; go_simp; try with_reducible rfl
        clear hoi; try simp only [Act.put, List.setIfInBounds_toArray, List.set_cons_zero, List.set_cons_succ]
        refine rg_at 3 (by decide) (fun oi hoi => ?_)
        have ho2 := hoi; simp only [List.getElem?_toArray, List.getElem?_cons_succ, List.getElem?_cons_zero, Option.some.injEq] at ho2; subst ho2
        refine rg_take (v := ?_) 3 hoi (by kernel_rfl) (by kernel_rfl) (by kernel_rfl) (fun _ _ _ h => h) (by rfl) ?_ hS ?_
        rotate_left
        · intro w _; go_simp; try with_reducible rfl
        clear hoi; try simp only [Act.put, List.setIfInBounds_toArray, List.set_cons_zero, List.set_cons_succ]
        refine rg_at 5 (by decide) (fun oi hoi => ?_)
        have ho2 := hoi; simp only [List.getElem?_toArray, List.getElem?_cons_succ, List.getElem?_cons_zero, Option.some.injEq] at ho2; subst ho2
        refine rg_take (v := ?_) 5 hoi (by kernel_rfl) (by kernel_rfl) (by kernel_rfl) (fun _ _ _ h => h) (by rfl) ?_ hS ?_
        rotate_left
        · intro w _; go_simp; try with_reducible rfl
        clear hoi; try simp only [Act.put, List.setIfInBounds_toArray, List.set_cons_zero, List.set_cons_succ]
        refine rg_at 6 (by decide) (fun oi hoi => ?_)
        have ho2 := hoi; simp only [List.getElem?_toArray, List.getElem?_cons_succ, List.getElem?_cons_zero, Option.some.injEq] at ho2; subst ho2
        refine rg_take (v := ?_) 6 hoi (by kernel_rfl) (by kernel_rfl) (by kernel_rfl) (fun _ _ _ h => h) (by rfl) ?_ hS ?_
        rotate_left
        · intro w _; go_simp; try with_reducible rfl
        clear hoi; try simp only [Act.put, List.setIfInBounds_toArray, List.set_cons_zero, List.set_cons_succ]
        refine rg_at 7 (by decide) (fun oi hoi => ?_)
        have ho2 := hoi; simp only [List.getElem?_toArray, List.getElem?_cons_succ, List.getElem?_cons_zero, Option.some.injEq] at ho2; subst ho2
        refine rg_take (v := ?_) 7 hoi (by kernel_rfl) (by kernel_rfl) (by kernel_rfl) (fun _ _ _ h => h) (by rfl) ?_ hS ?_
        rotate_left
        · intro w _; go_simp; try with_reducible rfl
        clear hoi; try simp only [Act.put, List.setIfInBounds_toArray, List.set_cons_zero, List.set_cons_succ]
        refine rg_at 8 (by decide) (fun oi hoi => ?_)
        have ho2 := hoi; simp only [List.getElem?_toArray, List.getElem?_cons_succ, List.getElem?_cons_zero, Option.some.injEq] at ho2; subst ho2
        refine rg_take (v := ?_) 8 hoi (by kernel_rfl) (by kernel_rfl) (by kernel_rfl) (fun _ _ _ h => h) (by rfl) ?_ hS ?_
        rotate_left
        · intro w hw; have hf := hQ1.out w hw; clear hw; go_simp; try with_reducible rfl
        clear hoi; try simp only [Act.put, List.setIfInBounds_toArray, List.set_cons_zero, List.set_cons_succ]
        refine rg_at 4 (by decide) (fun oi hoi => ?_)
        have ho2 := hoi; simp only [List.getElem?_toArray, List.getElem?_cons_succ, List.getElem?_cons_zero, Option.some.injEq] at ho2; subst ho2
        refine rg_call 4 (by kernel_rfl) hoi (by rfl) (fun K hK => ?_)
        clear hoi
        go_simp
        refine Calls.mono E1.out ?_
        rintro e w' ⟨rfl, hw'⟩
        subst hw'
        go_wp2_with (fail)
        refine hK.out _ _ (rfl) (fun hS => ?_)
        clear hK K
        try simp only [Act.put, List.setIfInBounds_toArray, List.set_cons_zero, List.set_cons_succ]
        refine rg_at 9 (by decide) (fun oi hoi => ?_)
        have ho2 := hoi; simp only [List.getElem?_toArray, List.getElem?_cons_succ, List.getElem?_cons_zero, Option.some.injEq] at ho2; subst ho2
        refine rg_take (v := ?_) 9 hoi (by kernel_rfl) (by kernel_rfl) (by kernel_rfl) (fun _ _ _ h => h) (by rfl) ?_ hS ?_
        rotate_left
        · intro w _; go_simp; try with_reducible rfl
        clear hoi; try simp only [Act.put, List.setIfInBounds_toArray, List.set_cons_zero, List.set_cons_succ]
        refine rg_at 10 (by decide) (fun oi hoi => ?_)
        have ho2 := hoi; simp only [List.getElem?_toArray, List.getElem?_cons_succ, List.getElem?_cons_zero, Option.some.injEq] at ho2; subst ho2
        refine rg_take (v := ?_) 10 hoi (by kernel_rfl) (by kernel_rfl) (by kernel_rfl) (fun _ _ _ h => h) (by rfl) ?_ hS ?_
        rotate_left
        · intro w _; go_simp; try with_reducible rfl
        clear hoi; try simp only [Act.put, List.setIfInBounds_toArray, List.set_cons_zero, List.set_cons_succ]
        refine rg_at 11 (by decide) (fun oi hoi => ?_)
        have ho2 := hoi; simp only [List.getElem?_toArray, List.getElem?_cons_succ, List.getElem?_cons_zero, Option.some.injEq] at ho2; subst ho2
        refine rg_take (v := ?_) 11 hoi (by kernel_rfl) (by kernel_rfl) (by kernel_rfl) (fun _ _ _ h => h) (by rfl) ?_ hS ?_
        rotate_left
        · intro w _; go_simp; try with_reducible rfl
        clear hoi; try simp only [Act.put, List.setIfInBounds_toArray, List.set_cons_zero, List.set_cons_succ]
        refine rg_at 12 (by decide) (fun oi hoi => ?_)
        have ho2 := hoi; simp only [List.getElem?_toArray, List.getElem?_cons_succ, List.getElem?_cons_zero, Option.some.injEq] at ho2; subst ho2
        refine rg_take (v := ?_) 12 hoi (by kernel_rfl) (by kernel_rfl) (by kernel_rfl) (fun _ _ _ h => h) (by rfl) ?_ hS ?_
        rotate_left
        · intro w _; go_simp; try with_reducible rfl
        clear hoi; try simp only [Act.put, List.setIfInBounds_toArray, List.set_cons_zero, List.set_cons_succ]
        refine rg_at 14 (by decide) (fun oi hoi => ?_)
        have ho2 := hoi; simp only [List.getElem?_toArray, List.getElem?_cons_succ, List.getElem?_cons_zero, Option.some.injEq] at ho2; subst ho2
        refine rg_take (v := ?_) 14 hoi (by kernel_rfl) (by kernel_rfl) (by kernel_rfl) (fun _ _ _ h => h) (by rfl) ?_ hS ?_
        rotate_left
        · intro w _; go_simp; try with_reducible rfl
        clear hoi; try simp only [Act.put, List.setIfInBounds_toArray, List.set_cons_zero, List.set_cons_succ]
        refine rg_at 15 (by decide) (fun oi hoi => ?_)
        have ho2 := hoi; simp only [List.getElem?_toArray, List.getElem?_cons_succ, List.getElem?_cons_zero, Option.some.injEq] at ho2; subst ho2
        refine rg_take (v := ?_) 15 hoi (by kernel_rfl) (by kernel_rfl) (by kernel_rfl) (fun _ _ _ h => h) (by rfl) ?_ hS ?_
        rotate_left
        · intro w _; go_simp; try with_reducible rfl
        clear hoi; try simp only [Act.put, List.setIfInBounds_toArray, List.set_cons_zero, List.set_cons_succ]
        refine rg_at 16 (by decide) (fun oi hoi => ?_)
        have ho2 := hoi; simp only [List.getElem?_toArray, List.getElem?_cons_succ, List.getElem?_cons_zero, Option.some.injEq] at ho2; subst ho2
        refine rg_take (v := ?_) 16 hoi (by kernel_rfl) (by kernel_rfl) (by kernel_rfl) (fun _ _ _ h => h) (by rfl) ?_ hS ?_
        rotate_left
        · intro w _; go_simp; try with_reducible rfl
        clear hoi; try simp only [Act.put, List.setIfInBounds_toArray, List.set_cons_zero, List.set_cons_succ]
        refine rg_at 17 (by decide) (fun oi hoi => ?_)
        have ho2 := hoi; simp only [List.getElem?_toArray, List.getElem?_cons_succ, List.getElem?_cons_zero, Option.some.injEq] at ho2; subst ho2
        refine rg_take (v := ?_) 17 hoi (by kernel_rfl) (by kernel_rfl) (by kernel_rfl) (fun _ _ _ h => h) (by rfl) ?_ hS ?_
        rotate_left
        · intro w hw; have hf := hQ0.out w hw; clear hw; go_simp; try with_reducible rfl
        clear hoi; try simp only [Act.put, List.setIfInBounds_toArray, List.set_cons_zero, List.set_cons_succ]
        refine rg_at 18 (by decide) (fun oi hoi => ?_)
        have ho2 := hoi; simp only [List.getElem?_toArray, List.getElem?_cons_succ, List.getElem?_cons_zero, Option.some.injEq] at ho2; subst ho2
        refine rg_take (v := ?_) 18 hoi (by kernel_rfl) (by kernel_rfl) (by kernel_rfl) (fun _ _ _ h => h) (by rfl) ?_ hS ?_
        rotate_left
        · intro w _; go_simp; try with_reducible rfl
        clear hoi; try simp only [Act.put, List.setIfInBounds_toArray, List.set_cons_zero, List.set_cons_succ]
        refine rg_at 13 (by decide) (fun oi hoi => ?_)
        have ho2 := hoi; simp only [List.getElem?_toArray, List.getElem?_cons_succ, List.getElem?_cons_zero, Option.some.injEq] at ho2; subst ho2
        refine rg_call 13 (by kernel_rfl) hoi (by rfl) (fun K hK => ?_)
        clear hoi
        go_simp
        refine Calls.mono E2.out ?_
        rintro e w' ⟨rfl, hw'⟩
        subst hw'
        go_wp2_with (fail)
        refine hK.out _ _ (rfl) (fun hS => ?_)
        clear hK K
        try simp only [Act.put, List.setIfInBounds_toArray, List.set_cons_zero, List.set_cons_succ]
        refine rg_at 19 (by decide) (fun oi hoi => ?_)
        have ho2 := hoi; simp only [List.getElem?_toArray, List.getElem?_cons_succ, List.getElem?_cons_zero, Option.some.injEq] at ho2; subst ho2
        refine rg_take (v := ?_) 19 hoi (by kernel_rfl) (by kernel_rfl) (by kernel_rfl) (fun _ _ _ h => h) (by rfl) ?_ hS ?_
        rotate_left
        · intro w _; go_simp; try with_reducible rfl
        clear hoi; try simp only [Act.put, List.setIfInBounds_toArray, List.set_cons_zero, List.set_cons_succ]
        refine rg_at 20 (by decide) (fun oi hoi => ?_)
        have ho2 := hoi; simp only [List.getElem?_toArray, List.getElem?_cons_succ, List.getElem?_cons_zero, Option.some.injEq] at ho2; subst ho2
        refine rg_take (v := ?_) 20 hoi (by kernel_rfl) (by kernel_rfl) (by kernel_rfl) (fun _ _ _ h => h) (by rfl) ?_ hS ?_
        rotate_left
        · intro w _; go_simp; try with_reducible rfl
        clear hoi; try simp only [Act.put, List.setIfInBounds_toArray, List.set_cons_zero, List.set_cons_succ]
        refine rg_at 21 (by decide) (fun oi hoi => ?_)
        have ho2 := hoi; simp only [List.getElem?_toArray, List.getElem?_cons_succ, List.getElem?_cons_zero, Option.some.injEq] at ho2; subst ho2
        refine rg_take (v := ?_) 21 hoi (by kernel_rfl) (by kernel_rfl) (by kernel_rfl) (fun _ _ _ h => h) (by rfl) ?_ hS ?_
        rotate_left
        · intro w _; go_simp; try with_reducible rfl
        clear hoi; try simp only [Act.put, List.setIfInBounds_toArray, List.set_cons_zero, List.set_cons_succ]
        refine rg_at 22 (by decide) (fun oi hoi => ?_)
        have ho2 := hoi; simp only [List.getElem?_toArray, List.getElem?_cons_succ, List.getElem?_cons_zero, Option.some.injEq] at ho2; subst ho2
        refine rg_take (v := ?_) 22 hoi (by kernel_rfl) (by kernel_rfl) (by kernel_rfl) (fun _ _ _ h => h) (by rfl) ?_ hS ?_
        rotate_left
        · intro w _; go_simp; try with_reducible rfl
        clear hoi; try simp only [Act.put, List.setIfInBounds_toArray, List.set_cons_zero, List.set_cons_succ]
        refine rg_at 24 (by decide) (fun oi hoi => ?_)
        have ho2 := hoi; simp only [List.getElem?_toArray, List.getElem?_cons_succ, List.getElem?_cons_zero, Option.some.injEq] at ho2; subst ho2
        refine rg_take (v := ?_) 24 hoi (by kernel_rfl) (by kernel_rfl) (by kernel_rfl) (fun _ _ _ h => h) (by rfl) ?_ hS ?_
        rotate_left
        · intro w _; go_simp; try with_reducible rfl
        clear hoi; try simp only [Act.put, List.setIfInBounds_toArray, List.set_cons_zero, List.set_cons_succ]
        refine rg_at 23 (by decide) (fun oi hoi => ?_)
        have ho2 := hoi; simp only [List.getElem?_toArray, List.getElem?_cons_succ, List.getElem?_cons_zero, Option.some.injEq] at ho2; subst ho2
        refine rg_call 23 (by kernel_rfl) hoi (by rfl) (fun K hK => ?_)
        clear hoi
        go_simp
        refine Calls.mono E3.out ?_
        rintro e w' ⟨rfl, hw'⟩
        subst hw'
        go_wp2_with (fail)
        refine hK.out _ _ (rfl) (fun hS => ?_)
        clear hK K
        try simp only [Act.put, List.setIfInBounds_toArray, List.set_cons_zero, List.set_cons_succ]
        refine rg_at 25 (by decide) (fun oi hoi => ?_)
        have ho2 := hoi; simp only [List.getElem?_toArray, List.getElem?_cons_succ, List.getElem?_cons_zero, Option.some.injEq] at ho2; subst ho2
        refine rg_call 25 (by kernel_rfl) hoi (by rfl) (fun K hK => ?_)
        clear hoi
        go_simp
        refine Calls.mono E4.out ?_
        rintro e w' ⟨rfl, hw'⟩
        subst hw'
        go_wp2_with (fail)
        refine hK.out _ _ (rfl) (fun hS => ?_)
        clear hK K
        try simp only [Act.put, List.setIfInBounds_toArray, List.set_cons_zero, List.set_cons_succ]
        refine rg_at 26 (by decide) (fun oi hoi => ?_)
        have ho2 := hoi; simp only [List.getElem?_toArray, List.getElem?_cons_succ, List.getElem?_cons_zero, Option.some.injEq] at ho2; subst ho2
        refine rg_take (v := ?_) 26 hoi (by kernel_rfl) (by kernel_rfl) (by kernel_rfl) (fun _ _ _ h => h) (by rfl) ?_ hS ?_
        rotate_left
        · intro w _; go_simp; try with_reducible rfl
        clear hoi; try simp only [Act.put, List.setIfInBounds_toArray, List.set_cons_zero, List.set_cons_succ]
        refine rg_at 27 (by decide) (fun oi hoi => ?_)
        have ho2 := hoi; simp only [List.getElem?_toArray, List.getElem?_cons_succ, List.getElem?_cons_zero, Option.some.injEq] at ho2; subst ho2
        refine rg_take (v := ?_) 27 hoi (by kernel_rfl) (by kernel_rfl) (by kernel_rfl) (fun _ _ _ h => h) (by rfl) ?_ hS ?_
        rotate_left
        · intro w _; go_simp; try with_reducible rfl
        clear hoi; try simp only [Act.put, List.setIfInBounds_toArray, List.set_cons_zero, List.set_cons_succ]
        refine wpAnyH_done (by kernel_rfl) ?_ _
        go_wp2
        go_roundw
        case rel => exact ⟨j + 1, by omega, by go_num, hal2.out⟩
        case measure => simp [intOf]; omega
    · go_wp2
      go_ret
      obtain ⟨F, G, A4, A5, c4, c5, l4, bd4, h1, h2, h3, h4, h5⟩ := hal'
      exact ⟨rfl, hb23.trans (h5.below hb23.size (by rintro k (rfl | rfl) <;> omega))⟩
theorem reads_law (A B : Option Addr) (c d : Nat) (l m : List Int) (w : World) (hr : Rn w .u8 A l) (hc : l.length ≤ c) (hl : c * Try.prog.bytesOf 5 ≤ 140737488351232) (hb : ∀ x ∈ l, (Lit.int .u8 x).wf = true)
    (hro : Rn w .u8 B m) (hd : m.length ≤ d) (hlo : d * Try.prog.bytesOf 5 ≤ 140737488351232) (hbo : ∀ x ∈ m, (Lit.int .u8 x).wf = true) :
    Calls Try.prog 7 #[.slice A l.length c, .slice B m.length d] w fun e w' => e = .returned (.bool true) ∧ Below w.heap.size w w' := by
  rw [Co.bytes_one] at hl hlo
  exact reads A B c d l m w hr hc (by omega) (Co.byte_of hb) hro hd (by omega) (Co.byte_of hbo)
end Go.Proofs.Ytlghblpkgmajeaa.Cd
