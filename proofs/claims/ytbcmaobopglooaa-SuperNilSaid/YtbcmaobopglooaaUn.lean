/-
  The walk of SuperNil.
-/
import Derived.Test.YtbcmaobopglooaaUw
set_option linter.unusedVariables false
set_option linter.unusedSimpArgs false
namespace Go.Proofs.Ytbcmaobopglooaa.Up
open Go.RowKit Go.Proofs.Ytbcmaobopglooaa.B Go.Proofs.Ytbcmaobopglooaa.Cm Go.Proofs.Ytbcmaobopglooaa.Sm Go.Proofs.Ytbcmaobopglooaa.Dk
/-- A slice of bytes of the call's own, which may be written; no block of G. -/
def Xs (w W : World) (G : Nat → Prop) (A : Option Addr) (n : Nat) : Prop := 0 < n → ∃ g cs, A = some ⟨g, 0, none⟩ ∧ w.heap.size ≤ g ∧ ¬ G g ∧ Blk W g 5 cs ∧ ∀ i, i < n → ∃ y, cs[i]? = some (.int .u8 y)
theorem Xs.of_own {w W : World} {G : Nat → Prop} {A : Option Addr} {c base : Nat} {l : List Int} (h : W.ownsRow base 5 1 (.slice A l.length c) l.length (nums .u8 l)) (hb : w.heap.size ≤ base) (hG : ∀ g, (Value.slice A l.length c).ownBlock = some g → ¬ G g) : Xs w W G A l.length := fun h0 => by
  obtain ⟨g, cap, hv, hbase, hlt⟩ := h.form h0
  have hA : A = some ⟨g, 0, none⟩ := by injection hv
  subst hA
  obtain ⟨cs, hcs⟩ := own_blk h (k := g) rfl
  refine ⟨g, cs, rfl, by omega, hG g rfl, hcs, fun i hi => ⟨gi l i, ?_⟩⟩
  have h1 := h.cells (g := g) rfl i _ (nums_get .u8 l i hi)
  rw [add_plain, hcs.cell] at h1
  exact h1
theorem Xs.upd {w W W' : World} {G H : Nat → Prop} {A : Option Addr} {n : Nat} (h : Xs w W G A n) (hu : Upd H W W') (hH : ∀ k, H k → G k) : Xs w W' G A n := fun h0 => by
  obtain ⟨g, cs, h1, h2, h3, h4, h5⟩ := h h0
  exact ⟨g, cs, h1, h2, h3, h4.upd hu fun hk => h3 (hH g hk), h5⟩
theorem Xs.put {w W : World} {G : Nat → Prop} {g n : Nat} (h : Xs w W G (some ⟨g, 0, none⟩) n) (i : Nat) (z : Int) : Xs w (W.setCell ⟨g, i, none⟩ (.int .u8 z)) G (some ⟨g, 0, none⟩) n := fun h0 => by
  obtain ⟨g', cs, h1, h2, h3, h4, h5⟩ := h h0
  obtain rfl : g = g' := by injection h1 with h1; injection h1
  refine ⟨g, _, rfl, h2, h3, h4.put i _, fun k hk => ?_⟩
  by_cases hik : i = k
  · subst hik
    obtain ⟨y, hy⟩ := h5 i hk
    have hlt : i < cs.size := (Array.getElem?_eq_some_iff.1 hy).1
    exact ⟨z, by rw [Array.getElem?_setIfInBounds_self_of_lt hlt]⟩
  · obtain ⟨y, hy⟩ := h5 k hk
    exact ⟨y, by rw [Array.getElem?_setIfInBounds_ne hik]; exact hy⟩
theorem Pr.far {w W W' : World} {F D : Nat → Prop} {q p g : Nat} {m : Su} {d : Dm} (h : Pr w W F D q p m d) (hu : Upd (fun k => k = g) W W') (hg : w.heap.size ≤ g) (hn : ¬ (F g ∨ D g)) : Pr w W' F D q p m d :=
  ⟨h.sp.upd hu fun k hk e => hn (.inl (e ▸ hk)), h.dk.upd hu fun k hk e => hn (.inr (e ▸ hk)), h.fd, h.own, h.bel.trans (hu.below h.bel.size fun k hk => hk ▸ hg)⟩
set_option maxHeartbeats 8000000 in
set_option maxRecDepth 100000 in
theorem nils_law (A : Option Addr) (c : Nat) (l : List Int) (w : World) (hr : Rn w .u8 A l) (hc : l.length ≤ c ∧ c ≤ 9223372036854775807) (hby : Byte l) :
    Calls Try.prog 3 #[.slice A l.length c] w fun e w' => e = .returned (.bool true) ∧ Below w.heap.size w w' := by
  by_cases h20 : (200 : Int) < (l.length : Int)
  · go_enter Try.func3, Try.ntmps3
    go_wp2_with (fail)
    refine Calls.mono (awake w) ?_
    rintro e w1 ⟨rfl, hb1⟩
    have HB1 := hid hb1
    clear hb1
    go_wp2_with (fail)
    refine Calls.mono (awake w1) ?_
    rintro e w2 ⟨rfl, hb2⟩
    have HB2 := hid (HB1.out.trans (hb2.mono HB1.out.size))
    clear hb2
    go_wp2
    go_ret
    exact ⟨rfl, HB2.out⟩
  have hln : l.length ≤ 200 := by omega
  have HR := hid fun W (hu : Below w.heap.size w W) => show Rn W .u8 A l from Rd.upd hr (by omega) (Upd.of_below No hu) fun _ _ => no_ _
  have HBy := hid hby
  have HV0 := hid (Vd.new (nb := 2) (by omega) (by omega))
  have HV1 := hid (HV0.out.add (u := l) (by simp) hln hby)
  have HSv := hid (HV0.out.saves hby)
  rw [if_neg (by omega)] at HSv
  clear hr hby
  go_enter Try.func3, Try.ntmps3
  go_wp2_with (fail)
  refine Calls.mono (awake w) ?_
  rintro e w1 ⟨rfl, hb1⟩
  have HB1 := hid hb1
  clear hb1
  go_wp2_with (fail)
  refine Calls.mono (open_nil w1) ?_
  rintro e w1' ⟨rfl, rfl⟩
  have HND := hid (new_disk 2 w w1 HB1.out (by omega))
  go_wp2_with (fail)
  refine HND.out.mono ?_
  rintro e w2 ⟨p, D0, rfl, hd2⟩
  have HO := hid (open_pd (nb := 2) (ps := []) hd2 HV0.out)
  clear hd2 HND
  go_wp2_with (fail)
  refine HO.out.mono ?_
  rintro e w3 ⟨q, F0, rfl, hp3, _, _⟩
  have HP3 := hid hp3
  have HR3 := hid (HR.out w3 hp3.bel)
  clear hp3 HO HB1
  go_wp2_with (at_builtin; go_must (refine ap_row w3.heap.size rfl (.tmp 29) (.tmp 30) 22 5 (.int .u8 0) 1 1 rfl Try.underlying22 Sw.u8_info rfl (by omega) (.slice (some ⟨w3.heap.size, 0, none⟩) 0 0) 0 [] A l.length c (nums .u8 l) rfl rfl (World.ownsRow_made w3 #[] 0 (Nat.le_refl _) (Nat.zero_le _) rfl) (Rd.alloc HR3.out (by omega) _) (nums_one _ _) (by omega) (by omega) (by simp) ?_); intro A4 c4 w4 ho4 hg4 hat4)
  have hb4 : Below w3.heap.size w3 w4 := ((Below.refl _ _).alloc (Nat.le_refl _) _).grown hg4 (by simp) fun k hk => by
    have : w3.heap.size = k := by simpa [Value.ownBlock] using hk
    omega
  rw [Nat.zero_add, List.nil_append] at ho4
  have HP4 := hid (HP3.out.quiet (Upd.of_below No hb4))
  obtain ⟨_, _, hsv, hc41, hc42⟩ := own_shape ho4
  simp only [Value.slice.injEq, true_and, Nat.zero_add] at hsv
  obtain ⟨rfl, rfl⟩ := hsv
  simp only [maxLen] at hc42
  have HO4 := hid ho4
  have hS := save (q := q) (p := p) (m := mOf []) (d := dOf 2 []) F0 D0 A4 c4 l w4 HP4.out.sp HP4.out.dk HP4.out.fd (Rn_of_own (own_base ho4 (Nat.le_refl _))) ⟨hc41, by omega⟩ (fun h0 ad e => by
    have h1 := ho4.lt ad.block (by simp [Value.ownBlock, e])
    exact ⟨fun h => by have := HP3.out.dk.lt _ h; omega, fun h => by have := HP3.out.sp.lt _ h; omega⟩) HBy.out HV0.out.ok (by simp [mOf]) HV0.out.dok (by simp [dOf, logOf])
  rw [HSv.out] at hS
  have HS := hid hS
  have HW4 : Hid (w.heap.size ≤ w3.heap.size) := hid HP3.out.bel.size
  clear hb4 ho4 hg4 hat4 hS HR3
  try rw [Nat.zero_add]
  go_wp2_with (fail)
  refine HS.out.mono ?_
  rintro e w5 ⟨rfl, ha⟩
  obtain ⟨F5, D5, hp5, hs5⟩ := HP4.out.moved ha
  have ho5 : w5.ownsRow w3.heap.size 5 1 (.slice A4 l.length c4) l.length (nums .u8 l) := own_upd HO4.out ha.2 fun g hg h => by
    have h1 := HO4.out.lt g hg
    rcases h with h | h
    · have := HP3.out.sp.lt g h; omega
    · have := HP3.out.dk.lt g h; omega
  have HX5 : Hid (Xs w w5 (fun k => F5 k ∨ D5 k) A4 l.length) := hid (Xs.of_own ho5 HW4.out fun g hg h => by
    have h1 := HO4.out.lt g hg
    rcases hs5 g h with h | h
    · rcases h with h | h
      · have := HP3.out.sp.lt g h; omega
      · have := HP3.out.dk.lt g h; omega
    · omega)
  have HP5 := hid hp5
  clear ha hp5 hs5 ho5 HO4 HS
  have hm1 : mOf ([] ++ [l]) = ⟨1, l, false⟩ := rfl
  rw [hm1] at HP5
  have HOk : Hid (Su.ok ⟨1, l, false⟩) := hid (hm1 ▸ HV1.out.ok)
  generalize dOf 2 ([] ++ [l]) = d1 at *
  clear hm1 HV1 HSv HP4
  have hle := Nat.le_refl l.length
  go_wp2_with (fail)
  go_loopw [37] (fun v37 W => ∃ j : Nat, j ≤ l.length ∧ v37 = .int .i64 j ∧ Hid (Pr w W F5 D5 q p ⟨1, l, false⟩ d1 ∧ Xs w W (fun k => F5 k ∨ D5 k) A4 l.length)) (fun v37 _ => l.length - (intOf v37).toNat)
  case atStart => exact ⟨0, by omega, rfl, hid ⟨HP5.out, HX5.out⟩⟩
  case round =>
    clear HP5 HX5
    obtain ⟨j, hj, rfl, HW⟩ := hrel
    by_cases hlt : j < l.length
    · obtain ⟨g, cs, rfl, hg1, hg2, hblk, hcell⟩ := HW.out.2 (by omega)
      obtain ⟨y, hy⟩ := hcell j hlt
      have hcx : wr.cell? ⟨g, j, none⟩ = some (.int .u8 y) := by rw [hblk.cell]; exact hy
      have hfx := hblk.free j
      have HN : Hid (∀ z, Pr w (wr.setCell ⟨g, j, none⟩ (.int .u8 z)) F5 D5 q p ⟨1, l, false⟩ d1 ∧ Xs w (wr.setCell ⟨g, j, none⟩ (.int .u8 z)) (fun k => F5 k ∨ D5 k) (some ⟨g, 0, none⟩) l.length) := hid fun z => ⟨HW.out.1.far ((Upd.refl _ _).set1 _ _) hg1 hg2, HW.out.2.put j z⟩
      have hj2 : (j : Int) < (l.length : Int) := by omega
      have hj1 : (0 : Int) ≤ (j : Int) := by omega
      clear hblk hcell hy hg1 hg2
      go_wp2
      go_roundw
      case rel => exact ⟨j + 1, by omega, by go_num, hid (HN.out _)⟩
      case measure => simp [intOf]; omega
    · obtain rfl : j = l.length := by omega
      obtain ⟨wo, rfl⟩ : ∃ wo : World, wo = wr := ⟨_, rfl⟩
      have hpy := payload wo F5 q p _ HW.out.1.sp HOk.out
      unfold NewB at hpy
      simp only at hpy
      have HPy := hid hpy
      clear hpy
      go_wp2_with (fail)
      refine HPy.out.mono ?_
      rintro e w7 ⟨A7, c7, rfl, ho7, hu7⟩
      have HP7 := hid (HW.out.1.quiet hu7)
      have HX7 : Hid (Xs w w7 (fun k => F5 k ∨ D5 k) A7 l.length) := hid (Xs.of_own ho7 HW.out.1.bel.size fun g hg h => by
        have h1 := ho7.lt g hg
        rcases h with h | h
        · have := HW.out.1.sp.lt g h; omega
        · have := HW.out.1.dk.lt g h; omega)
      clear ho7 hu7 HPy HW
      go_wp2_with (fail)
      go_loopw [51] (fun v51 W => ∃ j : Nat, j ≤ l.length ∧ v51 = .int .i64 j ∧ Hid (Pr w W F5 D5 q p ⟨1, l, false⟩ d1 ∧ Xs w W (fun k => F5 k ∨ D5 k) A7 l.length)) (fun v51 _ => l.length - (intOf v51).toNat)
      case atStart => exact ⟨0, by omega, rfl, hid ⟨HP7.out, HX7.out⟩⟩
      case round =>
        clear HP7 HX7
        obtain ⟨j, hj, rfl, HW⟩ := hrel
        by_cases hlt : j < l.length
        · obtain ⟨g, cs, rfl, hg1, hg2, hblk, hcell⟩ := HW.out.2 (by omega)
          obtain ⟨y, hy⟩ := hcell j hlt
          have hcx : wr.cell? ⟨g, j, none⟩ = some (.int .u8 y) := by rw [hblk.cell]; exact hy
          have hfx := hblk.free j
          have HN : Hid (∀ z, Pr w (wr.setCell ⟨g, j, none⟩ (.int .u8 z)) F5 D5 q p ⟨1, l, false⟩ d1 ∧ Xs w (wr.setCell ⟨g, j, none⟩ (.int .u8 z)) (fun k => F5 k ∨ D5 k) (some ⟨g, 0, none⟩) l.length) := hid fun z => ⟨HW.out.1.far ((Upd.refl _ _).set1 _ _) hg1 hg2, HW.out.2.put j z⟩
          have hj2 : (j : Int) < (l.length : Int) := by omega
          have hj1 : (0 : Int) ≤ (j : Int) := by omega
          clear hblk hcell hy hg1 hg2
          go_wp2
          go_roundw
          case rel => exact ⟨j + 1, by omega, by go_num, hid (HN.out _)⟩
          case measure => simp [intOf]; omega
        · obtain rfl : j = l.length := by omega
          obtain ⟨w4, rfl⟩ : ∃ w4 : World, w4 = wr := ⟨_, rfl⟩
          have HPy : Hid (∀ W, Upd No w4 W → Calls Try.prog 11 #[.pointer (some ⟨q, 0, none⟩)] W fun e W' => NewB W l e W') := hid fun W hu => payload W F5 q p _ (HW.out.1.quiet hu).sp HOk.out
          unfold NewB at HPy
          have HCb : Hid (∀ W, Upd No w4 W → (convert 22 9 (.slice A l.length c)).run Try.prog W = .ok (.string (strOfNums l)) W) := hid fun W hu => conv_str (P := Try.prog) (HR.out W (HW.out.1.quiet hu).bel) 22 9 5 c Try.underlying22 Try.underlying5 Try.underlying9
          go_wp2_with (fail)
          refine wp_region_held_drew (S := fun W => Upd No w4 W) (by kernel_rfl) (Upd.refl _ _).drew (fun hS => ?_)
          refine rg_at 0 (by decide) (fun oi hoi => ?_)
          have ho2 := hoi; simp only [List.getElem?_toArray, List.getElem?_cons_succ, List.getElem?_cons_zero, Option.some.injEq] at ho2; subst ho2
          refine rg_take (v := ?_) 0 hoi (by kernel_rfl) (by kernel_rfl) (by kernel_rfl) (fun _ _ _ h => h) (by rfl) ?_ hS ?_
          rotate_left
          · intro w _; go_simp; try with_reducible rfl
          clear hoi; try simp only [Act.put, List.setIfInBounds_toArray, List.set_cons_zero, List.set_cons_succ]
          refine rg_at 1 (by decide) (fun oi hoi => ?_)
          have ho2 := hoi; simp only [List.getElem?_toArray, List.getElem?_cons_succ, List.getElem?_cons_zero, Option.some.injEq] at ho2; subst ho2
          refine rg_take (v := ?_) 1 hoi (by kernel_rfl) (by kernel_rfl) (by kernel_rfl) (fun _ _ _ h => h) (by rfl) ?_ hS ?_
          rotate_left
          · intro w _; go_simp; try with_reducible rfl
          clear hoi; try simp only [Act.put, List.setIfInBounds_toArray, List.set_cons_zero, List.set_cons_succ]
          refine rg_at 2 (by decide) (fun oi hoi => ?_)
          have ho2 := hoi; simp only [List.getElem?_toArray, List.getElem?_cons_succ, List.getElem?_cons_zero, Option.some.injEq] at ho2; subst ho2
          refine rg_take (v := ?_) 2 hoi (by kernel_rfl) (by kernel_rfl) (by kernel_rfl) (fun _ _ _ h => h) (by rfl) ?_ hS ?_
          rotate_left
          · intro w _; go_simp; try with_reducible rfl
          clear hoi; try simp only [Act.put, List.setIfInBounds_toArray, List.set_cons_zero, List.set_cons_succ]
          refine rg_at 3 (by decide) (fun oi hoi => ?_)
          have ho2 := hoi; simp only [List.getElem?_toArray, List.getElem?_cons_succ, List.getElem?_cons_zero, Option.some.injEq] at ho2; subst ho2
          refine rg_take (v := ?_) 3 hoi (by kernel_rfl) (by kernel_rfl) (by kernel_rfl) (fun _ _ _ h => h) (by rfl) ?_ hS ?_
          rotate_left
          · intro w _; go_simp; try with_reducible rfl
          clear hoi; try simp only [Act.put, List.setIfInBounds_toArray, List.set_cons_zero, List.set_cons_succ]
          refine rg_at 4 (by decide) (fun oi hoi => ?_)
          have ho2 := hoi; simp only [List.getElem?_toArray, List.getElem?_cons_succ, List.getElem?_cons_zero, Option.some.injEq] at ho2; subst ho2
          refine rg_take (v := ?_) 4 hoi (by kernel_rfl) (by kernel_rfl) (by kernel_rfl) (fun _ _ _ h => h) (by rfl) ?_ hS ?_
          rotate_left
          · intro w _; go_simp; try with_reducible rfl
          clear hoi; try simp only [Act.put, List.setIfInBounds_toArray, List.set_cons_zero, List.set_cons_succ]
          refine rg_at 5 (by decide) (fun oi hoi => ?_)
          have ho2 := hoi; simp only [List.getElem?_toArray, List.getElem?_cons_succ, List.getElem?_cons_zero, Option.some.injEq] at ho2; subst ho2
          refine rg_take (v := ?_) 5 hoi (by kernel_rfl) (by kernel_rfl) (by kernel_rfl) (fun _ _ _ h => h) (by rfl) ?_ hS ?_
          rotate_left
          · intro w _; go_simp; try with_reducible rfl
          clear hoi; try simp only [Act.put, List.setIfInBounds_toArray, List.set_cons_zero, List.set_cons_succ]
          refine rg_at 6 (by decide) (fun oi hoi => ?_)
          have ho2 := hoi; simp only [List.getElem?_toArray, List.getElem?_cons_succ, List.getElem?_cons_zero, Option.some.injEq] at ho2; subst ho2
          refine rg_take (v := ?_) 6 hoi (by kernel_rfl) (by kernel_rfl) (by kernel_rfl) (fun _ _ _ h => h) (by rfl) ?_ hS ?_
          rotate_left
          · intro w _; go_simp; try with_reducible rfl
          clear hoi; try simp only [Act.put, List.setIfInBounds_toArray, List.set_cons_zero, List.set_cons_succ]
          refine rg_at 7 (by decide) (fun oi hoi => ?_)
          have ho2 := hoi; simp only [List.getElem?_toArray, List.getElem?_cons_succ, List.getElem?_cons_zero, Option.some.injEq] at ho2; subst ho2
          refine rg_take (v := ?_) 7 hoi (by kernel_rfl) (by kernel_rfl) (by kernel_rfl) (fun _ _ _ h => h) (by rfl) ?_ hS ?_
          rotate_left
          · intro w _; go_simp; try with_reducible rfl
          clear hoi; try simp only [Act.put, List.setIfInBounds_toArray, List.set_cons_zero, List.set_cons_succ]
          refine rg_at 8 (by decide) (fun oi hoi => ?_)
          have ho2 := hoi; simp only [List.getElem?_toArray, List.getElem?_cons_succ, List.getElem?_cons_zero, Option.some.injEq] at ho2; subst ho2
          refine rg_call 8 (by kernel_rfl) hoi (by rfl) (fun K hK => ?_)
          clear hoi
          go_simp
          refine Calls.mono (generation_nil _) ?_
          rintro e w5 ⟨rfl, rfl⟩
          go_wp2_with (fail)
          refine hK.out _ _ ((by exact hS)) (fun hS => ?_)
          clear hK K
          try simp only [Act.put, List.setIfInBounds_toArray, List.set_cons_zero, List.set_cons_succ]
          refine rg_at 9 (by decide) (fun oi hoi => ?_)
          have ho2 := hoi; simp only [List.getElem?_toArray, List.getElem?_cons_succ, List.getElem?_cons_zero, Option.some.injEq] at ho2; subst ho2
          refine rg_take (v := ?_) 9 hoi (by kernel_rfl) (by kernel_rfl) (by kernel_rfl) (fun _ _ _ h => h) (by rfl) ?_ hS ?_
          rotate_left
          · intro w _; go_simp; try with_reducible rfl
          clear hoi; try simp only [Act.put, List.setIfInBounds_toArray, List.set_cons_zero, List.set_cons_succ]
          refine rg_at 10 (by decide) (fun oi hoi => ?_)
          have ho2 := hoi; simp only [List.getElem?_toArray, List.getElem?_cons_succ, List.getElem?_cons_zero, Option.some.injEq] at ho2; subst ho2
          refine rg_take (v := ?_) 10 hoi (by kernel_rfl) (by kernel_rfl) (by kernel_rfl) (fun _ _ _ h => h) (by rfl) ?_ hS ?_
          rotate_left
          · intro w _; go_simp; try with_reducible rfl
          clear hoi; try simp only [Act.put, List.setIfInBounds_toArray, List.set_cons_zero, List.set_cons_succ]
          refine rg_at 11 (by decide) (fun oi hoi => ?_)
          have ho2 := hoi; simp only [List.getElem?_toArray, List.getElem?_cons_succ, List.getElem?_cons_zero, Option.some.injEq] at ho2; subst ho2
          refine rg_take (v := ?_) 11 hoi (by kernel_rfl) (by kernel_rfl) (by kernel_rfl) (fun _ _ _ h => h) (by rfl) ?_ hS ?_
          rotate_left
          · intro w _; go_simp; try with_reducible rfl
          clear hoi; try simp only [Act.put, List.setIfInBounds_toArray, List.set_cons_zero, List.set_cons_succ]
          refine rg_at 12 (by decide) (fun oi hoi => ?_)
          have ho2 := hoi; simp only [List.getElem?_toArray, List.getElem?_cons_succ, List.getElem?_cons_zero, Option.some.injEq] at ho2; subst ho2
          refine rg_take (v := ?_) 12 hoi (by kernel_rfl) (by kernel_rfl) (by kernel_rfl) (fun _ _ _ h => h) (by rfl) ?_ hS ?_
          rotate_left
          · intro w _; go_simp; try with_reducible rfl
          clear hoi; try simp only [Act.put, List.setIfInBounds_toArray, List.set_cons_zero, List.set_cons_succ]
          refine rg_at 13 (by decide) (fun oi hoi => ?_)
          have ho2 := hoi; simp only [List.getElem?_toArray, List.getElem?_cons_succ, List.getElem?_cons_zero, Option.some.injEq] at ho2; subst ho2
          refine rg_call 13 (by kernel_rfl) hoi (by rfl) (fun K hK => ?_)
          clear hoi
          go_simp
          refine Calls.mono (payload_nil _) ?_
          rintro e w5 ⟨rfl, rfl⟩
          go_wp2_with (fail)
          refine hK.out _ _ ((by exact hS)) (fun hS => ?_)
          clear hK K
          try simp only [Act.put, List.setIfInBounds_toArray, List.set_cons_zero, List.set_cons_succ]
          refine rg_at 14 (by decide) (fun oi hoi => ?_)
          have ho2 := hoi; simp only [List.getElem?_toArray, List.getElem?_cons_succ, List.getElem?_cons_zero, Option.some.injEq] at ho2; subst ho2
          refine rg_take (v := ?_) 14 hoi (by kernel_rfl) (by kernel_rfl) (by kernel_rfl) (fun _ _ _ h => h) (by rfl) ?_ hS ?_
          rotate_left
          · intro w _; go_simp; try with_reducible rfl
          clear hoi; try simp only [Act.put, List.setIfInBounds_toArray, List.set_cons_zero, List.set_cons_succ]
          refine rg_at 15 (by decide) (fun oi hoi => ?_)
          have ho2 := hoi; simp only [List.getElem?_toArray, List.getElem?_cons_succ, List.getElem?_cons_zero, Option.some.injEq] at ho2; subst ho2
          refine rg_take (v := ?_) 15 hoi (by kernel_rfl) (by kernel_rfl) (by kernel_rfl) (fun _ _ _ h => h) (by rfl) ?_ hS ?_
          rotate_left
          · intro w _; go_simp; try with_reducible rfl
          clear hoi; try simp only [Act.put, List.setIfInBounds_toArray, List.set_cons_zero, List.set_cons_succ]
          refine rg_at 16 (by decide) (fun oi hoi => ?_)
          have ho2 := hoi; simp only [List.getElem?_toArray, List.getElem?_cons_succ, List.getElem?_cons_zero, Option.some.injEq] at ho2; subst ho2
          refine rg_take (v := ?_) 16 hoi (by kernel_rfl) (by kernel_rfl) (by kernel_rfl) (fun _ _ _ h => h) (by rfl) ?_ hS ?_
          rotate_left
          · intro w _; go_simp; try with_reducible rfl
          clear hoi; try simp only [Act.put, List.setIfInBounds_toArray, List.set_cons_zero, List.set_cons_succ]
          refine rg_at 17 (by decide) (fun oi hoi => ?_)
          have ho2 := hoi; simp only [List.getElem?_toArray, List.getElem?_cons_succ, List.getElem?_cons_zero, Option.some.injEq] at ho2; subst ho2
          refine rg_take (v := ?_) 17 hoi (by kernel_rfl) (by kernel_rfl) (by kernel_rfl) (fun _ _ _ h => h) (by rfl) ?_ hS ?_
          rotate_left
          · intro w _; go_simp; try with_reducible rfl
          clear hoi; try simp only [Act.put, List.setIfInBounds_toArray, List.set_cons_zero, List.set_cons_succ]
          refine rg_at 18 (by decide) (fun oi hoi => ?_)
          have ho2 := hoi; simp only [List.getElem?_toArray, List.getElem?_cons_succ, List.getElem?_cons_zero, Option.some.injEq] at ho2; subst ho2
          refine rg_take (v := ?_) 18 hoi (by kernel_rfl) (by kernel_rfl) (by kernel_rfl) (fun _ _ _ h => h) (by rfl) ?_ hS ?_
          rotate_left
          · intro w _; go_simp; try with_reducible rfl
          clear hoi; try simp only [Act.put, List.setIfInBounds_toArray, List.set_cons_zero, List.set_cons_succ]
          refine rg_at 19 (by decide) (fun oi hoi => ?_)
          have ho2 := hoi; simp only [List.getElem?_toArray, List.getElem?_cons_succ, List.getElem?_cons_zero, Option.some.injEq] at ho2; subst ho2
          refine rg_take (v := ?_) 19 hoi (by kernel_rfl) (by kernel_rfl) (by kernel_rfl) (fun _ _ _ h => h) (by rfl) ?_ hS ?_
          rotate_left
          · intro w _; go_simp; try with_reducible rfl
          clear hoi; try simp only [Act.put, List.setIfInBounds_toArray, List.set_cons_zero, List.set_cons_succ]
          refine rg_at 20 (by decide) (fun oi hoi => ?_)
          have ho2 := hoi; simp only [List.getElem?_toArray, List.getElem?_cons_succ, List.getElem?_cons_zero, Option.some.injEq] at ho2; subst ho2
          refine rg_call 20 (by kernel_rfl) hoi (by rfl) (fun K hK => ?_)
          clear hoi
          go_simp
          refine Calls.mono (save_nil _ _) ?_
          rintro e w5 ⟨rfl, rfl⟩
          go_wp2_with (fail)
          refine hK.out _ _ ((by exact hS)) (fun hS => ?_)
          clear hK K
          try simp only [Act.put, List.setIfInBounds_toArray, List.set_cons_zero, List.set_cons_succ]
          refine rg_at 21 (by decide) (fun oi hoi => ?_)
          have ho2 := hoi; simp only [List.getElem?_toArray, List.getElem?_cons_succ, List.getElem?_cons_zero, Option.some.injEq] at ho2; subst ho2
          refine rg_take (v := ?_) 21 hoi (by kernel_rfl) (by kernel_rfl) (by kernel_rfl) (fun _ _ _ h => h) (by rfl) ?_ hS ?_
          rotate_left
          · intro w _; go_simp; try with_reducible rfl
          clear hoi; try simp only [Act.put, List.setIfInBounds_toArray, List.set_cons_zero, List.set_cons_succ]
          refine rg_at 22 (by decide) (fun oi hoi => ?_)
          have ho2 := hoi; simp only [List.getElem?_toArray, List.getElem?_cons_succ, List.getElem?_cons_zero, Option.some.injEq] at ho2; subst ho2
          refine rg_take (v := ?_) 22 hoi (by kernel_rfl) (by kernel_rfl) (by kernel_rfl) (fun _ _ _ h => h) (by rfl) ?_ hS ?_
          rotate_left
          · intro w _; go_simp; try with_reducible rfl
          clear hoi; try simp only [Act.put, List.setIfInBounds_toArray, List.set_cons_zero, List.set_cons_succ]
          refine rg_at 23 (by decide) (fun oi hoi => ?_)
          have ho2 := hoi; simp only [List.getElem?_toArray, List.getElem?_cons_succ, List.getElem?_cons_zero, Option.some.injEq] at ho2; subst ho2
          refine rg_take (v := ?_) 23 hoi (by kernel_rfl) (by kernel_rfl) (by kernel_rfl) (fun _ _ _ h => h) (by rfl) ?_ hS ?_
          rotate_left
          · intro w _; go_simp; try with_reducible rfl
          clear hoi; try simp only [Act.put, List.setIfInBounds_toArray, List.set_cons_zero, List.set_cons_succ]
          refine rg_at 24 (by decide) (fun oi hoi => ?_)
          have ho2 := hoi; simp only [List.getElem?_toArray, List.getElem?_cons_succ, List.getElem?_cons_zero, Option.some.injEq] at ho2; subst ho2
          refine rg_take (v := ?_) 24 hoi (by kernel_rfl) (by kernel_rfl) (by kernel_rfl) (fun _ _ _ h => h) (by rfl) ?_ hS ?_
          rotate_left
          · intro w _; go_simp; try with_reducible rfl
          clear hoi; try simp only [Act.put, List.setIfInBounds_toArray, List.set_cons_zero, List.set_cons_succ]
          refine rg_at 27 (by decide) (fun oi hoi => ?_)
          have ho2 := hoi; simp only [List.getElem?_toArray, List.getElem?_cons_succ, List.getElem?_cons_zero, Option.some.injEq] at ho2; subst ho2
          refine rg_take (v := ?_) 27 hoi (by kernel_rfl) (by kernel_rfl) (by kernel_rfl) (fun _ _ _ h => h) (by rfl) ?_ hS ?_
          rotate_left
          · intro w _; go_simp; try with_reducible rfl
          clear hoi; try simp only [Act.put, List.setIfInBounds_toArray, List.set_cons_zero, List.set_cons_succ]
          refine rg_at 28 (by decide) (fun oi hoi => ?_)
          have ho2 := hoi; simp only [List.getElem?_toArray, List.getElem?_cons_succ, List.getElem?_cons_zero, Option.some.injEq] at ho2; subst ho2
          refine rg_take (v := ?_) 28 hoi (by kernel_rfl) (by kernel_rfl) (by kernel_rfl) (fun _ _ _ h => h) (by rfl) ?_ hS ?_
          rotate_left
          · intro w hw; have hf := HCb.out w hw; clear hw; go_simp; try with_reducible rfl
          clear hoi; try simp only [Act.put, List.setIfInBounds_toArray, List.set_cons_zero, List.set_cons_succ]
          refine rg_at 25 (by decide) (fun oi hoi => ?_)
          have ho2 := hoi; simp only [List.getElem?_toArray, List.getElem?_cons_succ, List.getElem?_cons_zero, Option.some.injEq] at ho2; subst ho2
          refine rg_call 25 (by kernel_rfl) hoi (by rfl) (fun K hK => ?_)
          clear hoi
          go_simp
          refine Calls.mono (HPy.out _ hS) ?_
          rintro e w6 ⟨A6, c6, rfl, ho6, hu6⟩
          have hcv6 := conv_str (P := Try.prog) (Rn_of_own ho6) 22 9 5 c6 Try.underlying22 Try.underlying5 Try.underlying9
          have hS6 := Upd.next hS hu6
          go_wp2_with (fail)
          refine hK.out _ _ ((by exact hS6)) (fun hS => ?_)
          clear hK K
          try simp only [Act.put, List.setIfInBounds_toArray, List.set_cons_zero, List.set_cons_succ]
          refine rg_at 26 (by decide) (fun oi hoi => ?_)
          have ho2 := hoi; simp only [List.getElem?_toArray, List.getElem?_cons_succ, List.getElem?_cons_zero, Option.some.injEq] at ho2; subst ho2
          refine rg_call 26 (by kernel_rfl) hoi (by rfl) (fun K hK => ?_)
          clear hoi
          skip
          go_simp
          refine hK.out _ _ ((by exact hS6)) (fun hS => ?_)
          clear hK K
          try simp only [Act.put, List.setIfInBounds_toArray, List.set_cons_zero, List.set_cons_succ]
          refine rg_at 29 (by decide) (fun oi hoi => ?_)
          have ho2 := hoi; simp only [List.getElem?_toArray, List.getElem?_cons_succ, List.getElem?_cons_zero, Option.some.injEq] at ho2; subst ho2
          refine rg_take (v := ?_) 29 hoi (by kernel_rfl) (by kernel_rfl) (by kernel_rfl) (fun _ _ _ h => h) (by rfl) ?_ hS ?_
          rotate_left
          · intro w _; go_simp; try with_reducible rfl
          clear hoi; try simp only [Act.put, List.setIfInBounds_toArray, List.set_cons_zero, List.set_cons_succ]
          refine rg_at 30 (by decide) (fun oi hoi => ?_)
          have ho2 := hoi; simp only [List.getElem?_toArray, List.getElem?_cons_succ, List.getElem?_cons_zero, Option.some.injEq] at ho2; subst ho2
          refine rg_take (v := ?_) 30 hoi (by kernel_rfl) (by kernel_rfl) (by kernel_rfl) (fun _ _ _ h => h) (by rfl) ?_ hS ?_
          rotate_left
          · intro w _; go_simp; try with_reducible rfl
          clear hoi; try simp only [Act.put, List.setIfInBounds_toArray, List.set_cons_zero, List.set_cons_succ]
          refine rg_at 31 (by decide) (fun oi hoi => ?_)
          have ho2 := hoi; simp only [List.getElem?_toArray, List.getElem?_cons_succ, List.getElem?_cons_zero, Option.some.injEq] at ho2; subst ho2
          refine rg_take (v := ?_) 31 hoi (by kernel_rfl) (by kernel_rfl) (by kernel_rfl) (fun _ _ _ h => h) (by rfl) ?_ hS ?_
          rotate_left
          · intro w _; go_simp; try with_reducible rfl
          clear hoi; try simp only [Act.put, List.setIfInBounds_toArray, List.set_cons_zero, List.set_cons_succ]
          refine wpAnyH_done (by kernel_rfl) ?_ _
          have HZ := hid (HW.out.1.quiet hS6).bel
          clear ho6 hu6 hS hS6
          go_wp2
          go_ret
          exact ⟨rfl, HZ.out⟩
end Go.Proofs.Ytbcmaobopglooaa.Up
