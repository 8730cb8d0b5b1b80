/-
  Letters, compared; letters in new memory.
-/
import Derived.Test.YtgbdpplnfcfhmaaIb0
import Derived.Test.YtgbdpplnfcfhmaaOp
set_option linter.unusedVariables false
set_option linter.unusedSimpArgs false
namespace Go.Proofs.Ytgbdpplnfcfhmaa.Ls
open Go.RowKit Go.Proofs.Ytgbdpplnfcfhmaa.B Go.Proofs.Ytgbdpplnfcfhmaa.Lt Go.Proofs.Ytgbdpplnfcfhmaa.Ib
theorem take_ne {α : Type} {a b : List α} {j : Nat} (ha : j < a.length) (hb : j < b.length) (h : a[j] ≠ b[j]) : a ≠ b := by
  rintro rfl
  exact h rfl
theorem take_step {a b : List Int} {j : Nat} (ha : j < a.length) (hb : j < b.length) (h : a.take j = b.take j) (he : gi a j = gi b j) : a.take (j + 1) = b.take (j + 1) := by
  rw [List.take_succ_eq_append_getElem ha, List.take_succ_eq_append_getElem hb, h]
  have e1 : gi a j = a[j] := by simp [gi, List.getD_eq_getElem?_getD, ha]
  have e2 : gi b j = b[j] := by simp [gi, List.getD_eq_getElem?_getD, hb]
  rw [← e1, ← e2, he]
set_option maxHeartbeats 1000000 in
theorem sameInts (A B : Option Addr) (c d : Nat) (a b : List Int) (w : World) (hr : Rn w .i64 A a) (hs : Rn w .i64 B b) (ha : a.length ≤ 9223372036854775807) (hb : b.length ≤ 9223372036854775807) :
    Calls Try.prog 29 #[.slice A a.length c, .slice B b.length d] w fun e w' => e = .returned (.bool (decide (a = b))) ∧ Upd No w w' := by
  by_cases hl : a.length = b.length
  · go_enter Try.func29, Try.ntmps29
    have hl' : (a.length : Int) = (b.length : Int) := by omega
    rw [← hl]
    have HL := hid hl
    clear hl hl'
    go_wp2_with (fail)
    go_loopw [13] (fun v13 W => ∃ j : Nat, j ≤ a.length ∧ v13 = .int .i64 j ∧ Hid (a.take j = b.take j ∧ Upd No w W)) (fun v13 _ => a.length - (intOf v13).toNat)
    case atStart => exact ⟨0, by omega, rfl, hid ⟨by simp, Upd.refl _ _⟩⟩
    case round =>
      obtain ⟨j, hj, rfl, hH⟩ := hrel
      by_cases hlt : j < a.length
      · have hlb : j < b.length := by have := HL.out; omega
        have hra : Rn wr .i64 A a := Rd.upd hr (by omega) hH.out.2 (fun _ _ => no_ _)
        have hrb : Rn wr .i64 B b := Rd.upd hs (by omega) hH.out.2 (fun _ _ => no_ _)
        obtain ⟨ad, rfl, hx⟩ := hra.at_ hlt
        obtain ⟨bd, rfl, hy⟩ := hrb.at_ hlb
        have hj1 : (0 : Int) ≤ (j : Int) := by omega
        have hj2 : (j : Int) < (a.length : Int) := by omega
        obtain ⟨x, hxe⟩ : ∃ x, x = gi a j := ⟨_, rfl⟩
        obtain ⟨y, hye⟩ : ∃ y, y = gi b j := ⟨_, rfl⟩
        rw [← hxe] at hx
        rw [← hye] at hy
        have HX := hid hxe
        have HY := hid hye
        clear hxe hye
        by_cases hxy : x = y
        · have b1 : (x == y) = true := by simp [hxy]
          have b2 : (x != y) = false := by simp [hxy]
          have HN := hid (And.intro (take_step hlt hlb hH.out.1 (by rw [← HX.out, ← HY.out, hxy])) hH.out.2.drew)
          clear hxy
          go_wp2
          go_region
          all_goals
            go_wp2
            go_roundw
            case rel => exact ⟨j + 1, by omega, by go_num, hid HN.out⟩
            case measure => simp [intOf]; omega
        · have b1 : (x == y) = false := by simp [hxy]
          have b2 : (x != y) = true := by simp [hxy]
          have hne : Hid (a ≠ b) := hid (by
            rintro rfl
            exact hxy (HX.out.trans HY.out.symm))
          have HN := hid hH.out.2.drew
          clear hxy
          go_wp2
          go_region
          all_goals
            go_wp2
            go_ret
            exact ⟨by rw [decide_eq_false hne.out]; rfl, HN.out⟩
      · obtain rfl : j = a.length := by omega
        have hab : a = b := by
          have := hH.out.1
          rw [List.take_length] at this
          rw [this, HL.out, List.take_length]
        have hab' := hid hab
        clear hab
        go_wp2
        go_ret
        exact ⟨by rw [decide_eq_true hab'.out]; rfl, hH.out.2⟩
  · have hl' : ¬ (a.length : Int) = (b.length : Int) := by omega
    have hab : Hid (a ≠ b) := hid (by rintro rfl; exact hl rfl)
    go_enter Try.func29, Try.ntmps29
    go_wp2
    go_ret
    exact ⟨by rw [decide_eq_false hab.out]; rfl, Upd.refl _ _⟩
set_option maxHeartbeats 2000000 in
theorem same_ (x y : L) (u v : Value) (w : World) (hx : In w x u) (hy : In w y v) :
    Calls Try.prog 16 #[val x u, val y v] w fun e w' => e = .returned (.bool (decide (x = y))) ∧ Upd No w w' := by
  obtain ⟨A, c, rfl, hr, h1, h2⟩ := hx
  obtain ⟨B, d, rfl, hs, h3, h4⟩ := hy
  obtain ⟨s, n, k, l⟩ := x
  obtain ⟨s', n', k', l'⟩ := y
  simp only [maxLen] at hr hs h1 h2 h3 h4
  unfold val
  have hu : Upd No w ((w.alloc (.cells #[.string s, .int .u64 n, .int .i64 k, .slice A l.length c] 30)).alloc (.cells #[.string s', .int .u64 n', .int .i64 k', .slice B l'.length d] 30)) := ((Upd.refl _ _).alloc _).alloc _
  by_cases hss : s = s'
  · subst hss
    by_cases hn : n = n'
    · subst hn
      by_cases hk : k = k'
      · subst hk
        have HC := hid (fun W (hu : Upd No w W) => sameInts A B c d l l' W (Rd.upd hr (by omega) hu (fun _ _ => no_ _)) (Rd.upd hs (by omega) hu (fun _ _ => no_ _)) (by omega) (by omega))
        have e : decide ((s, n, k, l) = (s, n, k, l')) = decide (l = l') := by simp
        rw [e]
        generalize decide (l = l') = bb at *
        go_enter Try.func16, Try.ntmps16
        go_wp2_with (fail)
        refine Calls.mono (HC.out _ hu) ?_
        rintro e w2 ⟨rfl, hu2⟩
        have hu3 := hu.next hu2
        clear hu hu2
        go_wp2
        go_ret
        exact ⟨rfl, hu3⟩
      · have e : decide ((s, n, k, l) = (s, n, k', l')) = false := by simp [hk]
        rw [e]
        have b1 : (k == k') = false := by simp [hk]
        go_enter Try.func16, Try.ntmps16
        go_wp2
        go_ret
        exact ⟨rfl, hu⟩
    · have e : decide ((s, n, k, l) = (s, n', k', l')) = false := by simp [hn]
      rw [e]
      have b1 : (n == n') = false := by simp [hn]
      go_enter Try.func16, Try.ntmps16
      go_wp2
      go_ret
      exact ⟨rfl, hu⟩
  · have e : decide ((s, n, k, l) = (s', n', k', l')) = false := by simp [hss]
    rw [e]
    have hs1 : ¬ s.toList = s'.toList := fun h => hss (by
      obtain ⟨d⟩ := s
      obtain ⟨d'⟩ := s'
      rw [ByteArray.toList_mk, ByteArray.toList_mk] at h
      rw [Array.ext' h])
    have b1 : (s.toList == s'.toList) = false := by simp [hs1]
    go_enter Try.func16, Try.ntmps16
    go_wp2
    go_ret
    exact ⟨rfl, hu⟩
/-- v reads as the letters xs. -/
def RowR (w : World) (v : Value) (xs : List L) : Prop := ∃ (ps : List Lv) (A : Option Addr) (c : Nat), ps.map (·.1) = xs ∧ v = .slice A ps.length c ∧ ps.length ≤ c ∧ c ≤ maxLen ∧ Rd w 4 A ps.length (pcells ps) ∧ ∀ x ∈ ps, In w x.1 x.2
theorem RowR.of {F : Nat → Prop} {w : World} {v : Value} {xs : List L} (h : Row w F v xs) : RowR w v xs := by
  obtain ⟨ps, h1, h2, h3, h4⟩ := h
  obtain ⟨A, c, rfl, hc, hm⟩ := h2.shape
  exact ⟨ps, A, c, h1, rfl, hc, hm, h2.rd, fun x hx => (h3 x hx).1⟩
theorem RowR.upd {w w' : World} {v : Value} {xs : List L} (h : RowR w v xs) (hu : Upd No w w') : RowR w' v xs := by
  obtain ⟨ps, A, c, h1, h2, h3, h4, h5, h6⟩ := h
  exact ⟨ps, A, c, h1, h2, h3, h4, Rd.upd h5 (by omega) hu (fun _ _ => no_ _), fun x hx => (h6 x hx).upd hu (fun _ _ => no_ _)⟩
theorem RowR.len {w : World} {v : Value} {xs : List L} (h : RowR w v xs) : ∃ A c, v = .slice A xs.length c ∧ xs.length ≤ c ∧ c ≤ maxLen := by
  obtain ⟨ps, A, c, h1, h2, h3, h4, h5, h6⟩ := h
  have : xs.length = ps.length := by rw [← h1]; simp
  rw [this]
  exact ⟨A, c, h2, h3, h4⟩
/-- The cells of a letter of a row. -/
theorem RowR.at_ {w : World} {v : Value} {xs : List L} (h : RowR w v xs) {i : Nat} (hi : i < xs.length) :
    ∃ ad c u, v = .slice (some ad) xs.length c ∧ In w xs[i] u ∧ w.cell? (ad.add (i * 4)) = some (.string xs[i].1) ∧ w.cell? ⟨(ad.add (i * 4)).block, (ad.add (i * 4)).off + 1, none⟩ = some (.int .u64 xs[i].2.1) ∧
      w.cell? ⟨(ad.add (i * 4)).block, (ad.add (i * 4)).off + 2, none⟩ = some (.int .i64 xs[i].2.2.1) ∧ w.cell? ⟨(ad.add (i * 4)).block, (ad.add (i * 4)).off + 3, none⟩ = some u := by
  obtain ⟨ps, A, c, h1, rfl, hc, hm, h2, h3⟩ := h
  have hl : xs.length = ps.length := by rw [← h1]; simp
  obtain ⟨ad, rfl, hcell⟩ := Op.row_at (f := fun x : Lv => cells x.1 x.2) (k := 4) h2 (fun _ _ => rfl) rfl (i := i) (by omega)
  have hx : xs[i] = (ps[i]'(by omega)).1 := by
    have : xs[i]? = (ps.map (·.1))[i]? := by rw [h1]
    rw [List.getElem?_map, List.getElem?_eq_getElem hi, List.getElem?_eq_getElem (show i < ps.length by omega)] at this
    simpa using this
  have g1 := h3 _ (List.getElem_mem (show i < ps.length by omega))
  have c0 := hcell 0 (by omega)
  have c1 := hcell 1 (by omega)
  have c2 := hcell 2 (by omega)
  have c3 := hcell 3 (by omega)
  rw [add_field _ _ _ (by omega)] at c1 c2 c3
  rw [hx]
  exact ⟨ad, c, (ps[i]'(by omega)).2, by rw [hl], g1, c0, c1, c2, c3⟩
set_option maxHeartbeats 2000000 in
theorem sameAll (u v : Value) (xs ys : List L) (w : World) (hx : RowR w u xs) (hy : RowR w v ys) :
    Calls Try.prog 18 #[u, v] w fun e w' => e = .returned (.bool (decide (xs = ys))) ∧ Upd No w w' := by
  obtain ⟨A, c, hu, hc, hcm⟩ := hx.len
  obtain ⟨B, d, hv, hd, hdm⟩ := hy.len
  subst hu hv
  simp only [maxLen] at hcm hdm
  by_cases hl : xs.length = ys.length
  · go_enter Try.func18, Try.ntmps18
    rw [← hl] at hy ⊢
    have HL := hid hl
    clear hl
    go_wp2_with (fail)
    go_loopw [13] (fun v13 W => ∃ j : Nat, j ≤ xs.length ∧ v13 = .int .i64 j ∧ Hid (xs.take j = ys.take j ∧ Upd No w W)) (fun v13 _ => xs.length - (intOf v13).toNat)
    case atStart => exact ⟨0, by omega, rfl, hid ⟨by simp, Upd.refl _ _⟩⟩
    case round =>
      obtain ⟨j, hj, rfl, hH⟩ := hrel
      by_cases hlt : j < xs.length
      · have hlb : j < ys.length := by have := HL.out; omega
        obtain ⟨ad, c', ux, e1, i1, x0, x1, x2, x3⟩ := RowR.at_ (hx.upd hH.out.2) hlt
        obtain ⟨bd, d', uy, e2, i2, y0, y1, y2, y3⟩ := RowR.at_ (hy.upd hH.out.2) hlb
        simp only [Value.slice.injEq, true_and] at e1 e2
        obtain ⟨rfl, rfl⟩ := e1
        obtain ⟨rfl, hq, rfl⟩ := e2
        clear hq
        have hj1 : (0 : Int) ≤ (j : Int) := by omega
        have hj2 : (j : Int) < (xs.length : Int) := by omega
        have HX := hid (show ∀ x, x = xs[j] → True from fun _ _ => trivial)
        obtain ⟨x, hxe⟩ : ∃ x, x = xs[j] := ⟨_, rfl⟩
        obtain ⟨y, hye⟩ : ∃ y, y = ys[j] := ⟨_, rfl⟩
        rw [← hxe] at i1 x0 x1 x2
        rw [← hye] at i2 y0 y1 y2
        have HC := hid (same_ x y ux uy wr.drew i1 i2)
        unfold val at HC
        have HU := hH.out.2
        have P0 : Hid (∀ W, W = wr.drew → (W.cell? (ad.add (j * 4)) = some (.string x.1) ∧ W.cell? ⟨(ad.add (j * 4)).block, (ad.add (j * 4)).off + 1, none⟩ = some (.int .u64 x.2.1) ∧ W.cell? ⟨(ad.add (j * 4)).block, (ad.add (j * 4)).off + 2, none⟩ = some (.int .i64 x.2.2.1) ∧ W.cell? ⟨(ad.add (j * 4)).block, (ad.add (j * 4)).off + 3, none⟩ = some ux)) := hid (by rintro W rfl; exact ⟨x0, x1, x2, x3⟩)
        have P1 : Hid (∀ W, W = wr.drew → (W.cell? (bd.add (j * 4)) = some (.string y.1) ∧ W.cell? ⟨(bd.add (j * 4)).block, (bd.add (j * 4)).off + 1, none⟩ = some (.int .u64 y.2.1) ∧ W.cell? ⟨(bd.add (j * 4)).block, (bd.add (j * 4)).off + 2, none⟩ = some (.int .i64 y.2.2.1) ∧ W.cell? ⟨(bd.add (j * 4)).block, (bd.add (j * 4)).off + 3, none⟩ = some uy)) := hid (by rintro W rfl; exact ⟨y0, y1, y2, y3⟩)
        have HD : Hid ((decide (x = y) = true → xs.take (j + 1) = ys.take (j + 1)) ∧ (decide (x = y) = false → xs ≠ ys)) := hid ⟨fun h => by
          have h := of_decide_eq_true h
          rw [List.take_succ_eq_append_getElem hlt, List.take_succ_eq_append_getElem hlb, hH.out.1, ← hxe, ← hye, h], fun h => by
          have h := of_decide_eq_false h
          rw [hxe, hye] at h
          exact take_ne hlt hlb h⟩
        clear hxe hye x0 x1 x2 x3 y0 y1 y2 y3 i1 i2
        generalize decide (x = y) = bb at *
        have HP : Hid (∀ W, Upd No wr W → (W.cell? (ad.add (j * 4)) = some (.string x.1) ∧ W.cell? ⟨(ad.add (j * 4)).block, (ad.add (j * 4)).off + 1, none⟩ = some (.int .u64 x.2.1) ∧ W.cell? ⟨(ad.add (j * 4)).block, (ad.add (j * 4)).off + 2, none⟩ = some (.int .i64 x.2.2.1) ∧ W.cell? ⟨(ad.add (j * 4)).block, (ad.add (j * 4)).off + 3, none⟩ = some ux)) := hid fun W hW => by
          obtain ⟨x0, x1, x2, x3⟩ := P0.out _ rfl
          exact ⟨(hW.cell (World.block_lt_of_cell? _ _ x0) (no_ _)).trans x0, (hW.cell (World.block_lt_of_cell? _ _ x1) (no_ _)).trans x1, (hW.cell (World.block_lt_of_cell? _ _ x2) (no_ _)).trans x2, (hW.cell (World.block_lt_of_cell? _ _ x3) (no_ _)).trans x3⟩
        have HQ : Hid (∀ W, Upd No wr W → (W.cell? (bd.add (j * 4)) = some (.string y.1) ∧ W.cell? ⟨(bd.add (j * 4)).block, (bd.add (j * 4)).off + 1, none⟩ = some (.int .u64 y.2.1) ∧ W.cell? ⟨(bd.add (j * 4)).block, (bd.add (j * 4)).off + 2, none⟩ = some (.int .i64 y.2.2.1) ∧ W.cell? ⟨(bd.add (j * 4)).block, (bd.add (j * 4)).off + 3, none⟩ = some uy)) := hid fun W hW => by
          obtain ⟨x0, x1, x2, x3⟩ := P1.out _ rfl
          exact ⟨(hW.cell (World.block_lt_of_cell? _ _ x0) (no_ _)).trans x0, (hW.cell (World.block_lt_of_cell? _ _ x1) (no_ _)).trans x1, (hW.cell (World.block_lt_of_cell? _ _ x2) (no_ _)).trans x2, (hW.cell (World.block_lt_of_cell? _ _ x3) (no_ _)).trans x3⟩
        clear P0 P1
        cases bb
        · go_wp2_with (fail)
          refine wp_region_held_drew (S := fun W => Upd No wr W) (by kernel_rfl) (Upd.refl _ _).drew (fun hS => ?_)
          refine rg_at 0 (by decide) (fun oi hoi => ?_)
          have ho2 := hoi; simp only [List.getElem?_toArray, List.getElem?_cons_succ, List.getElem?_cons_zero, Option.some.injEq] at ho2; subst ho2
          refine rg_take (v := ?_) 0 hoi (by kernel_rfl) (by kernel_rfl) (by kernel_rfl) (fun _ _ _ h => h) (by rfl) ?_ hS ?_
          rotate_left
          · intro w _; go_simp; try with_reducible rfl
          clear hoi; try simp only [Act.put, List.setIfInBounds_toArray, List.set_cons_zero, List.set_cons_succ]
          refine rg_at 1 (by decide) (fun oi hoi => ?_)
          have ho2 := hoi; simp only [List.getElem?_toArray, List.getElem?_cons_succ, List.getElem?_cons_zero, Option.some.injEq] at ho2; subst ho2
          refine rg_take (v := ?_) 1 hoi (by kernel_rfl) (by kernel_rfl) (by kernel_rfl) (fun _ _ _ h => h) (by rfl) ?_ hS ?_
          rotate_left
          · intro w _; go_simp; try with_reducible rfl
          clear hoi; try simp only [Act.put, List.setIfInBounds_toArray, List.set_cons_zero, List.set_cons_succ]
          refine rg_at 2 (by decide) (fun oi hoi => ?_)
          have ho2 := hoi; simp only [List.getElem?_toArray, List.getElem?_cons_succ, List.getElem?_cons_zero, Option.some.injEq] at ho2; subst ho2
          refine rg_take (v := ?_) 2 hoi (by kernel_rfl) (by kernel_rfl) (by kernel_rfl) (fun _ _ _ h => h) (by rfl) ?_ hS ?_
          rotate_left
          · intro w _; go_simp; try with_reducible rfl
          clear hoi; try simp only [Act.put, List.setIfInBounds_toArray, List.set_cons_zero, List.set_cons_succ]
          refine rg_at 3 (by decide) (fun oi hoi => ?_)
          have ho2 := hoi; simp only [List.getElem?_toArray, List.getElem?_cons_succ, List.getElem?_cons_zero, Option.some.injEq] at ho2; subst ho2
          refine rg_take (v := ?_) 3 hoi (by kernel_rfl) (by kernel_rfl) (by kernel_rfl) (fun _ _ _ h => h) (by rfl) ?_ hS ?_
          rotate_left
          · intro w hw; have hf := HP.out w hw; clear hw; go_simp; try with_reducible rfl
          clear hoi; try simp only [Act.put, List.setIfInBounds_toArray, List.set_cons_zero, List.set_cons_succ]
          refine rg_at 4 (by decide) (fun oi hoi => ?_)
          have ho2 := hoi; simp only [List.getElem?_toArray, List.getElem?_cons_succ, List.getElem?_cons_zero, Option.some.injEq] at ho2; subst ho2
          refine rg_take (v := ?_) 4 hoi (by kernel_rfl) (by kernel_rfl) (by kernel_rfl) (fun _ _ _ h => h) (by rfl) ?_ hS ?_
          rotate_left
          · intro w _; go_simp; try with_reducible rfl
          clear hoi; try simp only [Act.put, List.setIfInBounds_toArray, List.set_cons_zero, List.set_cons_succ]
          refine rg_at 5 (by decide) (fun oi hoi => ?_)
          have ho2 := hoi; simp only [List.getElem?_toArray, List.getElem?_cons_succ, List.getElem?_cons_zero, Option.some.injEq] at ho2; subst ho2
          refine rg_take (v := ?_) 5 hoi (by kernel_rfl) (by kernel_rfl) (by kernel_rfl) (fun _ _ _ h => h) (by rfl) ?_ hS ?_
          rotate_left
          · intro w _; go_simp; try with_reducible rfl
          clear hoi; try simp only [Act.put, List.setIfInBounds_toArray, List.set_cons_zero, List.set_cons_succ]
          refine rg_at 6 (by decide) (fun oi hoi => ?_)
          have ho2 := hoi; simp only [List.getElem?_toArray, List.getElem?_cons_succ, List.getElem?_cons_zero, Option.some.injEq] at ho2; subst ho2
          refine rg_take (v := ?_) 6 hoi (by kernel_rfl) (by kernel_rfl) (by kernel_rfl) (fun _ _ _ h => h) (by rfl) ?_ hS ?_
          rotate_left
          · intro w _; go_simp; try with_reducible rfl
          clear hoi; try simp only [Act.put, List.setIfInBounds_toArray, List.set_cons_zero, List.set_cons_succ]
          refine rg_at 7 (by decide) (fun oi hoi => ?_)
          have ho2 := hoi; simp only [List.getElem?_toArray, List.getElem?_cons_succ, List.getElem?_cons_zero, Option.some.injEq] at ho2; subst ho2
          refine rg_take (v := ?_) 7 hoi (by kernel_rfl) (by kernel_rfl) (by kernel_rfl) (fun _ _ _ h => h) (by rfl) ?_ hS ?_
          rotate_left
          · intro w hw; have hf := HQ.out w hw; clear hw; go_simp; try with_reducible rfl
          clear hoi; try simp only [Act.put, List.setIfInBounds_toArray, List.set_cons_zero, List.set_cons_succ]
          refine rg_at 8 (by decide) (fun oi hoi => ?_)
          have ho2 := hoi; simp only [List.getElem?_toArray, List.getElem?_cons_succ, List.getElem?_cons_zero, Option.some.injEq] at ho2; subst ho2
          refine rg_call 8 (by kernel_rfl) hoi (by rfl) (fun K hK => ?_)
          clear hoi
          go_simp
          refine Calls.mono HC.out ?_
          rintro e w2 ⟨rfl, hu2⟩
          go_wp2_with (fail)
          refine hK.out _ _ ((Upd.of_drew hu2)) (fun hS => ?_)
          clear hK K
          try simp only [Act.put, List.setIfInBounds_toArray, List.set_cons_zero, List.set_cons_succ]
          refine rg_at 9 (by decide) (fun oi hoi => ?_)
          have ho2 := hoi; simp only [List.getElem?_toArray, List.getElem?_cons_succ, List.getElem?_cons_zero, Option.some.injEq] at ho2; subst ho2
          refine rg_take (v := ?_) 9 hoi (by kernel_rfl) (by kernel_rfl) (by kernel_rfl) (fun _ _ _ h => h) (by rfl) ?_ hS ?_
          rotate_left
          · intro w _; go_simp; try with_reducible rfl
          clear hoi; try simp only [Act.put, List.setIfInBounds_toArray, List.set_cons_zero, List.set_cons_succ]
          refine wpAnyH_done (by kernel_rfl) ?_ _
          have HF := hid (HU.next (Upd.of_drew hu2))
          clear HU hu2
          go_wp2
          go_ret
          exact ⟨by rw [decide_eq_false (HD.out.2 trivial)]; rfl, HF.out⟩
        · go_wp2_with (fail)
          refine wp_region_held_drew (S := fun W => Upd No wr W) (by kernel_rfl) (Upd.refl _ _).drew (fun hS => ?_)
          refine rg_at 0 (by decide) (fun oi hoi => ?_)
          have ho2 := hoi; simp only [List.getElem?_toArray, List.getElem?_cons_succ, List.getElem?_cons_zero, Option.some.injEq] at ho2; subst ho2
          refine rg_take (v := ?_) 0 hoi (by kernel_rfl) (by kernel_rfl) (by kernel_rfl) (fun _ _ _ h => h) (by rfl) ?_ hS ?_
          rotate_left
          · intro w _; go_simp; try with_reducible rfl
          clear hoi; try simp only [Act.put, List.setIfInBounds_toArray, List.set_cons_zero, List.set_cons_succ]
          refine rg_at 1 (by decide) (fun oi hoi => ?_)
          have ho2 := hoi; simp only [List.getElem?_toArray, List.getElem?_cons_succ, List.getElem?_cons_zero, Option.some.injEq] at ho2; subst ho2
          refine rg_take (v := ?_) 1 hoi (by kernel_rfl) (by kernel_rfl) (by kernel_rfl) (fun _ _ _ h => h) (by rfl) ?_ hS ?_
          rotate_left
          · intro w _; go_simp; try with_reducible rfl
          clear hoi; try simp only [Act.put, List.setIfInBounds_toArray, List.set_cons_zero, List.set_cons_succ]
          refine rg_at 2 (by decide) (fun oi hoi => ?_)
          have ho2 := hoi; simp only [List.getElem?_toArray, List.getElem?_cons_succ, List.getElem?_cons_zero, Option.some.injEq] at ho2; subst ho2
          refine rg_take (v := ?_) 2 hoi (by kernel_rfl) (by kernel_rfl) (by kernel_rfl) (fun _ _ _ h => h) (by rfl) ?_ hS ?_
          rotate_left
          · intro w _; go_simp; try with_reducible rfl
          clear hoi; try simp only [Act.put, List.setIfInBounds_toArray, List.set_cons_zero, List.set_cons_succ]
          refine rg_at 3 (by decide) (fun oi hoi => ?_)
          have ho2 := hoi; simp only [List.getElem?_toArray, List.getElem?_cons_succ, List.getElem?_cons_zero, Option.some.injEq] at ho2; subst ho2
          refine rg_take (v := ?_) 3 hoi (by kernel_rfl) (by kernel_rfl) (by kernel_rfl) (fun _ _ _ h => h) (by rfl) ?_ hS ?_
          rotate_left
          · intro w hw; have hf := HP.out w hw; clear hw; go_simp; try with_reducible rfl
          clear hoi; try simp only [Act.put, List.setIfInBounds_toArray, List.set_cons_zero, List.set_cons_succ]
          refine rg_at 4 (by decide) (fun oi hoi => ?_)
          have ho2 := hoi; simp only [List.getElem?_toArray, List.getElem?_cons_succ, List.getElem?_cons_zero, Option.some.injEq] at ho2; subst ho2
          refine rg_take (v := ?_) 4 hoi (by kernel_rfl) (by kernel_rfl) (by kernel_rfl) (fun _ _ _ h => h) (by rfl) ?_ hS ?_
          rotate_left
          · intro w _; go_simp; try with_reducible rfl
          clear hoi; try simp only [Act.put, List.setIfInBounds_toArray, List.set_cons_zero, List.set_cons_succ]
          refine rg_at 5 (by decide) (fun oi hoi => ?_)
          have ho2 := hoi; simp only [List.getElem?_toArray, List.getElem?_cons_succ, List.getElem?_cons_zero, Option.some.injEq] at ho2; subst ho2
          refine rg_take (v := ?_) 5 hoi (by kernel_rfl) (by kernel_rfl) (by kernel_rfl) (fun _ _ _ h => h) (by rfl) ?_ hS ?_
          rotate_left
          · intro w _; go_simp; try with_reducible rfl
          clear hoi; try simp only [Act.put, List.setIfInBounds_toArray, List.set_cons_zero, List.set_cons_succ]
          refine rg_at 6 (by decide) (fun oi hoi => ?_)
          have ho2 := hoi; simp only [List.getElem?_toArray, List.getElem?_cons_succ, List.getElem?_cons_zero, Option.some.injEq] at ho2; subst ho2
          refine rg_take (v := ?_) 6 hoi (by kernel_rfl) (by kernel_rfl) (by kernel_rfl) (fun _ _ _ h => h) (by rfl) ?_ hS ?_
          rotate_left
          · intro w _; go_simp; try with_reducible rfl
          clear hoi; try simp only [Act.put, List.setIfInBounds_toArray, List.set_cons_zero, List.set_cons_succ]
          refine rg_at 7 (by decide) (fun oi hoi => ?_)
          have ho2 := hoi; simp only [List.getElem?_toArray, List.getElem?_cons_succ, List.getElem?_cons_zero, Option.some.injEq] at ho2; subst ho2
          refine rg_take (v := ?_) 7 hoi (by kernel_rfl) (by kernel_rfl) (by kernel_rfl) (fun _ _ _ h => h) (by rfl) ?_ hS ?_
          rotate_left
          · intro w hw; have hf := HQ.out w hw; clear hw; go_simp; try with_reducible rfl
          clear hoi; try simp only [Act.put, List.setIfInBounds_toArray, List.set_cons_zero, List.set_cons_succ]
          refine rg_at 8 (by decide) (fun oi hoi => ?_)
          have ho2 := hoi; simp only [List.getElem?_toArray, List.getElem?_cons_succ, List.getElem?_cons_zero, Option.some.injEq] at ho2; subst ho2
          refine rg_call 8 (by kernel_rfl) hoi (by rfl) (fun K hK => ?_)
          clear hoi
          go_simp
          refine Calls.mono HC.out ?_
          rintro e w2 ⟨rfl, hu2⟩
          go_wp2_with (fail)
          refine hK.out _ _ ((Upd.of_drew hu2)) (fun hS => ?_)
          clear hK K
          try simp only [Act.put, List.setIfInBounds_toArray, List.set_cons_zero, List.set_cons_succ]
          refine rg_at 9 (by decide) (fun oi hoi => ?_)
          have ho2 := hoi; simp only [List.getElem?_toArray, List.getElem?_cons_succ, List.getElem?_cons_zero, Option.some.injEq] at ho2; subst ho2
          refine rg_take (v := ?_) 9 hoi (by kernel_rfl) (by kernel_rfl) (by kernel_rfl) (fun _ _ _ h => h) (by rfl) ?_ hS ?_
          rotate_left
          · intro w _; go_simp; try with_reducible rfl
          clear hoi; try simp only [Act.put, List.setIfInBounds_toArray, List.set_cons_zero, List.set_cons_succ]
          refine wpAnyH_done (by kernel_rfl) ?_ _
          have HF := hid (HU.next (Upd.of_drew hu2))
          clear HU hu2
          go_wp2
          go_roundw
          case rel => exact ⟨j + 1, by omega, by go_num, hid ⟨HD.out.1 trivial, HF.out⟩⟩
          case measure => simp [intOf]; omega
      · obtain rfl : j = xs.length := by omega
        have hab : xs = ys := by
          have := hH.out.1
          rw [List.take_length] at this
          rw [this, HL.out, List.take_length]
        have hab' := hid hab
        clear hab
        go_wp2
        go_ret
        exact ⟨by rw [decide_eq_true hab'.out]; rfl, hH.out.2⟩
  · have hl' : ¬ (xs.length : Int) = (ys.length : Int) := by omega
    have hab : Hid (xs ≠ ys) := hid (by rintro rfl; exact hl rfl)
    go_enter Try.func18, Try.ntmps18
    go_wp2
    go_ret
    exact ⟨by rw [decide_eq_false hab.out]; rfl, Upd.refl _ _⟩
end Go.Proofs.Ytgbdpplnfcfhmaa.Ls
