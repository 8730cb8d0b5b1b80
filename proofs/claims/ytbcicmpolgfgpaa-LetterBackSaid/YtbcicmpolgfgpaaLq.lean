/-
  letter.Same; Encode, of any letter.
-/
import Derived.Test.YtbcicmpolgfgpaaLe
import Derived.Test.YtbcicmpolgfgpaaLd
import Derived.Test.YtbcicmpolgfgpaaLs
set_option linter.unusedVariables false
set_option linter.unusedSimpArgs false
namespace Go.Proofs.Ytbcicmpolgfgpaa.Lq
open Go.RowKit Go.Proofs.Ytbcicmpolgfgpaa.B Go.Proofs.Ytbcicmpolgfgpaa.Lt Go.Proofs.Ytbcicmpolgfgpaa.Ib Go.Proofs.Ytbcicmpolgfgpaa.Ls Go.Proofs.Ytbcicmpolgfgpaa.Lc
set_option maxHeartbeats 1000000 in
theorem equal_ (A B : Option Addr) (c d : Nat) (a b : List Int) (w : World) (hr : Rn w .i64 A a) (hs : Rn w .i64 B b) (ha : a.length ≤ 9223372036854775807) (hb : b.length ≤ 9223372036854775807) :
    Calls Try.prog 32 #[.slice A a.length c, .slice B b.length d] w fun e w' => e = .returned (.bool (decide (a = b))) ∧ Upd No w w' := by
  by_cases hl : a.length = b.length
  · go_enter Try.func32, Try.ntmps32
    have hl' : (a.length : Int) = (b.length : Int) := by omega
    rw [← hl]
    have HL := hid hl
    clear hl hl'
    go_wp2_with (fail)
    go_loopw [13] (fun v13 W => ∃ j : Nat, j ≤ a.length ∧ v13 = .int .i64 j ∧ Hid (a.take j = b.take j ∧ Upd No w W)) (fun v13 _ => a.length - (intOf v13).toNat)
    case atStart => exact ⟨0, by omega, rfl, hid ⟨by simp, Upd.refl _ _⟩⟩
    case round =>
      obtain ⟨j, hj, rfl, hH⟩ := hrel
      by_cases hlt : j < a.length
      · have hlb : j < b.length := by have := HL.out; omega
        have hra : Rn wr .i64 A a := Rd.upd hr (by omega) hH.out.2 (fun _ _ => no_ _)
        have hrb : Rn wr .i64 B b := Rd.upd hs (by omega) hH.out.2 (fun _ _ => no_ _)
        obtain ⟨ad, rfl, hx⟩ := hra.at_ hlt
        obtain ⟨bd, rfl, hy⟩ := hrb.at_ hlb
        have hj1 : (0 : Int) ≤ (j : Int) := by omega
        have hj2 : (j : Int) < (a.length : Int) := by omega
        obtain ⟨x, hxe⟩ : ∃ x, x = gi a j := ⟨_, rfl⟩
        obtain ⟨y, hye⟩ : ∃ y, y = gi b j := ⟨_, rfl⟩
        rw [← hxe] at hx
        rw [← hye] at hy
        have HX := hid hxe
        have HY := hid hye
        clear hxe hye
        by_cases hxy : x = y
        · have b1 : (x == y) = true := by simp [hxy]
          have b2 : (x != y) = false := by simp [hxy]
          have HN := hid (And.intro (take_step hlt hlb hH.out.1 (by rw [← HX.out, ← HY.out, hxy])) hH.out.2.drew)
          clear hxy
          go_wp2
          go_region
          all_goals
            go_wp2
            go_roundw
            case rel => exact ⟨j + 1, by omega, by go_num, hid HN.out⟩
            case measure => simp [intOf]; omega
        · have b1 : (x == y) = false := by simp [hxy]
          have b2 : (x != y) = true := by simp [hxy]
          have hne : Hid (a ≠ b) := hid (by
            rintro rfl
            exact hxy (HX.out.trans HY.out.symm))
          have HN := hid hH.out.2.drew
          clear hxy
          go_wp2
          go_region
          all_goals
            go_wp2
            go_ret
            exact ⟨by rw [decide_eq_false hne.out]; rfl, HN.out⟩
      · obtain rfl : j = a.length := by omega
        have hab : a = b := by
          have := hH.out.1
          rw [List.take_length] at this
          rw [this, HL.out, List.take_length]
        have hab' := hid hab
        clear hab
        go_wp2
        go_ret
        exact ⟨by rw [decide_eq_true hab'.out]; rfl, hH.out.2⟩
  · have hl' : ¬ (a.length : Int) = (b.length : Int) := by omega
    have hab : Hid (a ≠ b) := hid (by rintro rfl; exact hl rfl)
    go_enter Try.func32, Try.ntmps32
    go_wp2
    go_ret
    exact ⟨by rw [decide_eq_false hab.out]; rfl, Upd.refl _ _⟩
set_option maxHeartbeats 2000000 in
theorem lsame_ (x y : L) (u v : Value) (w : World) (hx : In w x u) (hy : In w y v) :
    Calls Try.prog 18 #[val x u, val y v] w fun e w' => e = .returned (.bool (decide (x = y))) ∧ Upd No w w' := by
  obtain ⟨A, c, rfl, hr, h1, h2⟩ := hx
  obtain ⟨B, d, rfl, hs, h3, h4⟩ := hy
  obtain ⟨s, n, k, l⟩ := x
  obtain ⟨s', n', k', l'⟩ := y
  simp only [maxLen] at hr hs h1 h2 h3 h4
  unfold val
  have hu : Upd No w ((w.alloc (.cells #[.string s, .int .u64 n, .int .i64 k, .slice A l.length c] 25)).alloc (.cells #[.string s', .int .u64 n', .int .i64 k', .slice B l'.length d] 25)) := ((Upd.refl _ _).alloc _).alloc _
  by_cases hss : s = s'
  · subst hss
    by_cases hn : n = n'
    · subst hn
      by_cases hk : k = k'
      · subst hk
        have HC := hid (fun W (hu : Upd No w W) => equal_ A B c d l l' W (Rd.upd hr (by omega) hu (fun _ _ => no_ _)) (Rd.upd hs (by omega) hu (fun _ _ => no_ _)) (by omega) (by omega))
        have e : decide ((s, n, k, l) = (s, n, k, l')) = decide (l = l') := by simp
        rw [e]
        generalize decide (l = l') = bb at *
        go_enter Try.func18, Try.ntmps18
        go_wp2_with (fail)
        refine Calls.mono (HC.out _ hu) ?_
        rintro e w2 ⟨rfl, hu2⟩
        have hu3 := hu.next hu2
        clear hu hu2
        go_wp2
        go_ret
        exact ⟨rfl, hu3⟩
      · have e : decide ((s, n, k, l) = (s, n, k', l')) = false := by simp [hk]
        rw [e]
        have b1 : (k == k') = false := by simp [hk]
        go_enter Try.func18, Try.ntmps18
        go_wp2
        go_ret
        exact ⟨rfl, hu⟩
    · have e : decide ((s, n, k, l) = (s, n', k', l')) = false := by simp [hn]
      rw [e]
      have b1 : (n == n') = false := by simp [hn]
      go_enter Try.func18, Try.ntmps18
      go_wp2
      go_ret
      exact ⟨rfl, hu⟩
  · have e : decide ((s, n, k, l) = (s', n', k', l')) = false := by simp [hss]
    rw [e]
    have hs1 : ¬ s.toList = s'.toList := fun h => hss (by
      obtain ⟨d⟩ := s
      obtain ⟨d'⟩ := s'
      rw [ByteArray.toList_mk, ByteArray.toList_mk] at h
      rw [Array.ext' h])
    have b1 : (s.toList == s'.toList) = false := by simp [hs1]
    go_enter Try.func18, Try.ntmps18
    go_wp2
    go_ret
    exact ⟨rfl, hu⟩
/-- What Encode answers. -/
def encL (x : L) : List Int := if formed x then lb x else []
def encC (x : L) : Int := if formed x then 0 else 1
def EncR (w : World) (x : L) (e : Ending) (w' : World) : Prop := ∃ A c, e = .returned (.tuple #[.slice A (encL x).length c, .int .i64 (encC x)]) ∧ Rn w' .u8 A (encL x) ∧ Upd No w w'
theorem EncR.of {w : World} {x : L} {e : Ending} {w' : World} (h : ∃ A c, e = .returned (.tuple #[.slice A (encL x).length c, .int .i64 (encC x)]) ∧ Rn w' .u8 A (encL x) ∧ Upd No w w') : EncR w x e w' := h
theorem enc1 (x : L) (u : Value) (w : World) (hx : In w x u) (hwf : Wf x) : Calls Try.prog 14 #[val x u] w fun e w' => EncR w x e w' := by
  cases hf : formed x
  · refine (Lc.encode_bad x u w hx hf).mono ?_
    rintro e w' ⟨rfl, hu⟩
    exact .of ⟨none, 0, by simp [encL, encC, hf], by simp only [encL, hf]; exact Rd.nil_ _ _ _, hu⟩
  · refine (Lc.encode_ x u w hx hf hwf).mono ?_
    rintro e w' ⟨v, rfl, ho, hb⟩
    obtain ⟨A, c, rfl, _, _⟩ := own_shape ho
    exact .of ⟨A, c, by simp [encL, encC, hf], by simp only [encL, hf]; exact Rd.of_own ho, Upd.of_below No hb⟩
theorem enc2 (x : L) (u : Value) (w : World) (hx : In w x u) (hwf : Wf x) : Calls Try.prog 15 #[val x u] w fun e w' => EncR w x e w' := by
  cases hf : formed x
  · refine (Ld.encode_bad x u w hx hf).mono ?_
    rintro e w' ⟨rfl, hu⟩
    exact .of ⟨none, 0, by simp [encL, encC, hf], by simp only [encL, hf]; exact Rd.nil_ _ _ _, hu⟩
  · refine (Ld.encode_ x u w hx hf hwf).mono ?_
    rintro e w' ⟨v, rfl, ho, _, hb⟩
    obtain ⟨A, c, rfl, _, _⟩ := own_shape ho
    exact .of ⟨A, c, by simp [encL, encC, hf], by simp only [encL, hf]; exact Rd.of_own ho, hb⟩
end Go.Proofs.Ytbcicmpolgfgpaa.Lq
