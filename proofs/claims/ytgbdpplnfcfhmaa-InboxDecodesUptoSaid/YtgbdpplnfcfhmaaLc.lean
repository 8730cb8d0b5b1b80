/-
  Letters as bytes: package letter's lay and Encode.
-/
import Derived.Test.YtgbdpplnfcfhmaaIb0
import Derived.Test.YtgbdpplnfcfhmaaCw2
set_option linter.unusedVariables false
set_option linter.unusedSimpArgs false
namespace Go.Proofs.Ytgbdpplnfcfhmaa.Lc
open Go.RowKit Go.Proofs.Ytgbdpplnfcfhmaa.B Go.Proofs.Ytgbdpplnfcfhmaa.Cw Go.Proofs.Ytgbdpplnfcfhmaa.Lt
open Go.Proofs.Ytgbdpplnfcfhmaa.Cm (num num_length)
open Go.Proofs.Ytgbdpplnfcfhmaa.Ib (In.updn In.block)
/-- Numbers with signs, one behind the other. -/
def ints (l : List Int) : List Int := l.flatMap fun z => num (zz z)
theorem ints_take (l : List Int) (j : Nat) (hj : j < l.length) : ints (l.take (j + 1)) = ints (l.take j) ++ num (zz (gi l j)) := by
  rw [List.take_succ_eq_append_getElem hj]
  simp only [ints, gi, List.getD_eq_getElem?_getD, List.getElem?_eq_getElem hj, List.flatMap_append, List.flatMap_cons, List.flatMap_nil, List.append_nil, Option.getD_some]
theorem ints_le (l : List Int) : (ints l).length ≤ 9 * l.length := by
  induction l with
  | nil => simp [ints]
  | cons z r ih =>
    have := num_length (zz z)
    simp only [ints, List.flatMap_cons, List.length_append, List.length_cons] at *
    omega
/-- A letter's head. -/
def hb (x : L) : List Int := num x.1.size ++ sb x.1 ++ num x.2.1 ++ num (zz x.2.2.1) ++ num x.2.2.2.length
/-- A letter's bytes. -/
def lb (x : L) : List Int := hb x ++ ints x.2.2.2
theorem lb_le (x : L) : (lb x).length ≤ x.1.size + 9 * x.2.2.2.length + 36 := by
  have h1 := num_length (x.1.size : Int)
  have h2 := num_length x.2.1
  have h3 := num_length (zz x.2.2.1)
  have h4 := num_length (x.2.2.2.length : Int)
  have h5 := ints_le x.2.2.2
  simp only [lb, hb, List.length_append, sb_length]
  omega
/-- What a letter's numbers are. -/
structure Wf (x : L) : Prop where
  u : 0 ≤ x.2.1 ∧ x.2.1 ≤ 18446744073709551615
  k : -9223372036854775808 ≤ x.2.2.1 ∧ x.2.2.1 ≤ 9223372036854775807
  a : ∀ i, i < x.2.2.2.length → -9223372036854775808 ≤ gi x.2.2.2 i ∧ gi x.2.2.2 i ≤ 9223372036854775807
set_option maxHeartbeats 2000000 in
set_option maxRecDepth 100000 in
theorem lay_ (p : Nat) (bs : List Int) (x : L) (u : Value) (F : Nat → Prop) (w : World) (hw : Wr w F p bs) (hx : In w x u) (hn : 0 < x.2.2.2.length → ∀ k, u.ownBlock = some k → ¬ F k) (hwf : Wf x) (hl : bs.length + x.1.size + 9 * x.2.2.2.length ≤ 140737488350000) :
    Calls Try.prog 39 #[.pointer (some ⟨p, 0, none⟩), val x u] w fun e w' => e = .returned (.tuple #[]) ∧ ∃ F', Wr w' F' p (bs ++ lb x) ∧ Mv F F' w w' := by
  have hx0 := hx
  obtain ⟨A, c, hue, _, hq1, hq2⟩ := hx0
  subst hue
  simp only [maxLen] at hq1 hq2
  unfold val
  have hal : Upd No w (w.alloc (.cells #[.string x.1, .int .u64 x.2.1, .int .i64 x.2.2.1, .slice A x.2.2.2.length c] 30)) := (Upd.refl _ _).alloc _
  have hbx := Blk.fresh w 30 #[.string x.1, .int .u64 x.2.1, .int .i64 x.2.2.1, .slice A x.2.2.2.length c]
  have hw1 := hw.keep hal fun k _ => no_ k
  have hm1 : Mv F F w (w.alloc (.cells #[.string x.1, .int .u64 x.2.1, .int .i64 x.2.2.1, .slice A x.2.2.2.length c] 30)) := ⟨hal.mono fun _ _ h => h.elim, fun k hk => .inl hk⟩
  have hx1 := hx.upd hal (fun _ _ => no_ _)
  have hlt := hw.lt
  have HK : Hid (∀ W F', Mv F F' (w.alloc (.cells #[.string x.1, .int .u64 x.2.1, .int .i64 x.2.2.1, .slice A x.2.2.2.length c] 30)) W → Blk W w.heap.size 30 #[.string x.1, .int .u64 x.2.1, .int .i64 x.2.2.1, .slice A x.2.2.2.length c] ∧ Rn W .i64 A x.2.2.2 ∧ Mv F F' w W) :=
    hid fun W F' hm => ⟨hbx.upd hm.upd fun h => by have := hlt _ h; omega, (In.updn hx1 hm.upd hn).elim fun A' h => h.elim fun c' h => by
      obtain ⟨h1, h2, _⟩ := h
      simp only [Value.slice.injEq, true_and] at h1
      obtain ⟨rfl, rfl⟩ := h1
      exact h2, hm1.trans hm⟩
  obtain ⟨y0, y1, y2, y3⟩ := box hbx
  have hh : Hid (lb x = num x.1.size ++ sb x.1 ++ num x.2.1 ++ num (zz x.2.2.1) ++ num x.2.2.2.length ++ ints x.2.2.2) := hid rfl
  have n1 := num_length (x.1.size : Int)
  have n2 := num_length x.2.1
  have n3 := num_length (zz x.2.2.1)
  have n4 := num_length (x.2.2.2.length : Int)
  have n5 := sb_length x.1
  have hwf' := hid hwf
  have hu := hwf.u
  have hk := hwf.k
  clear hwf
  go_enter Try.func39, Try.ntmps39
  go_wp2_with (fail)
  generalize w.alloc (.cells #[.string x.1, .int .u64 x.2.1, .int .i64 x.2.2.1, .slice A x.2.2.2.length c] 30) = w1 at *
  refine (text_ p bs x.1 F w1 hw1 (by omega)).mono ?_
  rintro e w2 ⟨rfl, F2, hw2, hm2⟩
  clear y0 y1 y2 y3 hbx hal hx1 hw1 hm1
  obtain ⟨y0, y1, y2, y3⟩ := box (HK.out w2 F2 hm2).1
  go_wp2_with (fail)
  refine (number p _ x.2.1 F2 w2 hw2 hu.1 hu.2 (by simp only [List.length_append]; omega)).mono ?_
  rintro e w3 ⟨rfl, F3, hw3, hm3⟩
  have hm3 := hm2.trans hm3
  clear y0 y1 y2 y3 hw2 hm2
  obtain ⟨y0, y1, y2, y3⟩ := box (HK.out w3 F3 hm3).1
  go_wp2_with (fail)
  refine (int_ p _ x.2.2.1 F3 w3 hw3 hk.1 hk.2 (by simp only [List.length_append]; omega)).mono ?_
  rintro e w4 ⟨rfl, F4, hw4, hm4⟩
  have hm4 := hm3.trans hm4
  clear y0 y1 y2 y3 hw3 hm3
  obtain ⟨y0, y1, y2, y3⟩ := box (HK.out w4 F4 hm4).1
  go_wp2_with (fail)
  refine (number p _ x.2.2.2.length F4 w4 hw4 (by omega) (by omega) (by simp only [List.length_append]; omega)).mono ?_
  rintro e w5 ⟨rfl, F5, hw5, hm5⟩
  have hm5 := hm4.trans hm5
  clear y0 y1 y2 y3 hw4 hm4
  obtain ⟨y0, y1, y2, y3⟩ := box (HK.out w5 F5 hm5).1
  obtain ⟨hd, hhd⟩ : ∃ hd, Hid (hd = bs ++ num x.1.size ++ sb x.1 ++ num x.2.1 ++ num (zz x.2.2.1) ++ num x.2.2.2.length) := ⟨_, hid rfl⟩
  have hdl : hd.length ≤ bs.length + x.1.size + 36 := by rw [hhd.out]; simp only [List.length_append]; omega
  rw [← hhd.out] at hw5
  have hout : Hid (bs ++ lb x = hd ++ ints x.2.2.2) := hid (by rw [hhd.out, hh.out]; simp only [List.append_assoc])
  clear hhd hh n1 n2 n3 n4 n5 hu hk
  go_wp2_with (fail)
  go_loopw [27] (fun vv W => ∃ (j : Nat) (cs : List Int) (G : Nat → Prop), j ≤ x.2.2.2.length ∧ vv = .int .i64 j ∧ Hid (cs = hd ++ ints (x.2.2.2.take j)) ∧ Hid (Wr W G p cs) ∧ Hid (Mv F G w1 W)) (fun vv _ => x.2.2.2.length - (intOf vv).toNat)
  case atStart => exact ⟨0, hd, F5, by omega, rfl, hid (by simp [ints]), hid hw5, hid hm5⟩
  case round =>
    obtain ⟨j, cs, G, hj, rfl, hcs, hW, hM⟩ := hrel
    have hcl : cs.length ≤ 140737488355000 := by
      have := ints_le (x.2.2.2.take j)
      rw [List.length_take] at this
      rw [hcs.out, List.length_append]
      omega
    by_cases hlt : j < x.2.2.2.length
    · obtain ⟨ad, rfl, hcj⟩ := (HK.out wr G hM.out).2.1.at_ hlt
      have ha := hwf'.out.a j hlt
      have hnx := hid (ints_take x.2.2.2 j hlt)
      have hj1 : (0 : Int) ≤ (j : Int) := by omega
      have hj2 : (j : Int) < (x.2.2.2.length : Int) := by omega
      generalize gi x.2.2.2 j = z at *
      go_wp2_with (fail)
      refine (int_ p cs z G wr hW.out ha.1 ha.2 hcl).mono ?_
      rintro e w6 ⟨rfl, G2, hw6, hm6⟩
      have hM6 := hid (hM.out.trans hm6)
      have hW6 := hid hw6
      clear hw6 hm6
      go_wp2
      go_roundw
      case rel => exact ⟨j + 1, _, G2, by omega, by go_num, hid (by rw [hnx.out, hcs.out, List.append_assoc]), hW6, hM6⟩
      case measure => simp [intOf]; omega
    · obtain rfl : j = x.2.2.2.length := by omega
      have hE := hid (show cs = bs ++ lb x by rw [hout.out, hcs.out, List.take_length])
      go_wp2
      go_end0
      exact ⟨rfl, G, hE.out ▸ hW.out, (HK.out _ _ hM.out).2.2⟩
/-- What Encode leaves of a letter that is formed. -/
def EncOut (w : World) (x : L) (e : Ending) (w' : World) : Prop :=
  ∃ v, e = .returned (.tuple #[v, .int .i64 0]) ∧ w'.ownsRow w.heap.size 5 1 v (lb x).length (nums .u8 (lb x)) ∧ Below w.heap.size w w'
theorem EncOut.of {w : World} {x : L} {e : Ending} {w' : World} (h : ∃ v, e = .returned (.tuple #[v, .int .i64 0]) ∧ w'.ownsRow w.heap.size 5 1 v (lb x).length (nums .u8 (lb x)) ∧ Below w.heap.size w w') : EncOut w x e w' := h
theorem formed_le {x : L} (h : formed x = true) : x.1.size ≤ 40 ∧ x.2.2.2.length ≤ 4 := by simpa [formed] using h
end Go.Proofs.Ytgbdpplnfcfhmaa.Lc
