/-
  Letters as bytes: the reference's Lay and Encode.
-/
import Derived.Test.YtgbdpplnfcfhmaaLc
import Derived.Test.YtgbdpplnfcfhmaaCq
import Derived.Test.YtgbdpplnfcfhmaaIr0
set_option linter.unusedVariables false
set_option linter.unusedSimpArgs false
namespace Go.Proofs.Ytgbdpplnfcfhmaa.Ld
open Go.RowKit Go.Proofs.Ytgbdpplnfcfhmaa.B Go.Proofs.Ytgbdpplnfcfhmaa.Lt Go.Proofs.Ytgbdpplnfcfhmaa.Lc Go.Proofs.Ytgbdpplnfcfhmaa.Ir
open Go.Proofs.Ytgbdpplnfcfhmaa.Cm (num num_length)
open Go.Proofs.Ytgbdpplnfcfhmaa.Cw (zz)
open Go.Proofs.Ytgbdpplnfcfhmaa.Ib (In.updn In.block)
open Go.Proofs.Ytgbdpplnfcfhmaa.Cq (Ob Ow)
theorem Ob.bound {W : World} {v : Value} {bs : List Int} (h : Ob W v bs) : ∀ k, Ow v k → k < W.heap.size := h.lt
set_option maxHeartbeats 2000000 in
set_option maxRecDepth 100000 in
theorem lay_ (v : Value) (bs : List Int) (x : L) (u : Value) (w : World) (ho : Ob w v bs) (hx : In w x u) (hn : 0 < x.2.2.2.length → ∀ k, u.ownBlock = some k → ¬ Ow v k) (hwf : Wf x) (hl : bs.length + x.1.size + 9 * x.2.2.2.length ≤ 140737488350000) :
    Calls Try.prog 33 #[v, val x u] w (Cq.Post v (bs ++ lb x) w) := by
  have hx0 := hx
  obtain ⟨A, c, hue, _, hq1, hq2⟩ := hx0
  subst hue
  obtain ⟨Av, cv, rfl, _, _⟩ := own_shape ho
  simp only [maxLen] at hq1 hq2
  unfold val
  have hal : Upd No w (w.alloc (.cells #[.string x.1, .int .u64 x.2.1, .int .i64 x.2.2.1, .slice A x.2.2.2.length c] 30)) := (Upd.refl _ _).alloc _
  have hbx := Blk.fresh w 30 #[.string x.1, .int .u64 x.2.1, .int .i64 x.2.2.1, .slice A x.2.2.2.length c]
  have hw1 := Cq.Ob.keep ho hal fun k _ => no_ k
  have hm1 : Mv (Ow (.slice Av bs.length cv)) (Ow (.slice Av bs.length cv)) w (w.alloc (.cells #[.string x.1, .int .u64 x.2.1, .int .i64 x.2.2.1, .slice A x.2.2.2.length c] 30)) := ⟨hal.mono fun _ _ h => h.elim, fun k hk => .inl hk⟩
  have hx1 := hx.upd hal (fun _ _ => no_ _)
  have hlt := Cq.Ob.lt ho
  have HK : Hid (∀ W F', Mv (Ow (.slice Av bs.length cv)) F' (w.alloc (.cells #[.string x.1, .int .u64 x.2.1, .int .i64 x.2.2.1, .slice A x.2.2.2.length c] 30)) W → Blk W w.heap.size 30 #[.string x.1, .int .u64 x.2.1, .int .i64 x.2.2.1, .slice A x.2.2.2.length c] ∧ Rn W .i64 A x.2.2.2 ∧ Mv (Ow (.slice Av bs.length cv)) F' w W) :=
    hid fun W F' hm => ⟨hbx.upd hm.upd fun h => by have := hlt _ h; omega, (In.updn hx1 hm.upd hn).elim fun A' h => h.elim fun c' h => by
      obtain ⟨h1, h2, _⟩ := h
      simp only [Value.slice.injEq, true_and] at h1
      obtain ⟨rfl, rfl⟩ := h1
      exact h2, hm1.trans hm⟩
  obtain ⟨y0, y1, y2, y3⟩ := box hbx
  have hh : Hid (lb x = num x.1.size ++ sb x.1 ++ num x.2.1 ++ num (zz x.2.2.1) ++ num x.2.2.2.length ++ ints x.2.2.2) := hid rfl
  have n1 := num_length (x.1.size : Int)
  have n2 := num_length x.2.1
  have n3 := num_length (zz x.2.2.1)
  have n4 := num_length (x.2.2.2.length : Int)
  have n5 := sb_length x.1
  have hwf' := hid hwf
  have hu := hwf.u
  have hk := hwf.k
  clear hwf
  go_enter Try.func33, Try.ntmps33
  go_wp2_with (fail)
  generalize w.alloc (.cells #[.string x.1, .int .u64 x.2.1, .int .i64 x.2.2.1, .slice A x.2.2.2.length c] 30) = w1 at *
  refine (Cq.text_ _ bs x.1 w1 hw1 (by omega)).mono ?_
  rintro e w2 ⟨v2, rfl, hw2, hm2⟩
  clear y0 y1 y2 y3 hbx hal hx1 hw1 hm1
  obtain ⟨y0, y1, y2, y3⟩ := box (HK.out w2 _ hm2).1
  go_wp2_with (fail)
  refine (Cq.number v2 _ x.2.1 w2 hw2 hu.1 hu.2 (by simp only [List.length_append]; omega)).mono ?_
  rintro e w3 ⟨v3, rfl, hw3, hm3⟩
  have hm3 := hm2.trans hm3
  clear y0 y1 y2 y3 hw2 hm2
  obtain ⟨y0, y1, y2, y3⟩ := box (HK.out w3 _ hm3).1
  go_wp2_with (fail)
  refine (Cq.int_ v3 _ x.2.2.1 w3 hw3 hk.1 hk.2 (by simp only [List.length_append]; omega)).mono ?_
  rintro e w4 ⟨v4, rfl, hw4, hm4⟩
  have hm4 := hm3.trans hm4
  clear y0 y1 y2 y3 hw3 hm3
  obtain ⟨y0, y1, y2, y3⟩ := box (HK.out w4 _ hm4).1
  go_wp2_with (fail)
  refine (Cq.number v4 _ x.2.2.2.length w4 hw4 (by omega) (by omega) (by simp only [List.length_append]; omega)).mono ?_
  rintro e w5 ⟨v5, rfl, hw5, hm5⟩
  have hm5 := hm4.trans hm5
  clear y0 y1 y2 y3 hw4 hm4
  obtain ⟨y0, y1, y2, y3⟩ := box (HK.out w5 _ hm5).1
  obtain ⟨hd, hhd⟩ : ∃ hd, Hid (hd = bs ++ num x.1.size ++ sb x.1 ++ num x.2.1 ++ num (zz x.2.2.1) ++ num x.2.2.2.length) := ⟨_, hid rfl⟩
  have hdl : hd.length ≤ bs.length + x.1.size + 36 := by rw [hhd.out]; simp only [List.length_append]; omega
  rw [← hhd.out] at hw5
  have hout : Hid (bs ++ lb x = hd ++ ints x.2.2.2) := hid (by rw [hhd.out, hh.out]; simp only [List.append_assoc])
  clear hhd hh n1 n2 n3 n4 n5 hu hk
  go_wp2_with (fail)
  go_loopw [0, 27] (fun v0 vv W => ∃ (j : Nat) (cs : List Int), j ≤ x.2.2.2.length ∧ vv = .int .i64 j ∧ Hid (cs = hd ++ ints (x.2.2.2.take j)) ∧ Hid (Ob W v0 cs) ∧ Hid (Mv (Ow (.slice Av bs.length cv)) (Ow v0) w1 W)) (fun _ vv _ => x.2.2.2.length - (intOf vv).toNat)
  case atStart => exact ⟨0, hd, by omega, rfl, hid (by simp [ints]), hid hw5, hid hm5⟩
  case round =>
    obtain ⟨j, cs, hj, rfl, hcs, hW, hM⟩ := hrel
    have hcl : cs.length ≤ 140737488355000 := by
      have := ints_le (x.2.2.2.take j)
      rw [List.length_take] at this
      rw [hcs.out, List.length_append]
      omega
    obtain ⟨z0, z1, z2, z3⟩ := box (HK.out wr _ hM.out).1
    by_cases hlt : j < x.2.2.2.length
    · obtain ⟨ad, rfl, hcj⟩ := (HK.out wr _ hM.out).2.1.at_ hlt
      have ha := hwf'.out.a j hlt
      have hnx := hid (ints_take x.2.2.2 j hlt)
      have hj1 : (0 : Int) ≤ (j : Int) := by omega
      have hj2 : (j : Int) < (x.2.2.2.length : Int) := by omega
      generalize gi x.2.2.2 j = z at *
      go_wp2_with (fail)
      refine (Cq.int_ _ cs z wr hW.out ha.1 ha.2 hcl).mono ?_
      rintro e w6 ⟨v6, rfl, hw6, hm6⟩
      have hM6 := hid (hM.out.trans hm6)
      have hW6 := hid hw6
      clear hw6 hm6
      go_wp2
      go_roundw
      case rel => exact ⟨j + 1, _, by omega, by go_num, hid (by rw [hnx.out, hcs.out, List.append_assoc]), hW6, hM6⟩
      case measure => simp [intOf]; omega
    · obtain rfl : j = x.2.2.2.length := by omega
      have hE := hid (show cs = bs ++ lb x by rw [hout.out, hcs.out, List.take_length])
      go_wp2
      go_ret
      exact ⟨_, rfl, hE.out ▸ hW.out, (HK.out _ _ hM.out).2.2⟩
/-- What the reference's Encode leaves of a letter that is formed. -/
def EncOut (w : World) (x : L) (e : Ending) (w' : World) : Prop :=
  ∃ v, e = .returned (.tuple #[v, .int .i64 0]) ∧ Ob w' v (lb x) ∧ (∀ k, Ow v k → w.heap.size ≤ k) ∧ Upd No w w'
theorem EncOut.of {w : World} {x : L} {e : Ending} {w' : World} (h : ∃ v, e = .returned (.tuple #[v, .int .i64 0]) ∧ Ob w' v (lb x) ∧ (∀ k, Ow v k → w.heap.size ≤ k) ∧ Upd No w w') : EncOut w x e w' := h
end Go.Proofs.Ytgbdpplnfcfhmaa.Ld
