/-
  The walks of layer 5's laws: blocks, the small check; DiskLast.
-/
import Derived.Test.YtehdobagglondaaDq
import Derived.WalkSpells
set_option linter.unusedVariables false
set_option linter.unusedSimpArgs false
namespace Go.Proofs.Ytehdobagglondaa.Dl
open Go.RowKit Go.Proofs.Ytehdobagglondaa.B Go.Proofs.Ytehdobagglondaa.Sm Go.Proofs.Ytehdobagglondaa.Dk
def blk (b : Int) (odd : Bool) : List Int := List.replicate (if odd then 255 else 256) b
def fl (b : Int) (j : Nat) : List Int := List.replicate j b ++ List.replicate (256 - j) 0
theorem fl_succ (b : Int) (j : Nat) (hj : j < 256) : (fl b j).set j b = fl b (j + 1) := by
  unfold fl
  obtain ⟨m, hm⟩ : ∃ m, 256 - j = m + 1 := ⟨255 - j, by omega⟩
  rw [hm, show List.replicate (m + 1) (0 : Int) = 0 :: List.replicate m 0 from rfl, set_at _ _ _ _ j (by simp), show 256 - (j + 1) = m from by omega, show List.replicate (j + 1) b = List.replicate j b ++ [b] from List.replicate_succ']
  simp
theorem fl_length (b : Int) (j : Nat) (hj : j ≤ 256) : (fl b j).length = 256 := by simp [fl]; omega
def BkOut (w : World) (o : List Int) (e : Ending) (w' : World) : Prop := ∃ A c, e = .returned (.slice A o.length c) ∧ Rn w' .u8 A o ∧ Upd No w w' ∧ ∀ ad, A = some ad → w.heap.size ≤ ad.block
theorem BkOut.of {w : World} {o : List Int} {e : Ending} {w' : World} (h : ∃ A c, e = .returned (.slice A o.length c) ∧ Rn w' .u8 A o ∧ Upd No w w' ∧ ∀ ad, A = some ad → w.heap.size ≤ ad.block) : BkOut w o e w' := h
set_option maxHeartbeats 1000000 in
set_option maxRecDepth 100000 in
theorem block (K I Bv : Int) (odd : Bool) (w : World) :
    Calls Try.prog 10 #[.agg #[.int .i64 K, .int .i64 I, .int .u8 Bv, .bool odd]] w fun e w' => BkOut w (blk Bv odd) e w' := by
  go_enter Try.func10, Try.ntmps10
  go_wp2_with (at_make; go_must (refine mk_nb rfl _ _ 22 5 rfl Try.underlying22 u8_info 256 256 rfl rfl rfl (by omega) ?_); intro w1 g hgA hn1 hu1; have hg1 := hid hgA; clear hgA)
  have hbx : Blk w1 w.heap.size 30 #[.int .i64 K, .int .i64 I, .int .u8 Bv, .bool odd] := (Blk.fresh w _ _).upd hu1 (no_ _)
  have hu0 : Upd No w w1 := ((Upd.refl No w).alloc _).next hu1
  have hgw : Hid (w.heap.size < g) := hid (by rw [hg1.out]; simp)
  have e0 : List.replicate 256 (0 : Int) = fl Bv 0 := rfl
  rw [e0] at hn1
  clear e0 hu1 hg1
  go_loopw [8] (fun v8 wr => ∃ j : Nat, j ≤ 256 ∧ v8 = .int .i64 j ∧ Nb wr 5 g (fl Bv j) ∧ Blk wr w.heap.size 30 #[.int .i64 K, .int .i64 I, .int .u8 Bv, .bool odd] ∧ Upd No w wr) (fun v8 _ => 256 - (intOf v8).toNat)
  case atStart => exact ⟨0, by omega, rfl, hn1, hbx, hu0⟩
  case round =>
    obtain ⟨j, hj, rfl, hn, hb, hu⟩ := hrel
    have hx2 := hb.cell 2
    have hx3 := hb.cell 3
    simp at hx2 hx3
    by_cases hlt : j < 256
    · have hcj := hn.cell (i := j) (by rw [fl_length _ _ hj]; exact hlt)
      have hfj := Blk.free hn j
      have HN : Hid (Nb (wr.setCell ⟨g, j, none⟩ (.int .u8 Bv)) 5 g (fl Bv (j + 1))) := hid (by have := hn.put j Bv; rwa [fl_succ _ _ hlt] at this)
      have HB : Hid (Blk (wr.setCell ⟨g, j, none⟩ (.int .u8 Bv)) w.heap.size 30 #[.int .i64 K, .int .i64 I, .int .u8 Bv, .bool odd]) := hid (hb.far (by have := hgw.out; simp; omega) _)
      have HU : Hid (Upd No w (wr.setCell ⟨g, j, none⟩ (.int .u8 Bv))) := hid (hu.set (.inr (Nat.le_of_lt hgw.out)) _)
      go_wp2
      go_roundw
      case rel => exact ⟨j + 1, by omega, by go_num, HN.out, HB.out, HU.out⟩
      case measure => simp [intOf]; omega
    · obtain rfl : j = 256 := by omega
      have e1 : fl Bv 256 = List.replicate 256 Bv := by
        unfold fl
        rw [Nat.sub_self, List.replicate_zero, List.append_nil]
      rw [e1] at hn
      have HN := hid hn.rn
      clear hn e1
      cases odd with
      | true =>
        have hl : (blk Bv true).length = 255 := List.length_replicate
        go_wp2
        go_ret
        refine .of ⟨some ⟨g, 0, none⟩, 256, by simp only [hl]; rfl, ?_, hu, fun ad e => ?_⟩
        · have := HN.out.take (i := 255) (by rw [List.length_replicate]; omega)
          rw [List.take_replicate] at this
          exact this
        · injection e with e
          subst e
          exact Nat.le_of_lt hgw.out
      | false =>
        have hl : (blk Bv false).length = 256 := List.length_replicate
        go_wp2
        go_ret
        refine .of ⟨some ⟨g, 0, none⟩, 256, by simp only [hl]; rfl, HN.out, hu, fun ad e => ?_⟩
        injection e with e
        subst e
        exact Nat.le_of_lt hgw.out
set_option maxHeartbeats 1000000 in
set_option maxRecDepth 100000 in
theorem awake (w : World) : Calls Try.prog 7 #[] w fun e w' => e = .returned (.bool true) ∧ Below w.heap.size w w' := by
  go_enter Try.func7, Try.ntmps7
  go_wp2_with (fail)
  refine (new_ 2 w).mono ?_
  rintro e w1 ⟨p, F, rfl, hD, hb1, hF⟩
  rw [show (min (max (2 : Int) 0) 65536).toNat = 2 from rfl] at hD
  go_wp2_with (at_make; go_must (refine mk_nb rfl _ _ 22 5 rfl Try.underlying22 Dk.u8_info 256 256 rfl rfl rfl (by omega) ?_); intro w2 g hgA hn2 hu2; have hg2 := hid hgA; clear hgA; have hc5 := hn2.cell (i := 5) (by rw [List.length_replicate]; omega); have hf5 := Blk.free hn2 5)
  have hn3 := hn2.put 5 7
  have hu3 : Upd No w1 (w2.setCell ⟨g, 5, none⟩ (.int .u8 7)) := hu2.set (.inr (by rw [hg2.out]; exact Nat.le_refl _)) _
  obtain ⟨Z, hZ⟩ : ∃ Z : List Int, Z = (List.replicate 256 0).set 5 7 := ⟨_, rfl⟩
  have hZl : Z.length = 256 := by rw [hZ, List.length_set, List.length_replicate]
  rw [← hZ] at hn3
  have hD3 := hD.upd hu3 (fun _ _ => no_ _)
  have hgF : ¬ F g := fun h => by have := hD.lt g h; have := hg2.out; omega
  generalize w2.setCell ⟨g, 5, none⟩ (.int .u8 7) = w3 at *
  have hw := wr_ok 2 [] (-1) 1 Z (by omega) hZl (by decide)
  have HW := hid (write p ⟨2, [], -1, false⟩ F (some ⟨g, 0, none⟩) 256 Z 1 w3 hD3 hn3.rn (fun ad e => by injection e with e; subst e; exact hgF) (by simp [Dm.ok]) (by simp))
  rw [show Dm.wr ⟨2, [], -1, false⟩ 1 Z = (0, ⟨2, [(1, Z)], -1, false⟩) from hw, hZl] at HW
  clear hw hc5 hf5 hn2 hu2 hZ
  refine Calls.mono HW.out ?_
  rintro e w4 ⟨rfl, F4, hD4, hM4⟩
  have hn4 : Nb w4 5 g Z := Blk.upd hn3 hM4.upd hgF
  go_wp2_with (fail)
  have hR := hid (read p ⟨2, [(1, Z)], -1, false⟩ F4 1 w4 hD4 (by simp [Dm.ok]))
  rw [show Dm.rd ⟨2, [(1, Z)], -1, false⟩ 1 = (Z, 0) from rfl] at hR
  refine Calls.mono hR.out ?_
  rintro e w5 ⟨A5, c5, rfl, hr5, hu5⟩
  simp only at hr5
  have hn5 : Nb w5 5 g Z := Blk.upd hn4 hu5 (no_ _)
  have hcv := conv_str (P := Try.prog) (w := w5) hr5 22 9 5 c5 Try.underlying22 Try.underlying5 Try.underlying9
  have hcw := conv_str (P := Try.prog) (w := w5) hn5.rn 22 9 5 256 Try.underlying22 Try.underlying5 Try.underlying9
  rw [hZl] at hcw hcv
  simp only [hZl]
  have hb5 : Below w.heap.size w w5 := ((hb1.trans (hu3.old hb1.size)).trans (hM4.upd.below (by have := hb1.size; have := hu3.size; omega) hF)).trans (hu5.old (by have := hb1.size; have := hu3.size; have := hM4.upd.size; omega))
  go_wp2
  go_ret
  exact ⟨rfl, hb5⟩
end Go.Proofs.Ytehdobagglondaa.Dl
