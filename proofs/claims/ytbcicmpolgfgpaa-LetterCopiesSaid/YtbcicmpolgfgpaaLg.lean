/-
  The walk of reevelaw11.LetterCopies.
-/
import Derived.Test.YtbcicmpolgfgpaaLe
import Derived.Test.YtbcicmpolgfgpaaLp
import Derived.Test.YtbcicmpolgfgpaaIr0
set_option linter.unusedVariables false
set_option linter.unusedSimpArgs false
namespace Go.Proofs.Ytbcicmpolgfgpaa.Lg
open Go.RowKit Go.Proofs.Ytbcicmpolgfgpaa.B Go.Proofs.Ytbcicmpolgfgpaa.Lt Go.Proofs.Ytbcicmpolgfgpaa.Ib Go.Proofs.Ytbcicmpolgfgpaa.Ls Go.Proofs.Ytbcicmpolgfgpaa.Ir Go.Proofs.Ytbcicmpolgfgpaa.In Go.Proofs.Ytbcicmpolgfgpaa.Le
set_option maxHeartbeats 4000000 in
set_option maxRecDepth 100000 in
theorem law (x : L) (u : Value) (w : World) (hx : Lt.In w x u) (hsz : x.1.size ≤ maxLen) :
    Calls Try.prog 3 #[val x u] w fun e w' => e = .returned (.bool true) ∧ Below w.heap.size w w' := by
  have hx0 := hx
  obtain ⟨Au, cu, hue, _, hq1, hq2⟩ := hx0
  subst hue
  have hsz' := hid hsz
  simp only [maxLen] at hsz hq1 hq2
  unfold val
  have hal : Upd No w (w.alloc (.cells #[.string x.1, .int .u64 x.2.1, .int .i64 x.2.2.1, .slice Au x.2.2.2.length cu] 25)) := (Upd.refl _ _).alloc _
  have hbx := Blk.fresh w 25 #[.string x.1, .int .u64 x.2.1, .int .i64 x.2.2.1, .slice Au x.2.2.2.length cu]
  go_enter Try.func3, Try.ntmps3
  go_wp2_with (fail)
  generalize w.alloc (.cells #[.string x.1, .int .u64 x.2.1, .int .i64 x.2.2.1, .slice Au x.2.2.2.length cu] 25) = wa at *
  refine (awake wa).mono ?_
  rintro e w1 ⟨rfl, hb1⟩
  have hu1 : Upd No w w1 := hal.next (Upd.of_below No hb1)
  have hB1 := hbx.upd (Upd.of_below No hb1) (no_ _)
  clear hbx hal hb1
  obtain ⟨y0, y1, y2, y3⟩ := box hB1
  have hu2 := hu1.alloc (.cells #[.string x.1, .int .u64 x.2.1, .int .i64 x.2.2.1, .slice Au x.2.2.2.length cu] 25)
  have hB2 := hB1.alloc (.cells #[.string x.1, .int .u64 x.2.1, .int .i64 x.2.2.1, .slice Au x.2.2.2.length cu] 25)
  have HF := hid (few (some ⟨w1.heap.size, 0, none⟩) 1 [(x, .slice Au x.2.2.2.length cu)] _ (Rd_lit w1 25 4 1 (pcells [(x, .slice Au x.2.2.2.length cu)]) rfl) (by simp) (fun y hy => by
    obtain rfl : y = (x, .slice Au x.2.2.2.length cu) := by simpa using hy
    exact ⟨hx.upd hu2 (fun _ _ => no_ _), hsz'.out⟩))
  simp only [pcells, cells, List.flatMap_cons, List.flatMap_nil, List.append_nil, List.length_cons, List.length_nil] at HF
  go_wp2_with (fail)
  refine Calls.mono HF.out ?_
  rintro e w2 ⟨b, rfl, rfl, hb⟩
  clear y0 y1 y2 y3 hu1 hB1 HF
  generalize w1.alloc (.cells #[.string x.1, .int .u64 x.2.1, .int .i64 x.2.2.1, .slice Au x.2.2.2.length cu] 25) = w2 at *
  cases b
  · clear hb
    go_wp2_with (fail)
    refine (awake w2).mono ?_
    rintro e w3 ⟨rfl, hb2⟩
    have hf := (hu2.old (Nat.le_refl _)).trans (hb2.mono hu2.size)
    go_wp2
    go_ret
    exact ⟨rfl, hf⟩
  · have hle : x.2.2.2.length ≤ 1000 := ((hb rfl).1 _ (List.mem_singleton_self _)).2
    clear hb
    obtain ⟨y0, y1, y2, y3⟩ := box hB2
    have HC := hid (rcopy_ x _ w2 (hx.upd hu2 (fun _ _ => no_ _)) (by omega))
    unfold val at HC
    go_wp2_with (fail)
    refine Calls.mono HC.out ?_
    rintro e w3 ⟨v3, rfl, hv3, hu3, _⟩
    have hv3' := hv3
    obtain ⟨A3, c3, rfl, _⟩ := hv3'
    unfold val
    have hal3 : Upd No w3 (w3.alloc (.cells #[.string x.1, .int .u64 x.2.1, .int .i64 x.2.2.1, .slice A3 x.2.2.2.length c3] 25)) := (Upd.refl _ _).alloc _
    have hB3 := Blk.fresh w3 25 #[.string x.1, .int .u64 x.2.1, .int .i64 x.2.2.1, .slice A3 x.2.2.2.length c3]
    have hB4 := (hB2.upd hu3 (no_ _)).upd hal3 (no_ _)
    have hu4 := (hu2.next hu3).next hal3
    have hI4 := hv3.upd hal3 (fun _ _ => no_ _)
    clear y0 y1 y2 y3 HC hB2 hu2 hu3 hv3 hal3
    obtain ⟨y0, y1, y2, y3⟩ := box hB4
    go_wp2_with (fail)
    generalize w3.alloc (.cells #[.string x.1, .int .u64 x.2.1, .int .i64 x.2.2.1, .slice A3 x.2.2.2.length c3] 25) = w4 at *
    have HC := hid (copy_ x _ w4 (hx.upd hu4 (fun _ _ => no_ _)) (by omega))
    unfold val at HC
    refine Calls.mono HC.out ?_
    rintro e w5 ⟨v5, rfl, hv5, hu5, hf5⟩
    have hv5' := hv5
    obtain ⟨A5, c5, rfl, _⟩ := hv5'
    unfold val
    have hal5 : Upd No w5 (w5.alloc (.cells #[.string x.1, .int .u64 x.2.1, .int .i64 x.2.2.1, .slice A5 x.2.2.2.length c5] 25)) := (Upd.refl _ _).alloc _
    have hB5 := Blk.fresh w5 25 #[.string x.1, .int .u64 x.2.1, .int .i64 x.2.2.1, .slice A5 x.2.2.2.length c5]
    have hv5a := hv5.upd hal5 (fun _ _ => no_ _)
    have hf5a : ∀ k, (Value.slice A5 x.2.2.2.length c5).ownBlock = some k → w4.heap.size ≤ k ∧ ∃ cs, Blk (w5.alloc (.cells #[.string x.1, .int .u64 x.2.1, .int .i64 x.2.2.1, .slice A5 x.2.2.2.length c5] 25)) k 2 cs := fun k hk => ⟨(hf5 k hk).1, (hf5 k hk).2.elim fun cs hB => ⟨cs, hB.alloc _⟩⟩
    have HU := hid (hu5.next hal5)
    clear y0 y1 y2 y3 HC hv5 hf5 hu5 hal5
    obtain ⟨y0, y1, y2, y3⟩ := box hB5
    go_wp2_with (fail)
    generalize (w5.alloc (.cells #[.string x.1, .int .u64 x.2.1, .int .i64 x.2.2.1, .slice A5 x.2.2.2.length c5] 25)) = w6 at *
    have HLp := Lp.start hv5a (fun k hk => (hf5a k hk).2)
    have HK : Hid (∀ W, Lp w6 W (.slice A5 x.2.2.2.length c5) x.2.2.2.length → Upd No w4 W ∧ Blk W w5.heap.size 25 #[.string x.1, .int .u64 x.2.1, .int .i64 x.2.2.1, .slice A5 x.2.2.2.length c5]) :=
      hid fun W hL => ⟨Upd.young ((HU.out.mono fun _ _ h => h.elim).next hL.1) fun k hk => (hf5a k hk).1, Lp.box hL hB5 fun k hk => (hf5a k hk).2⟩
    obtain ⟨wo, hwo⟩ : ∃ wo : World, wo = w6 := ⟨_, rfl⟩
    go_loopw [22] (fun vv W => ∃ j : Nat, j ≤ x.2.2.2.length ∧ vv = .int .i64 j ∧ Hid (Lp w6 W (.slice A5 x.2.2.2.length c5) x.2.2.2.length)) (fun vv _ => x.2.2.2.length - (intOf vv).toNat)
    case atStart => exact ⟨0, by omega, rfl, hid HLp⟩
    case round =>
      obtain ⟨j, hj, rfl, hH⟩ := hrel
      by_cases hlt : j < x.2.2.2.length
      · obtain ⟨g, off, cg, cs, hve, hB, hcs⟩ := hH.out.2 (by omega)
        simp only [Value.slice.injEq, true_and] at hve
        obtain ⟨rfl, rfl⟩ := hve
        obtain ⟨zx, hzx⟩ := hcs j hlt
        have hcj : wr.cell? ⟨g, off + j, none⟩ = some (.int .i64 zx) := (hB.cell _).trans hzx
        have hfj := hB.free (off + j)
        obtain ⟨q0, q1, q2, q3⟩ := box (HK.out wr hH.out).2
        have hj1 : (0 : Int) ≤ (j : Int) := by omega
        have hj2 : (j : Int) < (x.2.2.2.length : Int) := by omega
        have HN := hid (fun z => Lp.put hH.out rfl hB hcs hlt z)
        clear hzx
        go_wp2
        go_roundw
        case rel => exact ⟨j + 1, by omega, by go_num, hid (HN.out _)⟩
        case measure => simp [intOf]; omega
      · obtain rfl : j = x.2.2.2.length := by omega
        have hU7 := (HK.out wr hH.out).1
        clear hH HK HLp hB5 y0 y1 y2 y3
        generalize wr = w7 at *
        clear hwo
        obtain ⟨y0, y1, y2, y3⟩ := box (hB4.upd hU7 (no_ _))
        obtain ⟨z0, z1, z2, z3⟩ := box (hB3.upd hU7 (no_ _))
        have HS := hid (same_ x x _ _ w7 ((hx.upd hu4 (fun _ _ => no_ _)).upd hU7 (fun _ _ => no_ _)) (hI4.upd hU7 (fun _ _ => no_ _)))
        have hbel := hid (hu4.next hU7)
        unfold val at HS
        go_wp2_with (fail)
        refine Calls.mono HS.out ?_
        rintro e w8 ⟨rfl, hu8⟩
        have hbel2 := hid ((hbel.out.next hu8).old (Nat.le_refl _))
        clear hu8
        go_wp2
        go_ret
        exact ⟨by simp, hbel2.out⟩
end Go.Proofs.Ytbcicmpolgfgpaa.Lg
