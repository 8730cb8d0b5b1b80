/-
  The walk of LetterTurned.
-/
import Derived.Test.YtbcicmpolgfgpaaLz
import Derived.Test.YtbcicmpolgfgpaaLy
set_option linter.unusedVariables false
set_option linter.unusedSimpArgs false
namespace Go.Proofs.Ytbcicmpolgfgpaa.Lz
open Go.RowKit Go.Proofs.Ytbcicmpolgfgpaa Go.Proofs.Ytbcicmpolgfgpaa.B Go.Proofs.Ytbcicmpolgfgpaa.Cw Go.Proofs.Ytbcicmpolgfgpaa.Cr Go.Proofs.Ytbcicmpolgfgpaa.Lt Go.Proofs.Ytbcicmpolgfgpaa.Lk Go.Proofs.Ytbcicmpolgfgpaa.Lj
open Go.Proofs.Ytbcicmpolgfgpaa.Lc (lb ints Wf)
theorem lb_byte (x : L) (hw : Wf x) : Byte (lb x) := by
  intro c hc
  simp only [lb, Lc.hb, List.mem_append] at hc
  rcases hc with ((((hc | hc) | hc) | hc) | hc) | hc
  · exact Cp.num_byte _ (by omega) c hc
  · simp only [sb, List.mem_map] at hc
    obtain ⟨b, _, rfl⟩ := hc
    have := b.toNat_lt
    omega
  · exact Cp.num_byte _ hw.u.1 c hc
  · exact Cp.num_byte _ (by unfold zz; split <;> omega) c hc
  · exact Cp.num_byte _ (by omega) c hc
  · obtain ⟨z, _, h⟩ := List.mem_flatMap.1 hc
    exact Cp.num_byte _ (by unfold zz; split <;> omega) c h
theorem lb_pos (x : L) : 1 ≤ (lb x).length := by
  have := Cm.num_length (x.1.size : Int)
  simp only [lb, Lc.hb, List.length_append]
  omega
theorem Sl_put1 {w : World} {base e n c : Nat} {A : Option Addr} {l : List Int} (h : Sl w base e 1 (.slice A n c) n (nums .u8 l)) {j : Nat} (hj : j < l.length) (y : Int) :
    ∃ gb off, A = some ⟨gb, off, none⟩ ∧ base ≤ gb ∧ gb < w.heap.size ∧ (∃ cs, Blk w gb e cs) ∧ ∀ W : World, W.heap[gb]? = w.heap[gb]? → Sl (W.setCell ⟨gb, off + j, none⟩ (.int .u8 y)) base e 1 (.slice A n c) n (nums .u8 (l.set j y)) := by
  have hn := h.1
  rw [nums_length, Nat.mul_one] at hn
  rcases h.2 with ⟨h1, h0⟩ | ⟨gb, off, cap, cur, hv, hb, hh, h1, h2, h3, hc⟩
  · omega
  · simp only [Value.slice.injEq, true_and] at hv
    obtain ⟨rfl, rfl⟩ := hv
    refine ⟨gb, off, rfl, hb, hh.lt, ⟨_, hh⟩, fun W hW => ⟨by rw [nums_length, List.length_set]; omega, .inr ⟨gb, off, c, _, rfl, hb, (hh.keep hW).put (off + j) (.int .u8 y), h1, h2, by simpa using h3, fun i u hu => ?_⟩⟩⟩
    have e1 : nums .u8 (l.set j y) = (nums .u8 l).set j (.int .u8 y) := by simp [nums, List.map_set]
    rw [e1, List.getElem?_set] at hu
    rw [Array.getElem?_setIfInBounds]
    by_cases hij : j = i
    · subst hij
      rw [if_pos rfl, if_pos (by rw [nums_length]; exact hj)] at hu
      rw [if_pos rfl, if_pos (by omega)]
      exact hu
    · rw [if_neg hij] at hu
      rw [if_neg (by omega)]
      exact hc i u hu
theorem cut_k (a : Int) (n : Nat) (h0 : 1 ≤ n) (h1 : n ≤ 9223372036854775807) : ∃ k : Nat, k < n ∧ wrap64 ((IntKind.u64.wrap a).tmod (n : Int)) = (k : Int) := by
  rw [IntKind.wrap_u64, Int.tmod_eq_emod_of_nonneg (by omega)]
  have h2 := Int.emod_nonneg (a % 18446744073709551616) (show (n : Int) ≠ 0 by omega)
  have h3 := Int.emod_lt_of_pos (a % 18446744073709551616) (show (0 : Int) < (n : Int) by omega)
  generalize a % 18446744073709551616 % (n : Int) = z at *
  exact ⟨z.toNat, by omega, by rw [IntWalk.wrap64_in _ (by omega)]; omega⟩
set_option maxHeartbeats 8000000 in
set_option maxRecDepth 100000 in
theorem turned (x : L) (u : Value) (idx y cut : Int) (w : World) (hx : In w x u) (hsx : x.1.size ≤ maxLen) (hwx : Wf x) (hy : 0 ≤ y ∧ y ≤ 255) :
    Calls Try.prog 6 #[val x u, .int .i64 idx, .int .u8 y, .int .i64 cut] w fun e w' => e = .returned (.bool true) ∧ Below w.heap.size w w' := by
  have hx0 := hx
  obtain ⟨Au, cu, hue, _, hq1, hq2⟩ := hx0
  subst hue
  have hsx' := hid hsx
  simp only [maxLen] at hsx hq1 hq2
  have HX := hid hx
  have HWx := hid hwx
  unfold val
  have HW1 : Hid (∃ wa g, wa = w.alloc (.cells #[.string x.1, .int .u64 x.2.1, .int .i64 x.2.2.1, .slice Au x.2.2.2.length cu] 25) ∧ g = w.heap.size ∧ Upd No w wa ∧ Blk wa g 25 #[.string x.1, .int .u64 x.2.1, .int .i64 x.2.2.1, .slice Au x.2.2.2.length cu]) := hid ⟨_, _, rfl, rfl, (Upd.refl _ _).alloc _, Blk.fresh _ _ _⟩
  clear hx hwx
  go_enter Try.func6, Try.ntmps6
  go_wp2_with (fail)
  obtain ⟨wa, g, hwa, hg, hua, hba⟩ := HW1.out
  rw [← hwa, ← hg]
  have HA := hid (And.intro hua hba)
  clear hwa hg hua hba HW1
  refine Calls.mono (Le.awake wa) ?_
  rintro e w1 ⟨rfl, hb1⟩
  have HB1 := hid (And.intro (HA.out.1.next (Upd.of_below No hb1)) (HA.out.2.upd (Upd.of_below No hb1) (no_ _)))
  clear hb1 HA
  obtain ⟨y0, y1, y2, y3⟩ := box HB1.out.2
  have HF := hid (Le.few (some ⟨w1.heap.size, 0, none⟩) 1 [(x, .slice Au x.2.2.2.length cu)] _ (Rd_lit w1 25 4 1 (Ib.pcells [(x, .slice Au x.2.2.2.length cu)]) rfl) (by simp) (fun q hq => by
    obtain rfl := List.mem_singleton.1 hq
    exact ⟨(HX.out.upd HB1.out.1 (fun _ _ => no_ _)).upd ((Upd.refl No w1).alloc _) (fun _ _ => no_ _), hsx'.out⟩))
  simp only [Ib.pcells, cells, List.flatMap_cons, List.flatMap_nil, List.append_nil, List.length_cons, List.length_nil] at HF
  have HW2 : Hid (∃ w2, w2 = w1.alloc (.cells #[.string x.1, .int .u64 x.2.1, .int .i64 x.2.2.1, .slice Au x.2.2.2.length cu] 25) ∧ Upd No w w2 ∧ Blk w2 g 25 #[.string x.1, .int .u64 x.2.1, .int .i64 x.2.2.1, .slice Au x.2.2.2.length cu]) := hid ⟨_, rfl, HB1.out.1.alloc _, HB1.out.2.alloc _⟩
  go_wp2_with (fail)
  refine Calls.mono HF.out ?_
  rintro e w2 ⟨b, rfl, hw2, hb⟩
  obtain ⟨w2', hw2', hu2, hb2⟩ := HW2.out
  have HB2 : Hid (Upd No w w2 ∧ Blk w2 g 25 #[.string x.1, .int .u64 x.2.1, .int .i64 x.2.2.1, .slice Au x.2.2.2.length cu]) := hid (by
    rw [← hw2, ← hw2']
    exact ⟨hu2, hb2⟩)
  clear hw2 hw2' hu2 hb2 HW2 HF y0 y1 y2 y3
  rcases b with _ | _
  · clear hb
    go_wp2_with (fail)
    refine Calls.mono (Le.awake w2) ?_
    rintro e w3 ⟨rfl, hb3⟩
    have HE := hid ((HB2.out.1.old (Nat.le_refl _)).trans (hb3.mono HB2.out.1.size))
    clear hb3
    go_wp2
    go_ret
    exact ⟨rfl, HE.out⟩
  clear hb
  obtain ⟨y0, y1, y2, y3⟩ := box HB2.out.2
  have hIn2 := HX.out.upd HB2.out.1 (fun _ _ => no_ _)
  rcases hf : formed x with _ | _
  · have HEn := hid (Lc.encode_bad x _ w2 hIn2 hf)
    unfold val at HEn
    clear hIn2
    go_wp2_with (fail)
    refine HEn.out.mono ?_
    rintro e w3 ⟨rfl, hu3⟩
    have HE := hid (HB2.out.1.next hu3)
    clear hu3
    go_wp2
    go_ret
    exact ⟨rfl, HE.out.old (Nat.le_refl _)⟩
  have HEn := hid (Lc.encode_ x _ w2 hIn2 hf HWx.out)
  unfold Lt.val Lc.EncOut at HEn
  have HFm := hid hf
  clear hIn2 hf
  go_wp2_with (fail)
  refine HEn.out.mono ?_
  rintro e w3 ⟨v3, rfl, ho3, hb3⟩
  obtain ⟨A3, c3, rfl, hc31, hc32⟩ := own_shape ho3
  have hu3 := Upd.of_below No hb3
  have HB3 := hid (And.intro (HB2.out.1.next hu3) (And.intro ho3 (own_base ho3 (Nat.zero_le _))))
  clear ho3 hb3 hu3 HEn y0 y1 y2 y3
  obtain ⟨l, hl⟩ : ∃ l, l = lb x := ⟨_, rfl⟩
  rw [← hl] at HB3 hc31 ⊢
  have HLb := hid hl
  have hl1 : 1 ≤ l.length := by rw [hl]; exact lb_pos x
  have hl2 : l.length ≤ 1000 := by
    have h1 := Lc.lb_le x
    have h2 := HFm.out
    simp only [formed, Bool.and_eq_true, decide_eq_true_eq] at h2
    rw [hl]
    omega
  have HBy : Hid (Byte l) := hid (by rw [hl]; exact lb_byte x HWx.out)
  clear hl
  have hwl : IntKind.u64.wrap (l.length : Int) = (l.length : Int) := by
    rw [IntKind.wrap_u64]
    omega
  have hl0 : ¬ (l.length : Int) = 0 := by omega
  obtain ⟨k, hk, hke⟩ := cut_k cut l.length hl1 (by omega)
  obtain ⟨k2, hk2, hke2⟩ := cut_k idx l.length hl1 (by omega)
  have hcut := cut_to (P := Try.prog) 32 5 .i64 Try.underlying32 (by kernel_rfl) A3 l.length c3 k (wrap64 ((IntKind.u64.wrap cut).tmod (l.length : Int))) hke (by omega)
  have hcm : c3 ≤ 9223372036854775807 := by simpa [maxLen] using hc32
  have hlk : (l.take k).length = k := by rw [List.length_take]; omega
  have hD1 := Lj.decode (c := c3) (Rn.take (k := .u8) (l := l) (Rd.of_own HB3.out.2.1) (i := k) (by omega)) (by rw [hlk]; omega) (by rw [hlk]; omega) hcm (fun z hz => HBy.out z (List.mem_of_mem_take hz))
  rw [hlk, HLb.out, dec_less x k HFm.out HWx.out (by rw [← HLb.out]; exact hk)] at hD1
  unfold DcOut at hD1
  simp only at hD1
  have HD1 := hid hD1
  clear hD1 hlk
  go_wp2_with (fail)
  refine Calls.mono HD1.out ?_
  rintro e w4 ⟨v4, rfl, hv4, hu4⟩
  unfold Lt.val
  obtain ⟨A4, c4, rfl, hq4⟩ := hv4
  have hU4 := HB3.out.1.next hu4
  have hO4 := own_upd HB3.out.2.1 hu4 (fun _ _ => no_ _)
  have HO : Hid (∀ o, ((w4.alloc o).alloc (.cells #[] 5)).ownsRow w4.heap.size 5 1 (.slice (some ⟨w4.heap.size + 1, 0, none⟩) 0 0) 0 [] ∧ Rd ((w4.alloc o).alloc (.cells #[] 5)) 1 A3 l.length (nums .u8 l)) := hid fun o => by
    have h1 := World.ownsRow_made (base := w4.heap.size) (e := 5) (size := 1) (w4.alloc o) #[] 0 (by simp) (Nat.zero_le _) rfl
    rw [show (w4.alloc o).heap.size = w4.heap.size + 1 from by simp] at h1
    exact ⟨h1, Rd.alloc (Rd.alloc (Rd.of_own hO4) (by omega) _) (by omega) _⟩
  have HU4 := hid (And.intro hU4 hO4)
  clear hq4 hu4 hU4 hO4 HD1 hcut hke
  go_wp2_with (at_builtin; first
    | (refine ap_row w4.heap.size rfl (.tmp 49) (.tmp 50) 32 5 (.int .u8 0) 1 1 rfl Try.underlying32 u8_info rfl (by omega) (.slice (some ⟨w4.heap.size + 1, 0, none⟩) 0 0) 0 [] A3 l.length c3 (nums .u8 l) rfl rfl (HO.out _).1 (HO.out _).2 (nums_one _ _) (by omega) (by omega) (by simp; omega) ?_; intro A5 c5 w5 ho5 hg5 hat5; rw [Nat.zero_add, List.nil_append] at ho5; rw [Nat.zero_add])
    | (refine ap_row w4.heap.size rfl (.tmp 51) (.tmp 53) 32 5 (.int .u8 0) 1 1 rfl Try.underlying32 u8_info rfl (by omega) (.slice A5 l.length c5) l.length (nums .u8 l) (some ⟨w5.heap.size, 0, none⟩) 1 1 (nums .u8 [y]) rfl rfl (own_upd ho5 ((Upd.refl No w5).alloc _) (fun _ _ => no_ _)) (Rd_lit w5 _ 1 1 (nums .u8 [y]) rfl) (nums_one _ _) (by omega) (by omega) (by have := hg5.size; simp at this ⊢; omega) ?_; intro A6 c6 w6 ho6 hg6 hat6))
  have hu45 : Upd No w4 w5 := (((Upd.refl No w4).alloc _).alloc _).grown hg5 (fun k hk => .inr (by have h : w4.heap.size + 1 = k := (by simpa [Value.ownBlock] using hk); omega))
  have hu46 : Upd No w4 w6 := (hu45.alloc _).grown hg6 (fun k hk => .inr (ho5.lt k hk).1)
  have HU6 := hid (And.intro (HU4.out.1.next hu46) (own_upd HU4.out.2 hu46 (fun _ _ => no_ _)))
  obtain ⟨_, _, hs6, hc61, hc62⟩ := own_shape ho6
  simp only [Value.slice.injEq, true_and] at hs6
  obtain ⟨rfl, rfl⟩ := hs6
  have hcm6 : c6 ≤ 9223372036854775807 := by simpa [maxLen] using hc62
  have hly : (l ++ [y]).length = l.length + 1 := by simp
  rw [← nums_append] at ho6
  have hD2 := Lj.decode (A := A6) (c := c6) (l := l ++ [y]) (w := w6) (by
    have := Rd.of_own ho6
    rw [← hly] at this
    exact this) (by rw [hly]; exact hc61) (by rw [hly]; omega) hcm6 (fun z hz => by
      rcases List.mem_append.1 hz with hz | hz
      · exact HBy.out z hz
      · obtain rfl := List.mem_singleton.1 hz
        exact hy)
  rw [hly, HLb.out, dec_more x y HFm.out HWx.out] at hD2
  rw [← HLb.out] at hD2
  unfold DcOut at hD2
  simp only at hD2
  have HD2 := hid hD2
  clear hD2 ho5 ho6 hg5 hg6 hat5 hat6 hu45 hu46 hly HO
  go_wp2_with (fail)
  refine Calls.mono HD2.out ?_
  rintro e w7 ⟨v7, rfl, hv7, hu7⟩
  unfold Lt.val
  obtain ⟨A7, c7, rfl, hq7⟩ := hv7
  have HW8 : Hid (∃ w8, w8 = w7.alloc (.cells #[.string zero.1, .int .u64 zero.2.1, .int .i64 zero.2.2.1, .slice A7 zero.2.2.2.length c7] 25) ∧ Upd No w w8 ∧ Sl w8 w2.heap.size 5 1 (.slice A3 l.length c3) l.length (nums .u8 l)) := hid (by
    have h1 := (HU6.out.1.next hu7).alloc (.cells #[.string zero.1, .int .u64 zero.2.1, .int .i64 zero.2.2.1, .slice A7 zero.2.2.2.length c7] 25)
    exact ⟨_, rfl, h1, Sl.of_own (own_upd (own_upd HU6.out.2 hu7 (fun _ _ => no_ _)) ((Upd.refl No w7).alloc _) (fun _ _ => no_ _))⟩)
  obtain ⟨_, rfl, hu8, hs8⟩ := HW8.out
  obtain ⟨gb, off, rfl, hgb, hgl, ⟨cs, hbb⟩, hput⟩ := Sl_put1 hs8 hk2 y
  have fz := hbb.free (off + k2)
  have k0 := Rn.cell (k := .u8) (l := l) (Sl.rd hs8) hk2
  rw [add_off] at k0
  have hw2 := HB2.out.1.size
  have HP : Hid (∃ w9, w9 = (w7.alloc (.cells #[.string zero.1, .int .u64 zero.2.1, .int .i64 zero.2.2.1, .slice A7 zero.2.2.2.length c7] 25)).setCell ⟨gb, off + k2, none⟩ (.int .u8 y) ∧ Upd No w w9 ∧ Rn w9 .u8 (some ⟨gb, off, none⟩) (l.set k2 y)) := hid ⟨_, rfl, hu8.set (.inr (by show w.heap.size ≤ gb; omega)) _, by
    have := Sl.rd (hput _ rfl)
    unfold Rn
    rw [List.length_set]
    exact this⟩
  have hk2i : (k2 : Int) < (l.length : Int) := by omega
  have hk20 : (0 : Int) ≤ (k2 : Int) := by omega
  clear hq7 hu7 hu8 hs8 hbb hput HD2 HW8 hgl hgb hw2 HU6 HU4 HB3
  go_wp2_with (fail)
  obtain ⟨w9, hw9, hu9, hr9⟩ := HP.out
  rw [← hw9]
  have hll : (l.set k2 y).length = l.length := List.length_set ..
  have hby9 : Byte (l.set k2 y) := fun z hz => by
    rcases List.mem_or_eq_of_mem_set hz with hz | rfl
    · exact HBy.out z hz
    · exact hy
  have HR := hid fun W (hu : Upd No w9 W) => (Rd.upd hr9 (by omega) hu fun _ _ => no_ _ : Rn W .u8 (some ⟨gb, off, none⟩) (l.set k2 y))
  have hD := fun W (hu : Upd No w9 W) => Lj.decode (c := c3) (HR.out W hu) (by rw [hll]; exact hc31) (by rw [hll]; omega) hcm hby9
  have hRr := fun W (hu : Upd No w9 W) => Lj.rdecode (c := c3) (HR.out W hu) (by rw [hll]; exact hc31) (by rw [hll]; omega) hcm hby9
  rw [hll] at hD hRr
  unfold DcOut at hD hRr
  generalize decL (l.set k2 y) = q at *
  obtain ⟨x', cd⟩ := q
  simp only at hD hRr
  have HD := hid hD
  have HRr := hid hRr
  have HU9 := hid hu9
  clear hD hRr hw9 hu9 hr9 hll hby9 HR HP fz k0
  refine Calls.mono (HD.out _ (Upd.refl _ _)) ?_
  rintro e w10 ⟨v10, rfl, hv10, hu10⟩
  unfold Lt.val
  obtain ⟨Av, cv, rfl, hvq⟩ := hv10
  have hv10 : In w10 x' (.slice Av x'.2.2.2.length cv) := ⟨Av, cv, rfl, hvq⟩
  have hW : ∃ w11 h, w11 = w10.alloc (.cells #[.string x'.1, .int .u64 x'.2.1, .int .i64 x'.2.2.1, .slice Av x'.2.2.2.length cv] 25) ∧ h = w10.heap.size ∧ Upd No w10 w11 ∧ Blk w11 h 25 #[.string x'.1, .int .u64 x'.2.1, .int .i64 x'.2.2.1, .slice Av x'.2.2.2.length cv] := ⟨_, _, rfl, rfl, (Upd.refl _ _).alloc _, Blk.fresh _ _ _⟩
  have HV10 := hid (And.intro hv10 hu10)
  clear hvq hv10 hu10
  go_wp2_with (fail)
  obtain ⟨w11, h, hw11, hh, hu11, hbg⟩ := hW
  rw [← hw11, ← hh]
  have HU11 := hid (HV10.out.2.next hu11)
  have HV11 := hid (And.intro (HV10.out.1.upd hu11 fun _ _ => no_ _) hbg)
  clear hw11 hh hu11 hbg HV10
  refine Calls.mono (HRr.out _ HU11.out) ?_
  rintro e w12 ⟨v12, rfl, hv12, hu12⟩
  unfold Lt.val
  obtain ⟨Aw, cw, rfl, hvq⟩ := hv12
  have hv12 : In w12 x' (.slice Aw x'.2.2.2.length cw) := ⟨Aw, cw, rfl, hvq⟩
  have hb12 := HV11.out.2.upd hu12 (no_ _)
  obtain ⟨y0, y1, y2, y3⟩ := box (hb12.alloc (.cells #[.string x'.1, .int .u64 x'.2.1, .int .i64 x'.2.2.1, .slice Aw x'.2.2.2.length cw] 25))
  have hal : Upd No w12 (w12.alloc (.cells #[.string x'.1, .int .u64 x'.2.1, .int .i64 x'.2.2.1, .slice Aw x'.2.2.2.length cw] 25)) := (Upd.refl _ _).alloc _
  have HS := hid (Ls.same_ x' x' (.slice Av x'.2.2.2.length cv) (.slice Aw x'.2.2.2.length cw) _ ((HV11.out.1.upd hu12 fun _ _ => no_ _).upd hal fun _ _ => no_ _) (hv12.upd hal fun _ _ => no_ _))
  unfold Lt.val at HS
  simp only [decide_true] at HS
  have HU13 := hid (HU9.out.next ((HU11.out.next hu12).next hal))
  clear hvq hv12 hu12 hb12 hal
  go_wp2_with (fail)
  refine Calls.mono HS.out ?_
  rintro e w14 ⟨rfl, hu14⟩
  have HE := hid (HU13.out.next hu14)
  clear hu14
  go_wp2
  go_ret
  exact ⟨rfl, HE.out.old (Nat.le_refl _)⟩
end Go.Proofs.Ytbcicmpolgfgpaa.Lz
