/-
  The walk of Decode of the reference's window.
-/
import Derived.Test.YtogijfgfcdmbnaaWh
set_option linter.unusedVariables false
set_option linter.unusedSimpArgs false
namespace Go.Proofs.Ytogijfgfcdmbnaa.We
open Go.RowKit Go.Proofs.Ytogijfgfcdmbnaa.B Go.Proofs.Ytogijfgfcdmbnaa.Df Go.Proofs.Ytogijfgfcdmbnaa.Ws Go.Proofs.Ytogijfgfcdmbnaa.Mp Go.Proofs.Ytogijfgfcdmbnaa.Wp Go.Proofs.Ytogijfgfcdmbnaa.Ww Go.Proofs.Ytogijfgfcdmbnaa.Cm Go.Proofs.Ytogijfgfcdmbnaa.Cr
open Go.Proofs.Ytogijfgfcdmbnaa.Ce (number_eq of_ end_)
def DcRef (w : World) (r : Option St) (e : Ending) (w' : World) : Prop :=
  match r with
  | none => e = .returned (.tuple #[.pointer none, .int .i64 2]) ∧ Upd No w w'
  | some x => ∃ p F, e = .returned (.tuple #[.pointer (some ⟨p, 0, none⟩), .int .i64 0]) ∧ Rw w' F p x ∧ (∀ k, F k → w.heap.size ≤ k) ∧ Upd No w w'
theorem DcRef.none_ {w : World} {r : Option St} {e : Ending} {w' : World} (hr : r = none) (h : e = .returned (.tuple #[.pointer none, .int .i64 2]) ∧ Upd No w w') : DcRef w r e w' := by
  subst hr
  exact h
theorem DcRef.some_ {w : World} {r : Option St} {x : St} {e : Ending} {w' : World} (hr : r = some x) (h : ∃ p F, e = .returned (.tuple #[.pointer (some ⟨p, 0, none⟩), .int .i64 0]) ∧ Rw w' F p x ∧ (∀ k, F k → w.heap.size ≤ k) ∧ Upd No w w') : DcRef w r e w' := by
  subst hr
  exact h
/-- While it is decoded: the reader rp, the window p. -/
structure De (T : TypeId) (w W : World) (R : Nat → Prop) (rp : Nat) (F : Nat → Prop) (p : Nat) (x : St) (rest : List Int) (bd : Bool) : Prop where
  rr : ∃ A c, Rr T W R rp A c rest bd
  wd : Rw W F p x
  rf : ∀ k, R k → ¬ F k
  ro : w.heap.size ≤ rp
  fo : ∀ k, F k → w.heap.size ≤ k
  upd : Upd No w W
  ok : Ok x
section
variable {T : TypeId} {w W W' : World} {R F F' : Nat → Prop} {rp p : Nat} {x x' : St} {rest rest' : List Int} {bd bd' : Bool}
theorem De.read (h : De T w W R rp F p x rest bd) {A : Option Addr} {c : Nat} (hr : Rr T W' R rp A c rest' bd') (hu : Upd (fun k => k = rp) W W') : De T w W' R rp F p x rest' bd' :=
  ⟨⟨A, c, hr⟩, h.wd.upd hu fun k hk e => h.rf rp hr.here (e ▸ hk), h.rf, h.ro, h.fo, h.upd.trans hu fun i hi e => by have := h.ro; omega, h.ok⟩
theorem De.added (h : De T w W R rp F p x rest bd) (hw : Rw W' F' p x') (hm : Mv F F' W W') (hok : Ok x') : De T w W' R rp F' p x' rest bd := by
  obtain ⟨A, c, hr⟩ := h.rr
  refine ⟨⟨A, c, hr.keep hm.upd h.rf⟩, hw, fun k hk hf => (hm.sub k hf).elim (h.rf k hk) fun hs => ?_, h.ro, fun k hk => (hm.sub k hk).elim (h.fo k) fun hs => Nat.le_trans h.upd.size hs, h.upd.trans hm.upd fun i hi hf => ?_, hok⟩
  · have := hr.lt k hk
    omega
  · have := h.fo i hf
    omega
end
set_option maxHeartbeats 4000000 in
set_option maxRecDepth 100000 in
theorem rdecode {w : World} {A : Option Addr} {c : Nat} {l : List Int} (hr : Rn w .u8 A l) (hc : l.length ≤ c) (hl : l.length ≤ 140737488355328) (hm : c ≤ 9223372036854775807) (hb : Byte l) :
    Calls Try.prog 23 #[.slice A l.length c] w fun e w' => DcRef w (decX l) e w' := by
  have HN := hid ((of_ A c l w hr hc hm hb).mono (fun e w' h => (⟨_, _, h.1, h.2.1, Nat.le_refl _, h.2.2⟩ : ∃ R rp, e = .returned (.pointer (some ⟨rp, 0, none⟩)) ∧ Rr 71 w' R rp A c l false ∧ w.heap.size ≤ rp ∧ Below w.heap.size w w')))
  clear hr hb
  go_enter Try.func23, Try.ntmps23
  go_wp2_with (fail)
  refine HN.out.mono ?_
  rintro e w2 ⟨R, rp, rfl, hr2, ho2, hb2⟩
  obtain ⟨n, r0, b0, hs⟩ : ∃ n r0 b0, stN l false = (n, r0, b0) := ⟨_, _, _, rfl⟩
  have hrange := stN_range l false hr2.byte
  rw [hs] at hrange
  simp only at hrange
  have HC := hid (number_eq hr2 hs)
  have HS := hid hs
  have H2 := hid (And.intro ho2 (Upd.of_below No hb2))
  clear hr2 ho2 hb2 hs HN
  go_wp2_with (fail)
  refine HC.out.mono ?_
  rintro e w3 ⟨rfl, A3, c3, hr3, hu3⟩
  have HR3 := hid hr3
  have HU3 := hid (H2.out.2.trans hu3 fun i hi e => by have := H2.out.1; omega)
  have y1 := (box2 hr3.blk).2
  clear hr3 hu3 HC
  rcases b0 with _ | _
  case' true =>
    have hout : Hid (decX l = none) := hid (dec_bad HS.out)
    go_wp2
    go_ret2
    exact .none_ hout.out ⟨rfl, HU3.out⟩
  by_cases hgt : 64 < n
  · have hout : Hid (decX l = none) := hid (by rw [dec_eq HS.out, if_neg (by omega)])
    go_wp2
    go_ret2
    exact .none_ hout.out ⟨rfl, HU3.out⟩
  obtain ⟨N, rfl⟩ : ∃ N : Nat, n = N := ⟨n.toNat, by omega⟩
  have hN : N ≤ 64 := by omega
  have HOut : Hid (decX l = fin (rdC N [] r0)) := hid (by
    rw [dec_eq HS.out, if_pos (by omega), Int.toNat_natCast])
  clear HS
  have HW4 : Hid (∃ w4 p, w4 = w3.alloc (.cells #[.slice none 0 0] 38) ∧ p = w3.heap.size ∧ De 71 w w4 R rp (fun k => k = p) p [] r0 false) := hid ⟨_, _, rfl, rfl,
    ⟨⟨A3, c3, HR3.out.keep ((Upd.refl No w3).alloc _) fun _ _ => no_ _⟩, Rw.new rfl, fun k hk e => by have := HR3.out.lt k hk; omega, H2.out.1, fun k hk => by have := HU3.out.size; omega, HU3.out.alloc _, Ok.nil⟩⟩
  go_wp2_with (fail)
  obtain ⟨w4, p, hw4, hp4, hD4⟩ := HW4.out
  rw [← hw4, ← hp4]
  have HD4 := hid hD4
  clear hw4 hp4 hD4 HW4 HR3 HU3 H2 hrange hgt y1
  go_loopw [24] (fun v24 W => ∃ (j : Nat) (F : Nat → Prop) (x : St) (rest : List Int), j ≤ N ∧ v24 = .int .u64 j ∧ Hid (De 71 w W R rp F p x rest false ∧ decX l = fin (rdC (N - j) x rest))) (fun v24 _ => N - (intOf v24).toNat)
  case atStart => exact ⟨0, _, [], r0, by omega, rfl, hid ⟨HD4.out, HOut.out⟩⟩
  case round =>
    clear HD4
    obtain ⟨j, F, x, rest, hj, rfl, HD⟩ := hrel
    by_cases hlt : j < N
    · have HEq := hid HD.out.2
      obtain ⟨Ar, cr, hrr⟩ := HD.out.1.rr
      obtain ⟨c0, r1, b1, hs1⟩ : ∃ c0 r1 b1, stN rest false = (c0, r1, b1) := ⟨_, _, _, rfl⟩
      have hg1 := stN_range rest false hrr.byte
      rw [hs1] at hg1
      simp only at hg1
      have HC1 := hid (number_eq hrr hs1)
      have HS1 := hid hs1
      have HG1 : Hid (Wp.Key c0) := hid hg1
      have hj2 : (j : Int) < (N : Int) := by omega
      have hwj : IntKind.u64.wrap ((j : Int) + 1) = (j : Int) + 1 := by
        rw [IntKind.wrap_u64]
        omega
      have HWJ := hid hwj
      clear hrr hs1 hwj hg1
      go_wp2_with (fail)
      refine HC1.out.mono ?_
      rintro e w5 ⟨rfl, A5, c5, hr5, hu5⟩
      have HD5 := hid (HD.out.1.read hr5 hu5)
      obtain ⟨k, r2, b2, hs2⟩ : ∃ k r2 b2, stN r1 b1 = (k, r2, b2) := ⟨_, _, _, rfl⟩
      have hg2 := stN_range r1 b1 hr5.byte
      rw [hs2] at hg2
      simp only at hg2
      have HC2 := hid (number_eq hr5 hs2)
      have HS2 := hid hs2
      clear hr5 hu5 hs2 HC1
      go_wp2_with (fail)
      refine HC2.out.mono ?_
      rintro e w6 ⟨rfl, A6, c6, hr6, hu6⟩
      have HD6 := hid (HD5.out.read hr6 hu6)
      have y1 := (box2 hr6.blk).2
      clear hr6 hu6 HC2 HD5
      have hNj : N - j = N - (j + 1) + 1 := by omega
      have HNj := hid hNj
      clear hNj
      rcases b2 with _ | _
      case' true =>
        have hout : Hid (decX l = none) := hid (by rw [HEq.out, HNj.out, rdC_bad _ HS1.out HS2.out]; rfl)
        go_wp2
        go_ret2
        exact .none_ hout.out ⟨rfl, HD6.out.upd⟩
      obtain rfl := stN_first (r1 := r2) HS2.out
      by_cases hk1 : k < 1
      · have hout : Hid (decX l = none) := hid (by rw [HEq.out, HNj.out, rdC_no _ HS1.out HS2.out (by omega)]; rfl)
        go_wp2
        go_ret2
        exact .none_ hout.out ⟨rfl, HD6.out.upd⟩
      by_cases hk4 : 4 < k
      · have hout : Hid (decX l = none) := hid (by rw [HEq.out, HNj.out, rdC_no _ HS1.out HS2.out (by omega)]; rfl)
        go_wp2
        go_ret2
        exact .none_ hout.out ⟨rfl, HD6.out.upd⟩
      obtain ⟨K, rfl⟩ : ∃ K : Nat, k = K := ⟨k.toNat, by omega⟩
      obtain ⟨rr, hRR⟩ := IxR.ex (fun e : Int × List Int => decide (e.1 = c0)) x
      have HHas := hid (place c0 HD6.out.wd (by have := HD6.out.ok.len; omega) (hid hRR))
      have hany : 0 ≤ rr ↔ c0 ∈ ks x := by
        rw [hRR.any]
        simp only [List.any_eq_true, decide_eq_true_eq, ks, List.mem_map]
      clear hg2 hRR
      by_cases hmem : c0 ∈ ks x
      · have hout : Hid (decX l = none) := hid (by rw [HEq.out, HNj.out, rdC_no _ HS1.out HS2.out (fun h => h.2.2 hmem)]; rfl)
        have hr0 : 0 ≤ rr := hany.2 hmem
        clear hmem hany
        go_wp2_with (fail)
        refine Calls.mono HHas.out ?_
        rintro e w8 ⟨rfl, rfl⟩
        go_wp2
        go_ret2
        exact .none_ hout.out ⟨rfl, HD6.out.upd⟩
      have hr0 : ¬ 0 ≤ rr := fun h => hmem (hany.1 h)
      have hK : 1 ≤ K ∧ K ≤ 4 := by omega
      have HEq2 : Hid (decX l = fin ((rdS c0 K x r2).bind fun q => rdC (N - (j + 1)) q.1 q.2)) := hid (by
        rw [HEq.out, HNj.out, rdC_ok _ HS1.out HS2.out ⟨by omega, by omega, hmem⟩, Int.toNat_natCast])
      clear hmem hany HEq HS1 HS2
      go_wp2_with (fail)
      refine Calls.mono HHas.out ?_
      rintro e w8 ⟨rfl, rfl⟩
      clear y1 HHas
      go_wp2_with (fail)
      obtain ⟨wo, rfl⟩ : ∃ wo : World, wo = wr := ⟨_, rfl⟩
      clear HD
      go_loopw [49] (fun v49 W => ∃ (i : Nat) (F : Nat → Prop) (x : St) (rest : List Int), i ≤ K ∧ v49 = .int .u64 i ∧ Hid (De 71 w W R rp F p x rest false ∧ (decX l = fin ((rdS c0 (K - i) x rest).bind fun q => rdC (N - (j + 1)) q.1 q.2)))) (fun v49 _ => K - (intOf v49).toNat)
      case atStart => exact ⟨0, F, x, r2, by omega, rfl, hid ⟨HD6.out, HEq2.out⟩⟩
      case round =>
        clear HD6 HEq2
        obtain ⟨i, F, x, rest, hi, rfl, HD⟩ := hrel
        by_cases hlt2 : i < K
        · obtain ⟨Ar, cr, hrr⟩ := HD.out.1.rr
          obtain ⟨s0, r1, b1, hs1⟩ : ∃ s0 r1 b1, stN rest false = (s0, r1, b1) := ⟨_, _, _, rfl⟩
          have hg1 := stN_range rest false hrr.byte
          rw [hs1] at hg1
          simp only at hg1
          have HC1 := hid (number_eq hrr hs1)
          have HS1 := hid hs1
          have hi2 : (i : Int) < (K : Int) := by omega
          have hwi : IntKind.u64.wrap ((i : Int) + 1) = (i : Int) + 1 := by
            rw [IntKind.wrap_u64]
            omega
          have HWI := hid hwi
          have HG2 : Hid (Wp.Key s0) := hid hg1
          have hKi : K - i = K - (i + 1) + 1 := by omega
          have HKi := hid hKi
          clear hrr hs1 hwi hg1 hKi
          go_wp2_with (fail)
          refine HC1.out.mono ?_
          rintro e w5 ⟨rfl, A5, c5, hr5, hu5⟩
          have HD5 := hid (HD.out.1.read hr5 hu5)
          clear hr5 hu5 HC1
          have hA := radd c0 s0 HD5.out.wd HD5.out.ok
          have hOk := HD5.out.ok.add HG1.out HG2.out
          have HNo := hid fun h => rdS_no (x := x) (l := rest) (c := c0) (s := s0) (r := r1) (K - (i + 1)) h
          have HYes := hid fun h => rdS_ok (x := x) (l := rest) (c := c0) (s := s0) (r := r1) (K - (i + 1)) h
          unfold RAdd at hA
          generalize addX x c0 s0 = r at *
          obtain ⟨b, y⟩ := r
          simp only at hA hOk HNo HYes
          have HA := hid hA
          have HOk := hid hOk
          clear hA hOk
          go_wp2_with (fail)
          refine HA.out.mono ?_
          rintro e w8 ⟨rfl, F8, hw8, hm8⟩
          have HD8 := hid (HD5.out.added hw8 hm8 HOk.out)
          obtain ⟨A8, c8, hr8⟩ := HD8.out.rr
          have y1 := (box2 hr8.blk).2
          clear hw8 hm8 HA hr8 HD5
          rcases b with _ | _
          · have hout : Hid (decX l = none) := hid (by
              rcases b1 with _ | _
              · rw [HD.out.2, HKi.out, HNo.out HS1.out rfl]; rfl
              · rw [HD.out.2, HKi.out, rdS_bad _ HS1.out]; rfl)
            clear HNo HYes
            go_wp2
            go_ret2
            exact .none_ hout.out ⟨rfl, HD8.out.upd⟩
          rcases b1 with _ | _
          case' true =>
            have hout : Hid (decX l = none) := hid (by rw [HD.out.2, HKi.out, rdS_bad _ HS1.out]; rfl)
            clear HNo HYes
            go_wp2
            go_ret2
            exact .none_ hout.out ⟨rfl, HD8.out.upd⟩
          have hout : Hid (decX l = fin ((rdS c0 (K - (i + 1)) y r1).bind fun q => rdC (N - (j + 1)) q.1 q.2)) := hid (by rw [HD.out.2, HKi.out, HYes.out HS1.out rfl])
          clear HNo HYes
          go_wp2
          go_roundw
          case rel => exact ⟨i + 1, F8, y, r1, by omega, by first | go_num | (rw [HWI.out]; go_num), hid ⟨HD8.out, hout.out⟩⟩
          case measure =>
            try rw [HWI.out]
            simp [intOf]; omega
        · obtain rfl : i = K := by omega
          have HD9 : Hid (De 71 w wr R rp F p x rest false ∧ (decX l = fin (rdC (N - (j + 1)) x rest))) := hid ⟨HD.out.1, by
            rw [HD.out.2, Nat.sub_self, rdS]
            rfl⟩
          go_wp2
          go_roundw
          case rel => exact ⟨j + 1, F, x, rest, by omega, by first | go_num | (rw [HWJ.out]; go_num), HD9⟩
          case measure =>
            try rw [HWJ.out]
            simp [intOf]; omega
    · obtain rfl : j = N := by omega
      obtain ⟨Ar, cr, hrr⟩ := HD.out.1.rr
      have HEnd := hid (end_ rp rest.length cr Ar false wr hrr.blk)
      rcases hee : (!false && decide (rest.length = 0)) with _ | _
      · have hout : Hid (decX l = none) := hid (by
          rw [HD.out.2, Nat.sub_self, rdC]
          rcases rest with _ | ⟨z, r⟩
          · simp at hee
          · rfl)
        rw [hee] at HEnd
        clear hee hrr
        go_wp2_with (fail)
        refine HEnd.out.mono ?_
        rintro e w8 ⟨rfl, rfl⟩
        go_wp2
        go_ret2
        exact .none_ hout.out ⟨rfl, HD.out.1.upd⟩
      · have hout : Hid (decX l = some x) := hid (by
          rw [HD.out.2, Nat.sub_self, rdC]
          rcases rest with _ | ⟨z, r⟩
          · rfl
          · simp at hee)
        rw [hee] at HEnd
        clear hee hrr
        go_wp2_with (fail)
        refine HEnd.out.mono ?_
        rintro e w8 ⟨rfl, rfl⟩
        go_wp2
        go_ret2
        exact .some_ hout.out ⟨p, F, rfl, HD.out.1.wd, HD.out.1.fo, HD.out.1.upd⟩
end Go.Proofs.Ytogijfgfcdmbnaa.We
