/-
  The walk of SuperCuts.
-/
import Derived.Test.YtbcmaobopglooaaUx
set_option linter.unusedVariables false
set_option linter.unusedSimpArgs false
namespace Go.Proofs.Ytbcmaobopglooaa.Up
open Go.RowKit Go.Proofs.Ytbcmaobopglooaa.B Go.Proofs.Ytbcmaobopglooaa.Cm Go.Proofs.Ytbcmaobopglooaa.Sm Go.Proofs.Ytbcmaobopglooaa.Dk
def st (u : List Int) : Value := .string (strOfNums u)
theorem str_info : (Try.prog.info? 9).map (fun i => (i.zero, i.size, i.bytes)) = some (some (.string ⟨#[]⟩), 1, 16) := by kernel_rfl
theorem own_one (w : World) (e : TypeId) (v : Value) : (w.alloc (.cells #[v] e)).ownsRow w.heap.size e 1 (.slice (some ⟨w.heap.size, 0, none⟩) 1 1) 1 [v] :=
  ⟨rfl, .inr ⟨w.heap.size, 1, #[v], rfl, Nat.le_refl _, Blk.fresh w e #[v], Nat.le_refl _, by simp [maxLen], rfl, rfl⟩⟩
theorem kept_at {ps : List (List Int)} {n : Nat} (hn : n ≤ ps.length) : (ps.take n).getLastD [] = ([] :: ps).getD n [] := by
  cases n with
  | zero => rfl
  | succ n =>
    rw [List.take_succ_eq_append_getElem (by omega), getLastD_snoc]
    simp [List.getD_eq_getElem?_getD, List.getElem?_eq_getElem (show n < ps.length by omega)]
/-- The record, its disk, and the texts that were kept. -/
structure Ks (w W : World) (F D : Nat → Prop) (q p nb : Nat) (ps : List (List Int)) (v : Value) : Prop where
  pr : Pr w W F D q p (mOf ps) (dOf nb ps)
  vd : Vd nb ps
  tx : W.ownsRow 0 9 1 v (ps.length + 1) (([] :: ps).map st)
  tn : ∀ g, v.ownBlock = some g → w.heap.size ≤ g ∧ ¬ F g ∧ ¬ D g
section
variable {w W W' : World} {F D F' D' G : Nat → Prop} {q p nb : Nat} {ps : List (List Int)} {v : Value}
theorem Ks.quiet (h : Ks w W F D q p nb ps v) (hu : Upd No W W') : Ks w W' F D q p nb ps v := ⟨h.pr.quiet hu, h.vd, own_upd h.tx hu fun _ _ => no_ _, h.tn⟩
theorem Ks.sub (h : Ks w W F D q p nb ps v) (hs : ∀ k, (F' k ∨ D' k) → (F k ∨ D k) ∨ W.heap.size ≤ k) : ∀ g, v.ownBlock = some g → w.heap.size ≤ g ∧ ¬ F' g ∧ ¬ D' g := fun g hg => by
  obtain ⟨t1, t2, t3⟩ := h.tn g hg
  have hlt := (h.tx.lt g hg).2
  refine ⟨t1, fun h' => ?_, fun h' => ?_⟩
  · rcases hs g (.inl h') with h' | h'
    · exact h'.elim t2 t3
    · omega
  · rcases hs g (.inr h') with h' | h'
    · exact h'.elim t2 t3
    · omega
/-- A text is put behind the others. -/
theorem Ks.push {W1 W2 : World} {u : List Int} {A : Option Addr} {c : Nat} (hp : Pr w W F D q p (mOf (ps ++ [u])) (dOf nb (ps ++ [u]))) (hv : Vd nb (ps ++ [u])) (htn : ∀ g, v.ownBlock = some g → w.heap.size ≤ g ∧ ¬ F g ∧ ¬ D g)
    (hal : Upd No W W1) (ho : W2.ownsRow 0 9 1 (.slice A (ps.length + 1 + 1) c) (ps.length + 1 + 1) (([] :: ps).map st ++ [st u])) (hg : W1.grownBy W2 v.ownBlock) (hat : ∀ g, (Value.slice A (ps.length + 1 + 1) c).ownBlock = some g → v.ownBlock = some g ∨ W1.heap.size ≤ g) :
    Ks w W2 F D q p nb (ps ++ [u]) (.slice A (ps.length + 1 + 1) c) := by
  have hu : Upd (fun k => v.ownBlock = some k) W W2 := (hal.mono fun _ _ h => h.elim).grown hg fun k hk => .inl hk
  refine ⟨⟨hp.sp.upd hu fun k hk e => (htn k e).2.1 hk, hp.dk.upd hu fun k hk e => (htn k e).2.2 hk, hp.fd, hp.own, hp.bel.trans (hu.below hp.bel.size fun k hk => (htn k hk).1)⟩, hv, ?_, fun g hg => ?_⟩
  · rw [List.length_append, List.length_singleton]
    simpa using ho
  · rcases hat g hg with e | e
    · exact htn g e
    · have hz := hal.size
      have h3 := hp.bel.size
      exact ⟨by omega, fun h => by have := hp.sp.lt g h; omega, fun h => by have := hp.dk.lt g h; omega⟩
theorem Ks.text {c : Nat} {A : Option Addr} (h : Ks w W F D q p nb ps (.slice A (ps.length + 1) c)) {n : Nat} (hn : n ≤ ps.length) : ∃ ad, A = some ad ∧ ∀ W', Upd No W W' → W'.cell? (ad.add n) = some (.string (strOfNums (([] :: ps).getD n []))) := by
  obtain ⟨ad, e, hc⟩ := (Rd.of_own h.tx).2 (by omega)
  refine ⟨ad, e, fun W' hu => ?_⟩
  obtain ⟨ad', e', hc'⟩ := (Rd.of_own (own_upd h.tx hu fun _ _ => no_ _)).2 (by omega)
  rw [e] at e'
  injection e' with e'
  subst e'
  refine hc' n _ ?_
  rw [List.getElem?_map, List.getD_eq_getElem?_getD, List.getElem?_eq_getElem (by simp; omega)]
  rfl
end
set_option maxHeartbeats 8000000 in
set_option maxRecDepth 100000 in
theorem cuts_law (A : Option Addr) (c : Nat) (xs : List Lb) (w : World) (hr : Rd w 1 A xs.length (xs.map (·.2))) (hx : xs.length ≤ maxLen ∧ ∀ x ∈ xs, InB w x) :
    Calls Try.prog 4 #[.slice A xs.length c] w fun e w' => e = .returned (.bool true) ∧ Below w.heap.size w w' := by
  have hl1 : xs.length ≤ 9223372036854775807 := by have := hx.1; simp only [maxLen] at this; omega
  have HX := hid hx.2
  have HRx := hid hr
  clear hx hr
  by_cases h20 : (40 : Int) < (xs.length : Int)
  · go_enter Try.func4, Try.ntmps4
    go_wp2_with (fail)
    refine Calls.mono (awake w) ?_
    rintro e w1 ⟨rfl, hb1⟩
    have HB1 := hid hb1
    clear hb1
    go_wp2_with (fail)
    refine Calls.mono (awake w1) ?_
    rintro e w2 ⟨rfl, hb2⟩
    have HB2 := hid (HB1.out.trans (hb2.mono HB1.out.size))
    clear hb2
    go_wp2
    go_ret
    exact ⟨rfl, HB2.out⟩
  have hxn : xs.length ≤ 40 := by omega
  have HV0 := hid (Vd.new (nb := 3) (by omega) (by omega))
  go_enter Try.func4, Try.ntmps4
  go_wp2_with (fail)
  refine Calls.mono (awake w) ?_
  rintro e w1 ⟨rfl, hb1⟩
  have HND := hid (new_disk 3 w w1 hb1 (by omega))
  clear hb1
  go_wp2_with (fail)
  refine HND.out.mono ?_
  rintro e w2 ⟨p, D0, rfl, hd2⟩
  have HO := hid (open_pd (nb := 3) (ps := []) hd2 HV0.out)
  clear hd2 HND
  go_wp2_with (fail)
  refine HO.out.mono ?_
  rintro e w3 ⟨q, F0, rfl, hp3, _, _⟩
  have HP3 : Hid (Ks w (w3.alloc (.cells #[.string ⟨#[]⟩] 9)) F0 D0 q p 3 [] (.slice (some ⟨w3.heap.size, 0, none⟩) 1 1)) := hid ⟨hp3.quiet ((Upd.refl _ _).alloc _), HV0.out, own_base (own_one w3 9 (.string ⟨#[]⟩)) (Nat.zero_le _), fun g hg => by
    have e : w3.heap.size = g := by simpa [Value.ownBlock] using hg
    subst e
    exact ⟨hp3.bel.size, fun h => by have := hp3.sp.lt _ h; omega, fun h => by have := hp3.dk.lt _ h; omega⟩⟩
  clear hp3 HO
  go_wp2_with (fail)
  go_loopw [6, 28] (fun v6 v28 W => ∃ (j : Nat) (F D : Nat → Prop) (ps : List (List Int)), j ≤ xs.length ∧ v28 = .int .i64 j ∧ Hid (Ks w W F D q p 3 ps v6 ∧ ps.length ≤ j)) (fun _ v28 _ => xs.length - (intOf v28).toNat)
  case atStart => exact ⟨0, F0, D0, [], by omega, rfl, hid ⟨HP3.out, by simp⟩⟩
  case round =>
    clear HP3
    obtain ⟨j, F, D, ps, hj, rfl, HW⟩ := hrel
    obtain ⟨Av, cv, hv6, hcv1, hcv2⟩ := own_shape HW.out.1.tx
    subst hv6
    by_cases hlt : j < xs.length
    · obtain ⟨ad, A2, c2, l, rfl, _, hcl, hlc, hby, hlb⟩ := lists_at HRx.out HX.out hlt
      have HCl := hid hcl
      have HBy := hid hby
      have hc0 := (hcl wr HW.out.1.pr.bel).1
      have HSv := hid (HW.out.1.vd.saves hby)
      have hS := save (q := q) (p := p) (m := mOf ps) (d := dOf 3 ps) F D A2 c2 l wr HW.out.1.pr.sp HW.out.1.pr.dk HW.out.1.pr.fd (hcl wr HW.out.1.pr.bel).2 hlc (fun h0 ad e => by
        have h1 := hlb h0 ad e
        exact ⟨fun h => by have := HW.out.1.pr.own _ (.inr h); omega, fun h => by have := HW.out.1.pr.own _ (.inl h); omega⟩) hby HW.out.1.vd.ok (by have := HW.out.1.vd.few; simp only [mOf]; omega) HW.out.1.vd.dok (by rw [HW.out.1.vd.logl]; have := HW.out.1.vd.few; omega)
      have hj2 : (j : Int) < (xs.length : Int) := by omega
      have hpl : ps.length ≤ j := HW.out.2
      rcases Nat.lt_or_ge 200 l.length with h200 | h200
      · rw [HSv.out, if_pos h200] at hS
        have HS := hid hS
        clear hcl hby hlb hS HSv
        go_wp2_with (fail)
        refine HS.out.mono ?_
        rintro e w5 ⟨rfl, ha⟩
        obtain ⟨F5, D5, hp5, hs5⟩ := HW.out.1.pr.moved ha
        have HN : Hid (Ks w w5 F5 D5 q p 3 ps (.slice Av (ps.length + 1) cv) ∧ ps.length ≤ j + 1) := hid ⟨⟨hp5, HW.out.1.vd, own_upd HW.out.1.tx ha.2 fun g hg h => h.elim (HW.out.1.tn g hg).2.1 (HW.out.1.tn g hg).2.2, HW.out.1.sub hs5⟩, by omega⟩
        clear ha hp5 hs5 HS
        go_wp2
        go_roundw
        case rel => exact ⟨j + 1, F5, D5, ps, by omega, by go_num, HN⟩
        case measure => simp [intOf]; omega
      · rw [HSv.out, if_neg (by omega)] at hS
        have HS := hid hS
        have hv5 := HW.out.1.vd.add (u := l) (by omega) (by omega) hby
        have HV5 := hid hv5
        have hpl2 : ps.length + 1 + 1 ≤ 9223372036854775807 := by omega
        have hpl3 : (ps.length + 1 + 1) * 16 ≤ 140737488355328 := by omega
        clear hcl hby hlb hS HSv hv5
        go_wp2_with (fail)
        refine HS.out.mono ?_
        rintro e w5 ⟨rfl, ha⟩
        obtain ⟨F5, D5, hp5, hs5⟩ := HW.out.1.pr.moved ha
        have htx5 := own_upd HW.out.1.tx ha.2 fun g hg h => h.elim (HW.out.1.tn g hg).2.1 (HW.out.1.tn g hg).2.2
        have HT5 := hid (And.intro hp5 (And.intro htx5 (HW.out.1.sub hs5)))
        have hc5 := (HCl.out w5 hp5.bel).1
        have hcv := conv_str (P := Try.prog) (HCl.out w5 hp5.bel).2 22 9 5 c2 Try.underlying22 Try.underlying5 Try.underlying9
        clear ha hp5 hs5 htx5 HS
        go_wp2_with (at_builtin; refine ap_row 0 rfl (.tmp 38) (.tmp 44) 36 9 (.string ⟨#[]⟩) 1 16 rfl Try.underlying36 str_info rfl (by omega) (.slice Av (ps.length + 1) cv) (ps.length + 1) (([] :: ps).map st) (some ⟨w5.heap.size, 0, none⟩) 1 1 [st l] rfl rfl (HT5.out.2.1.alloc _) (Rd_lit w5 _ 1 1 _ rfl) (by intro z hz; obtain rfl := List.mem_singleton.1 hz; rfl) hpl2 hpl3 (Nat.zero_le _) ?_; intro A7 c7 w7 ho7 hg7 hat7)
        have HN : Hid (Ks w w7 F5 D5 q p 3 (ps ++ [l]) (.slice A7 (ps.length + 1 + 1) c7) ∧ (ps ++ [l]).length ≤ j + 1) := hid ⟨Ks.push HT5.out.1 HV5.out HT5.out.2.2 ((Upd.refl No w5).alloc _) ho7 hg7 hat7, by rw [List.length_append, List.length_singleton]; omega⟩
        clear ho7 hg7 hat7 HT5 hcv hc5
        go_wp2
        go_roundw
        case rel => exact ⟨j + 1, F5, D5, ps ++ [l], by omega, by go_num, HN⟩
        case measure => simp [intOf]; omega
    · obtain rfl : j = xs.length := by omega
      obtain ⟨wo, rfl⟩ : ∃ wo : World, wo = wr := ⟨_, rfl⟩
      have HQ := hid HW.out.1
      have hpl : ps.length ≤ 40 := by have := HW.out.2; omega
      have hv : Vd 3 ps := HW.out.1.vd
      have HV := hid hv
      clear HW hv
      go_wp2_with (fail)
      go_loopw [49] (fun v49 W => ∃ n : Nat, n ≤ ps.length + 1 ∧ v49 = .int .i64 n ∧ Hid (Ks w W F D q p 3 ps (.slice Av (ps.length + 1) cv))) (fun v49 _ => ps.length + 1 - (intOf v49).toNat)
      case atStart => exact ⟨0, by omega, rfl, HQ⟩
      case round =>
        clear HQ
        obtain ⟨n, hn, rfl, HW⟩ := hrel
        by_cases hnl : n < ps.length + 1
        · have hn1 : (n : Int) < (ps.length : Int) + 1 := by omega
          have hct := cut_in p (dOf 3 ps) D n wr HW.out.pr.dk HV.out.n6 HV.out.fit (by rw [HV.out.logl]; omega) HV.out.at_ (by rw [HV.out.logl]; omega)
          rw [cut_of] at hct
          have HCt := hid hct
          have HVn := hid (HV.out.take n)
          have hln : (ps.take n).length = n := List.length_take_of_le (by omega)
          obtain ⟨adk, hAk, hkc⟩ := HW.out.text (n := n) (by omega)
          subst hAk
          have HKc := hid hkc
          obtain ⟨u, hu⟩ : ∃ u, u = ([] :: ps).getD n [] := ⟨_, rfl⟩
          have hge : (mOf (ps.take n)).gen = (n : Int) := by simp only [mOf]; rw [hln]
          have hpe : (mOf (ps.take n)).pay = u := by rw [hu]; exact kept_at (by omega)
          rw [← hu] at HKc
          have HE := hid (And.intro hge hpe)
          have HK64 : Hid (IntKind.u64.wrap (n : Int) = (n : Int)) := hid (by rw [IntKind.wrap_u64]; omega)
          have hn0 : (0 : Int) ≤ (n : Int) := by omega
          clear hct hln hkc hu hge hpe
          go_wp2_with (fail)
          refine HCt.out.mono ?_
          rintro e w3 ⟨p3, F3, rfl, hd3, hf3, hb3⟩
          have HU3 := hid (Upd.of_below No hb3)
          have HO3 := hid (open_pd (w := w) (W := w3) ⟨hd3, fun i hi => by have := hf3 i hi; have := HW.out.pr.bel.size; omega, (HW.out.quiet HU3.out).pr.bel⟩ HVn.out)
          clear hd3 hf3 hb3 HCt
          go_wp2_with (fail)
          refine HO3.out.mono ?_
          rintro e w4 ⟨q4, F4, rfl, hp4, _, hu4⟩
          have HU4 := hid (HU3.out.next hu4)
          have HG : Hid (∀ W, Upd No w4 W → Calls Try.prog 12 #[.pointer (some ⟨q4, 0, none⟩)] W fun e W' => e = .returned (.int .u64 n) ∧ W = W') := hid fun W hu => by
            have h1 := generation W F4 q4 p3 _ (hp4.quiet hu).sp
            rw [HE.out.1] at h1
            exact h1
          have HPy : Hid (∀ W, Upd No w4 W → Calls Try.prog 11 #[.pointer (some ⟨q4, 0, none⟩)] W fun e W' => NewB W u e W') := hid fun W hu => by
            have h1 := payload W F4 q4 p3 _ (hp4.quiet hu).sp HVn.out.ok
            rw [HE.out.2] at h1
            exact h1
          unfold NewB at HPy
          have HK4 := hid fun W (hu : Upd No w4 W) => HKc.out W (HU4.out.next hu)
          clear hp4 hu4 HO3 HKc
          go_wp2_with (fail)
          refine wp_region_held_drew (S := fun W => Upd No w4 W) (by kernel_rfl) (Upd.refl _ _).drew (fun hS => ?_)
          refine rg_at 0 (by decide) (fun oi hoi => ?_)
          have ho2 := hoi; simp only [List.getElem?_toArray, List.getElem?_cons_succ, List.getElem?_cons_zero, Option.some.injEq] at ho2; subst ho2
          refine rg_take (v := ?_) 0 hoi (by kernel_rfl) (by kernel_rfl) (by kernel_rfl) (fun _ _ _ h => h) (by rfl) ?_ hS ?_
          rotate_left
          · intro w _; go_simp; try with_reducible rfl
          clear hoi; try simp only [Act.put, List.setIfInBounds_toArray, List.set_cons_zero, List.set_cons_succ]
          refine rg_at 1 (by decide) (fun oi hoi => ?_)
          have ho2 := hoi; simp only [List.getElem?_toArray, List.getElem?_cons_succ, List.getElem?_cons_zero, Option.some.injEq] at ho2; subst ho2
          refine rg_take (v := ?_) 1 hoi (by kernel_rfl) (by kernel_rfl) (by kernel_rfl) (fun _ _ _ h => h) (by rfl) ?_ hS ?_
          rotate_left
          · intro w _; go_simp; try with_reducible rfl
          clear hoi; try simp only [Act.put, List.setIfInBounds_toArray, List.set_cons_zero, List.set_cons_succ]
          refine rg_at 2 (by decide) (fun oi hoi => ?_)
          have ho2 := hoi; simp only [List.getElem?_toArray, List.getElem?_cons_succ, List.getElem?_cons_zero, Option.some.injEq] at ho2; subst ho2
          refine rg_take (v := ?_) 2 hoi (by kernel_rfl) (by kernel_rfl) (by kernel_rfl) (fun _ _ _ h => h) (by rfl) ?_ hS ?_
          rotate_left
          · intro w _; go_simp; try with_reducible rfl
          clear hoi; try simp only [Act.put, List.setIfInBounds_toArray, List.set_cons_zero, List.set_cons_succ]
          refine rg_at 3 (by decide) (fun oi hoi => ?_)
          have ho2 := hoi; simp only [List.getElem?_toArray, List.getElem?_cons_succ, List.getElem?_cons_zero, Option.some.injEq] at ho2; subst ho2
          refine rg_take (v := ?_) 3 hoi (by kernel_rfl) (by kernel_rfl) (by kernel_rfl) (fun _ _ _ h => h) (by rfl) ?_ hS ?_
          rotate_left
          · intro w _; go_simp; try with_reducible rfl
          clear hoi; try simp only [Act.put, List.setIfInBounds_toArray, List.set_cons_zero, List.set_cons_succ]
          refine rg_at 5 (by decide) (fun oi hoi => ?_)
          have ho2 := hoi; simp only [List.getElem?_toArray, List.getElem?_cons_succ, List.getElem?_cons_zero, Option.some.injEq] at ho2; subst ho2
          refine rg_take (v := ?_) 5 hoi (by kernel_rfl) (by kernel_rfl) (by kernel_rfl) (fun _ _ _ h => h) (by rfl) ?_ hS ?_
          rotate_left
          · intro w _; go_simp; try with_reducible rfl
          clear hoi; try simp only [Act.put, List.setIfInBounds_toArray, List.set_cons_zero, List.set_cons_succ]
          refine rg_at 6 (by decide) (fun oi hoi => ?_)
          have ho2 := hoi; simp only [List.getElem?_toArray, List.getElem?_cons_succ, List.getElem?_cons_zero, Option.some.injEq] at ho2; subst ho2
          refine rg_take (v := ?_) 6 hoi (by kernel_rfl) (by kernel_rfl) (by kernel_rfl) (fun _ _ _ h => h) (by rfl) ?_ hS ?_
          rotate_left
          · intro w hw; have hf := HK64.out; clear hw; go_simp; try with_reducible rfl
          clear hoi; try simp only [Act.put, List.setIfInBounds_toArray, List.set_cons_zero, List.set_cons_succ]
          refine rg_at 4 (by decide) (fun oi hoi => ?_)
          have ho2 := hoi; simp only [List.getElem?_toArray, List.getElem?_cons_succ, List.getElem?_cons_zero, Option.some.injEq] at ho2; subst ho2
          refine rg_call 4 (by kernel_rfl) hoi (by rfl) (fun K hK => ?_)
          clear hoi
          go_simp
          refine Calls.mono (HG.out _ hS) ?_
          rintro e w5 ⟨rfl, rfl⟩
          go_wp2_with (fail)
          refine hK.out _ _ ((by exact hS)) (fun hS => ?_)
          clear hK K
          try simp only [Act.put, List.setIfInBounds_toArray, List.set_cons_zero, List.set_cons_succ]
          refine rg_at 7 (by decide) (fun oi hoi => ?_)
          have ho2 := hoi; simp only [List.getElem?_toArray, List.getElem?_cons_succ, List.getElem?_cons_zero, Option.some.injEq] at ho2; subst ho2
          refine rg_take (v := ?_) 7 hoi (by kernel_rfl) (by kernel_rfl) (by kernel_rfl) (fun _ _ _ h => h) (by rfl) ?_ hS ?_
          rotate_left
          · intro w _; go_simp; try with_reducible rfl
          clear hoi; try simp only [Act.put, List.setIfInBounds_toArray, List.set_cons_zero, List.set_cons_succ]
          refine rg_at 8 (by decide) (fun oi hoi => ?_)
          have ho2 := hoi; simp only [List.getElem?_toArray, List.getElem?_cons_succ, List.getElem?_cons_zero, Option.some.injEq] at ho2; subst ho2
          refine rg_take (v := ?_) 8 hoi (by kernel_rfl) (by kernel_rfl) (by kernel_rfl) (fun _ _ _ h => h) (by rfl) ?_ hS ?_
          rotate_left
          · intro w _; go_simp; try with_reducible rfl
          clear hoi; try simp only [Act.put, List.setIfInBounds_toArray, List.set_cons_zero, List.set_cons_succ]
          refine rg_at 9 (by decide) (fun oi hoi => ?_)
          have ho2 := hoi; simp only [List.getElem?_toArray, List.getElem?_cons_succ, List.getElem?_cons_zero, Option.some.injEq] at ho2; subst ho2
          refine rg_take (v := ?_) 9 hoi (by kernel_rfl) (by kernel_rfl) (by kernel_rfl) (fun _ _ _ h => h) (by rfl) ?_ hS ?_
          rotate_left
          · intro w _; go_simp; try with_reducible rfl
          clear hoi; try simp only [Act.put, List.setIfInBounds_toArray, List.set_cons_zero, List.set_cons_succ]
          refine rg_at 10 (by decide) (fun oi hoi => ?_)
          have ho2 := hoi; simp only [List.getElem?_toArray, List.getElem?_cons_succ, List.getElem?_cons_zero, Option.some.injEq] at ho2; subst ho2
          refine rg_take (v := ?_) 10 hoi (by kernel_rfl) (by kernel_rfl) (by kernel_rfl) (fun _ _ _ h => h) (by rfl) ?_ hS ?_
          rotate_left
          · intro w _; go_simp; try with_reducible rfl
          clear hoi; try simp only [Act.put, List.setIfInBounds_toArray, List.set_cons_zero, List.set_cons_succ]
          refine rg_at 13 (by decide) (fun oi hoi => ?_)
          have ho2 := hoi; simp only [List.getElem?_toArray, List.getElem?_cons_succ, List.getElem?_cons_zero, Option.some.injEq] at ho2; subst ho2
          refine rg_take (v := ?_) 13 hoi (by kernel_rfl) (by kernel_rfl) (by kernel_rfl) (fun _ _ _ h => h) (by rfl) ?_ hS ?_
          rotate_left
          · intro w _; go_simp; try with_reducible rfl
          clear hoi; try simp only [Act.put, List.setIfInBounds_toArray, List.set_cons_zero, List.set_cons_succ]
          refine rg_at 14 (by decide) (fun oi hoi => ?_)
          have ho2 := hoi; simp only [List.getElem?_toArray, List.getElem?_cons_succ, List.getElem?_cons_zero, Option.some.injEq] at ho2; subst ho2
          refine rg_take (v := ?_) 14 hoi (by kernel_rfl) (by kernel_rfl) (by kernel_rfl) (fun _ _ _ h => h) (by rfl) ?_ hS ?_
          rotate_left
          · intro w _; go_simp; try with_reducible rfl
          clear hoi; try simp only [Act.put, List.setIfInBounds_toArray, List.set_cons_zero, List.set_cons_succ]
          refine rg_at 15 (by decide) (fun oi hoi => ?_)
          have ho2 := hoi; simp only [List.getElem?_toArray, List.getElem?_cons_succ, List.getElem?_cons_zero, Option.some.injEq] at ho2; subst ho2
          refine rg_take (v := ?_) 15 hoi (by kernel_rfl) (by kernel_rfl) (by kernel_rfl) (fun _ _ _ h => h) (by rfl) ?_ hS ?_
          rotate_left
          · intro w _; go_simp; try with_reducible rfl
          clear hoi; try simp only [Act.put, List.setIfInBounds_toArray, List.set_cons_zero, List.set_cons_succ]
          refine rg_at 16 (by decide) (fun oi hoi => ?_)
          have ho2 := hoi; simp only [List.getElem?_toArray, List.getElem?_cons_succ, List.getElem?_cons_zero, Option.some.injEq] at ho2; subst ho2
          refine rg_take (v := ?_) 16 hoi (by kernel_rfl) (by kernel_rfl) (by kernel_rfl) (fun _ _ _ h => h) (by rfl) ?_ hS ?_
          rotate_left
          · intro w hw; have hf := HK4.out w hw; clear hw; go_simp; try with_reducible rfl
          clear hoi; try simp only [Act.put, List.setIfInBounds_toArray, List.set_cons_zero, List.set_cons_succ]
          refine rg_at 11 (by decide) (fun oi hoi => ?_)
          have ho2 := hoi; simp only [List.getElem?_toArray, List.getElem?_cons_succ, List.getElem?_cons_zero, Option.some.injEq] at ho2; subst ho2
          refine rg_call 11 (by kernel_rfl) hoi (by rfl) (fun K hK => ?_)
          clear hoi
          go_simp
          refine Calls.mono (HPy.out _ hS) ?_
          rintro e w6 ⟨A6, c6, rfl, ho6, hu6⟩
          have hcv6 := conv_str (P := Try.prog) (Rn_of_own ho6) 22 9 5 c6 Try.underlying22 Try.underlying5 Try.underlying9
          have hS6 := Upd.next hS hu6
          go_wp2_with (fail)
          refine hK.out _ _ ((by exact hS6)) (fun hS => ?_)
          clear hK K
          try simp only [Act.put, List.setIfInBounds_toArray, List.set_cons_zero, List.set_cons_succ]
          refine rg_at 12 (by decide) (fun oi hoi => ?_)
          have ho2 := hoi; simp only [List.getElem?_toArray, List.getElem?_cons_succ, List.getElem?_cons_zero, Option.some.injEq] at ho2; subst ho2
          refine rg_call 12 (by kernel_rfl) hoi (by rfl) (fun K hK => ?_)
          clear hoi
          skip
          go_simp
          refine hK.out _ _ ((by exact hS6)) (fun hS => ?_)
          clear hK K
          try simp only [Act.put, List.setIfInBounds_toArray, List.set_cons_zero, List.set_cons_succ]
          refine rg_at 17 (by decide) (fun oi hoi => ?_)
          have ho2 := hoi; simp only [List.getElem?_toArray, List.getElem?_cons_succ, List.getElem?_cons_zero, Option.some.injEq] at ho2; subst ho2
          refine rg_take (v := ?_) 17 hoi (by kernel_rfl) (by kernel_rfl) (by kernel_rfl) (fun _ _ _ h => h) (by rfl) ?_ hS ?_
          rotate_left
          · intro w _; go_simp; try with_reducible rfl
          clear hoi; try simp only [Act.put, List.setIfInBounds_toArray, List.set_cons_zero, List.set_cons_succ]
          refine rg_at 18 (by decide) (fun oi hoi => ?_)
          have ho2 := hoi; simp only [List.getElem?_toArray, List.getElem?_cons_succ, List.getElem?_cons_zero, Option.some.injEq] at ho2; subst ho2
          refine rg_take (v := ?_) 18 hoi (by kernel_rfl) (by kernel_rfl) (by kernel_rfl) (fun _ _ _ h => h) (by rfl) ?_ hS ?_
          rotate_left
          · intro w _; go_simp; try with_reducible rfl
          clear hoi; try simp only [Act.put, List.setIfInBounds_toArray, List.set_cons_zero, List.set_cons_succ]
          refine wpAnyH_done (by kernel_rfl) ?_ _
          have HZ := hid (HW.out.quiet (HU4.out.next hS6))
          clear ho6 hu6 hS hS6
          go_wp2
          go_roundw
          case rel => exact ⟨n + 1, by omega, by go_num, HZ⟩
          case measure => simp [intOf]; omega
        · obtain rfl : n = ps.length + 1 := by omega
          have HE := hid HW.out.pr.bel
          go_wp2
          go_ret
          exact ⟨rfl, HE.out⟩
end Go.Proofs.Ytbcmaobopglooaa.Up
