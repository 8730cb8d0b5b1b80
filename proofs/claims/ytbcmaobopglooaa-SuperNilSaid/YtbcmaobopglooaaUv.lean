/-
  The walk of super.Open.
-/
import Derived.Test.YtbcmaobopglooaaUo
import Derived.Test.YtbcmaobopglooaaUc
set_option linter.unusedVariables false
set_option linter.unusedSimpArgs false
namespace Go.Proofs.Ytbcmaobopglooaa.Up
open Go.RowKit Go.Proofs.Ytbcmaobopglooaa.B Go.Proofs.Ytbcmaobopglooaa.Cm Go.Proofs.Ytbcmaobopglooaa.Sm Go.Proofs.Ytbcmaobopglooaa.Dk
theorem last_acc : ∀ (l : List (Nat × List Int)) (i : Nat) (o : Option (List Int)), l.foldl (fun o r => if r.1 = i then some r.2 else o) o = o ∨ ∃ x ∈ l, l.foldl (fun o r => if r.1 = i then some r.2 else o) o = some x.2 := by
  intro l i
  induction l with
  | nil => intro o; exact .inl rfl
  | cons r t ih =>
    intro o
    rw [List.foldl_cons]
    by_cases h : r.1 = i
    · rw [if_pos h]
      rcases ih (some r.2) with e | ⟨x, hx, e⟩
      · exact .inr ⟨r, by simp, e⟩
      · exact .inr ⟨x, by simp [hx], e⟩
    · rw [if_neg h]
      rcases ih o with e | ⟨x, hx, e⟩
      · exact .inl e
      · exact .inr ⟨x, by simp [hx], e⟩
theorem bk_ok {d : Dm} (h : Fit d) (k : Nat) : (bk d.log k).length = 256 ∧ Byte (bk d.log k) := by
  unfold bk
  rcases last_acc d.log k none with e | ⟨x, hx, e⟩
  · rw [show last d.log k = none from e]
    refine ⟨List.length_replicate, fun c hc => ?_⟩
    have := List.eq_of_mem_replicate (show c ∈ List.replicate 256 (0 : Int) from hc)
    omega
  · rw [show last d.log k = some x.2 from e]
    exact h x hx
/-- From block k on. -/
def frm (b : Nat → List Int) : Nat → Nat → Int × List Int → Int × List Int
  | 0, _, s => s
  | n + 1, k, s => frm b n (k + 1) (newer s (rd1 k (b k)))
/-- What Open answers. -/
def opS (d : Dm) : Int × Option Su :=
  if d.nb < 2 then (1, none) else if d.down = true then (9, none)
  else (0, some ⟨(frm (bk d.log) 2 0 (0, [])).1, (frm (bk d.log) 2 0 (0, [])).2, false⟩)
def OpOut (w : World) (p : Nat) (r : Int × Option Su) (e : Ending) (w' : World) : Prop :=
  match r.2 with
  | none => e = .returned (.tuple #[.pointer none, .int .i64 r.1]) ∧ Upd No w w'
  | some m => ∃ q F, e = .returned (.tuple #[.pointer (some ⟨q, 0, none⟩), .int .i64 r.1]) ∧ Sp w' F q p m ∧ m.ok ∧ (∀ k, F k → w.heap.size ≤ k) ∧ Upd No w w'
theorem OpOut.none_ {w : World} {p : Nat} {r : Int × Option Su} {c : Int} {e : Ending} {w' : World} (hr : r = (c, none)) (h : e = .returned (.tuple #[.pointer none, .int .i64 c]) ∧ Upd No w w') : OpOut w p r e w' := by
  subst hr
  exact h
theorem OpOut.some_ {w : World} {p : Nat} {r : Int × Option Su} {m : Su} {e : Ending} {w' : World} (hr : r = (0, some m)) (h : ∃ q F, e = .returned (.tuple #[.pointer (some ⟨q, 0, none⟩), .int .i64 0]) ∧ Sp w' F q p m ∧ m.ok ∧ (∀ k, F k → w.heap.size ≤ k) ∧ Upd No w w') : OpOut w p r e w' := by
  subst hr
  exact h
set_option maxHeartbeats 400000 in
theorem blocks_nil (w : World) : Calls Try.prog 18 #[.pointer none] w fun e w' => e = .returned (.int .i64 0) ∧ w = w' := by
  go_enter Try.func18, Try.ntmps18
  go_wp2
  go_ret
  exact ⟨rfl, rfl⟩
set_option maxHeartbeats 400000 in
theorem open_nil (w : World) : Calls Try.prog 8 #[.pointer none] w fun e w' => e = .returned (.tuple #[.pointer none, .int .i64 1]) ∧ w = w' := by
  go_enter Try.func8, Try.ntmps8
  go_wp2_with (fail)
  refine Calls.mono (blocks_nil w) ?_
  rintro e w1 ⟨rfl, rfl⟩
  go_wp2
  go_ret2
  exact ⟨rfl, rfl⟩
/-- While a record is opened. -/
structure Og (w W : World) (F : Nat → Prop) (q p : Nat) (s : Int × List Int) : Prop where
  sp : Sp W F q p ⟨s.1, s.2, false⟩
  ok : Su.ok ⟨s.1, s.2, false⟩
  fo : ∀ k, F k → w.heap.size ≤ k
  upd : Upd No w W
theorem Og.quiet {w W W' : World} {F : Nat → Prop} {q p : Nat} {s : Int × List Int} (h : Og w W F q p s) (hu : Upd No W W') : Og w W' F q p s := ⟨h.sp.quiet hu, h.ok, h.fo, h.upd.next hu⟩
theorem Og.moved {w W W' : World} {F : Nat → Prop} {q p r : Nat} {s : Int × List Int} (h : Og w W F q p s) (hu : Upd (fun k => k = r) W W') (hr : w.heap.size ≤ r) (hf : ¬ F r) : Og w W' F q p s :=
  ⟨h.sp.upd hu fun k hk e => hf (e ▸ hk), h.ok, h.fo, h.upd.trans hu fun i hi e => by omega⟩
set_option maxHeartbeats 4000000 in
set_option maxRecDepth 100000 in
theorem open_ (p : Nat) (d : Dm) (D : Nat → Prop) (w : World) (h : Dk w D p d) (hok : d.ok) (hfit : Fit d) :
    Calls Try.prog 8 #[.pointer (some ⟨p, 0, none⟩)] w fun e w' => OpOut w p (opS d) e w' := by
  have HB := hid (blocks p d D w h hok)
  have HD := hid fun W (hu : Upd No w W) => h.upd hu fun _ _ => no_ _
  have HOk := hid (And.intro hok hfit)
  have hnb := hok.2.2
  have hR : Hid (opS d = if d.nb < 2 then (1, none) else if d.down = true then (9, none)
    else (0, some ⟨(frm (bk d.log) 2 0 (0, [])).1, (frm (bk d.log) 2 0 (0, [])).2, false⟩)) := hid rfl
  clear h hok hfit
  go_enter Try.func8, Try.ntmps8
  go_wp2_with (fail)
  refine HB.out.mono ?_
  rintro e w1 ⟨rfl, rfl⟩
  by_cases h2 : d.nb < 2
  · have hout : Hid (opS d = (1, none)) := hid (by rw [hR.out, if_pos h2])
    have h2' : (d.nb : Int) < 2 := by omega
    clear hR
    go_wp2
    go_ret2
    exact .none_ hout.out ⟨rfl, Upd.refl _ _⟩
  have h2' : ¬ (d.nb : Int) < 2 := by omega
  rw [if_neg h2] at hR
  have HRd : Hid (∀ k, k < 2 → d.down = false → d.rd ((k : Nat) : Int) = (bk d.log k, 0)) := hid fun k hk hd => by
    unfold Dm.rd
    rw [hd, if_neg (by simp), if_neg (by omega), Int.toNat_natCast]
    rfl
  have HW0 : Hid (∃ w2 q, w2 = w.alloc (.cells #[.pointer (some ⟨p, 0, none⟩), .int .u64 0, .slice none 0 0, .bool false] 44) ∧ q = w.heap.size ∧ Og w w2 (fun k => k = q) q p (0, [])) := hid
    ⟨_, _, rfl, rfl, ⟨none, 0, Blk.fresh _ _ _, Rd.nil_ _ _ _, by simp, fun h => by simp at h, rfl, fun k hk => by subst hk; simp⟩, ⟨by simp, by simp, fun c hc => by simp at hc⟩, fun k hk => by omega, (Upd.refl _ _).alloc _⟩
  go_wp2_with (fail)
  obtain ⟨w2, q, hw2, hq, hO⟩ := HW0.out
  rw [← hw2, ← hq]
  have HO := hid hO
  clear hw2 hq hO HW0 HB h2'
  rcases hdn : d.down with _ | _
  case' true =>
    have hout : Hid (opS d = (9, none)) := hid (by rw [hR.out, if_pos hdn])
    have HR9 : Hid (∀ W, Upd No w W → Calls Try.prog 19 #[.pointer (some ⟨p, 0, none⟩), .int .i64 0] W fun e w' => RdOw W ([], 9) e w') := hid fun W hu => by
      have h1 := read_ p d D 0 W (HD.out W hu) HOk.out.1
      have h2 : d.rd 0 = ([], 9) := by unfold Dm.rd; rw [hdn, if_pos rfl]
      rwa [h2] at h1
    unfold RdOw at HR9
    have hU2 := hid HO.out.upd
    clear hdn hR HO
    go_loopw [18] (fun v18 W => v18 = .int .i64 0 ∧ Hid (Upd No w W)) (fun v18 _ => 0)
    case atStart => exact ⟨rfl, hU2⟩
    case round =>
      clear hU2
      obtain ⟨rfl, HU⟩ := hrel
      go_wp2_with (fail)
      refine (HR9.out _ HU.out).mono ?_
      rintro e w3 ⟨A3, c3, rfl, _, hu3, _, _⟩
      have HU3 := hid (Upd.next HU.out hu3)
      clear hu3
      go_wp2
      go_ret2
      exact .none_ hout.out ⟨rfl, HU3.out⟩
  rw [hdn, if_neg (by simp)] at hR
  have HDn := hid hdn
  clear hdn
  go_loopw [18] (fun v18 W => ∃ (k : Nat) (F : Nat → Prop) (s : Int × List Int), k ≤ 2 ∧ v18 = .int .i64 k ∧ Hid (Og w W F q p s ∧ frm (bk d.log) 2 0 (0, []) = frm (bk d.log) (2 - k) k s)) (fun v18 _ => 2 - (intOf v18).toNat)
  case atStart => exact ⟨0, _, _, by omega, rfl, hid ⟨HO.out, rfl⟩⟩
  case round =>
    clear HO
    obtain ⟨k, F, s, hk, rfl, HW⟩ := hrel
    by_cases hlt : k < 2
    · obtain ⟨b, hb⟩ : ∃ b, b = bk d.log k := ⟨_, rfl⟩
      have hbok := bk_ok HOk.out.2 k
      have hRr := read_ p d D (k : Int) wr (HD.out _ HW.out.1.upd) HOk.out.1
      rw [HRd.out k hlt HDn.out, ← hb] at hRr
      rw [← hb] at hbok
      have HBok := hid hbok
      unfold RdOw at hRr
      have HRr := hid hRr
      have hk2 : (k : Int) < 2 := by omega
      have HE : Hid (frm (bk d.log) 2 0 (0, []) = frm (bk d.log) (2 - (k + 1)) (k + 1) (newer s (rd1 k b))) := hid (by
        rw [HW.out.2, show 2 - k = 2 - (k + 1) + 1 from by omega, frm, ← hb])
      have HO := hid HW.out.1
      clear hb hbok hRr HW
      go_wp2_with (fail)
      refine HRr.out.mono ?_
      rintro e w3 ⟨A3, c3, rfl, hr3, hu3, hc31, hc32⟩
      try simp only at hr3 hc31
      have HW3 := hid (HO.out.quiet hu3)
      have HQ3 := hid (And.intro (HW3.out.sp.lt q HW3.out.sp.here) (Nat.le_trans HW3.out.upd.size (Nat.le_refl _)))
      have hw32 : IntKind.u32.wrap (k : Int) = (k : Int) := by
        rw [IntKind.wrap_u32]
        omega
      have HOp := hid (Sw.open_ A3 c3 b 83 (k : Int) w3 hr3 hc31 hc32 HBok.out.2 (by omega) (by omega))
      have HPb : Hid (Byte (outOf 83 k b) ∧ (outOf 83 k b).length ≤ 242) := hid (by
        unfold outOf
        split
        · rename_i hokk
          refine ⟨pay_bytes b HBok.out.2, ?_⟩
          unfold okOf at hokk
          simp only [Bool.and_eq_true, decide_eq_true_eq] at hokk
          rw [pay_length b hokk.1 hokk.2.1]
          omega
        · exact ⟨fun c hc => (by cases hc), by simp⟩)
      have HR1 : Hid (rd1 k b = if okOf 83 k b = true then rdNum (outOf 83 k b) else none) := hid rfl
      unfold Sw.OpenPost at HOp
      generalize okOf 83 (k : Int) b = ok at *
      generalize outOf 83 (k : Int) b = pp at *
      clear hr3 hu3 hc31 hc32 HRr HO
      go_wp2_with (fail)
      refine HOp.out.mono ?_
      rintro e w4 ⟨A4, c4, rfl, ho4, hu4⟩
      have HW4 := hid (HW3.out.quiet hu4)
      obtain ⟨_, _, hsv, hc41, hc42⟩ := own_shape ho4
      simp only [Value.slice.injEq, true_and] at hsv
      obtain ⟨rfl, rfl⟩ := hsv
      simp only [maxLen] at hc42
      have hpl : pp.length ≤ 242 := HPb.out.2
      have HP4 := hid ho4
      have HNr := hid (Cr.newReader A4 c4 pp w4 (Rd.of_own ho4) (by omega) HPb.out.1)
      clear ho4 hu4 HW3 HOp hw32
      go_wp2_with (fail)
      refine HNr.out.mono ?_
      rintro e w5 ⟨Fr, pr, Ar, cr, rfl, hrr, hfr, hb5⟩
      have HW5 := hid (HW4.out.quiet (Upd.of_below No hb5))
      obtain ⟨n, r, bd, hst⟩ : ∃ n r bd, stN pp false = (n, r, bd) := ⟨_, _, _, rfl⟩
      have HN : Hid ((bd = true → rdNum pp = none) ∧ (bd = false → rdNum pp = some (n, r))) := hid (by
        unfold stN at hst
        rcases hrn : rdNum pp with _ | x
        · rw [hrn] at hst
          injection hst with _ hst
          injection hst with _ hst
          subst hst
          exact ⟨fun _ => rfl, fun h => (by cases h)⟩
        · rw [hrn] at hst
          injection hst with h1 hst
          injection hst with h2 hst
          subst hst
          exact ⟨fun h => (by cases h), fun _ => by rw [← h1, ← h2]⟩)
      have HNn : Hid (0 ≤ n ∧ n ≤ 18446744073709551615) := hid (by
        have h1 := Cr.stN_range pp false HPb.out.1
        rw [hst] at h1
        exact h1)
      have HRn := hid (Cr.rnumber_eq hrr hst)
      have HFr : Hid (∀ k, Fr k → ¬ F k ∧ w.heap.size ≤ k) := hid fun k hk => ⟨fun hf => by
        have := hfr k hk
        have := HW4.out.sp.lt k hf
        omega, by
        have := hfr k hk
        have := HW4.out.upd.size
        omega⟩
      have HP5 : Hid (∀ W, Upd (fun k => k = pr) w5 W → Rn W .u8 A4 pp) := hid fun W hu => Rd.upd (Rd.upd (Rd.of_own HP4.out) (by omega) (Upd.of_below No hb5) fun _ _ => no_ _) (by omega) hu fun ad e hk => by
        have h1 := HP4.out.lt ad.block (by simp [Value.ownBlock, e])
        have h2 := hfr pr hrr.here
        omega
      have HPh : Hid (Fr pr) := hid hrr.here
      have HS5 := hid hb5.size
      clear hrr hst hb5 hfr HNr HW4
      go_wp2_with (fail)
      refine HRn.out.mono ?_
      rintro e w6 ⟨rfl, A6, c6, hr6, hu6⟩
      have HW6 := hid (HW5.out.moved hu6 (HFr.out pr HPh.out).2 (HFr.out pr HPh.out).1)
      have HP6 := hid (HP5.out w6 hu6)
      have HS6 := hid hu6.size
      have HL6 := hid (Cr.left pr r.length c6 A6 _ w6.drew hr6.blk.drew)
      have HB6 := hid (Cr.bad pr bd _ w6 hr6.blk)
      clear hr6 hu6 HRn HW5
      obtain ⟨Av, cv, hblk, _, _, _, _, _⟩ := HW6.out.sp
      simp only at hblk
      have hg1 := hblk.cell 1
      have hg2 := hblk.cell 2
      simp at hg1 hg2
      have hf1 := hblk.free 1
      have hf2 := hblk.free 2
      have HBl := hid hblk
      clear hblk
      rcases ok with _ | _
      · have HE2 : Hid (newer s (rd1 k b) = s) := hid (by rw [HR1.out, if_neg (by simp)]; rfl)
        rw [HE2.out] at HE
        go_wp2
        go_roundw
        case rel => exact ⟨k + 1, F, s, by omega, by go_num, hid ⟨HW6.out, HE.out⟩⟩
        case measure => simp [intOf]; omega
      rw [if_pos rfl] at HR1
      rcases bd with _ | _
      case' true =>
        have HE2 : Hid (newer s (rd1 k b) = s) := hid (by rw [HR1.out, HN.out.1 rfl]; rfl)
        rw [HE2.out] at HE
        go_wp2_with (fail)
        refine HB6.out.mono ?_
        rintro e w7 ⟨rfl, rfl⟩
        go_wp2
        go_roundw
        case rel => exact ⟨k + 1, F, s, by omega, by go_num, hid ⟨HW6.out, HE.out⟩⟩
        case measure => simp [intOf]; omega
      have hrd := HN.out.2 rfl
      have honly := Cp.rdNum_only pp n r HPb.out.1 hrd
      by_cases hgt : s.1 < n
      · have HE2 : Hid (newer s (rd1 k b) = (n, r)) := hid (by rw [HR1.out, hrd]; exact newer_lt hgt)
        rw [HE2.out] at HE
        obtain ⟨K, hK⟩ : ∃ K, K = (num n).length := ⟨_, rfl⟩
        have hlen : pp.length = K + r.length := by rw [honly, List.length_append, hK]
        have hdrop : pp.drop K = r := by rw [honly, hK]; simp
        have HSub : Hid (IntKind.i64.wrap ((pp.length : Int) - (r.length : Int)) = (K : Int)) := hid (by
          rw [hlen, IntWalk.i64_in _ (by omega)]
          omega)
        obtain ⟨A7, hA7, hcut⟩ := cut_from (P := Try.prog) 22 5 .i64 Try.underlying22 (by kernel_rfl) A4 pp.length c4 K K rfl (by omega)
        have HP7 : Hid (Rn w6 .u8 A7 r ∧ ∀ ad, A7 = some ad → ∃ ad0, A4 = some ad0 ∧ ad.block = ad0.block) := hid (by
          refine ⟨?_, fun ad e => ?_⟩
          · rw [hA7, ← hdrop]
            exact Rn.drop HP6.out (by omega) (by omega)
          · rw [hA7] at e
            obtain ⟨ad0, e0, hb⟩ := cut_block e
            exact ⟨ad0, e0, hb⟩)
        have hrl : pp.length - K = r.length := by omega
        have HF : Hid (∀ W, W = ((w6.setCell ⟨q, 1, none⟩ (.int .u64 n)).setCell ⟨q, 2, none⟩ (.slice A7 (pp.length - K) (c4 - K))).drew → ∃ F', Og w W F' q p (n, r)) := hid (by
          rintro W rfl
          rw [hrl]
          have hA : ∀ ad, A7 = some ad → w3.heap.size ≤ ad.block ∧ ad.block < w6.heap.size := fun ad e => by
            obtain ⟨ad0, e0, hb⟩ := HP7.out.2 ad e
            have h1 := HP4.out.lt ad0.block (by simp [Value.ownBlock, e0])
            have h5 := HS5.out
            have h6 := HS6.out
            omega
          have hq3 := HQ3.out
          have hu : Upd (fun k => k = q) w6 ((w6.setCell ⟨q, 1, none⟩ (.int .u64 n)).setCell ⟨q, 2, none⟩ (.slice A7 r.length (c4 - K))) := ((Upd.refl _ _).set1 _ _).set1 _ _
          have hl := HW6.out.sp.laid (A' := A7) (c' := c4 - K) (l := r) (g := n) hu (fun A c hb => by simpa using (hb.put 1 (.int .u64 n)).put 2 (.slice A7 r.length (c4 - K))) HP7.out.1 (by omega) (fun _ ad e => by
            have := hA ad e
            omega)
          refine ⟨_, Og.quiet ⟨hl, ⟨HNn.out, by simp only; omega, fun x hx => HPb.out.1 x ?_⟩, ?_, HW6.out.upd.trans hu fun i hi e => by
            have := HW6.out.fo q HW6.out.sp.here
            omega⟩ (Upd.drew (Upd.refl _ _))⟩
          · rw [← hdrop] at hx
            exact List.mem_of_mem_drop hx
          · rintro i (hi | ⟨_, ad, e, rfl⟩)
            · exact HW6.out.fo i hi
            · have := hA ad e
              omega)
        have HLen := hid hlen
        clear honly hrd hlen hdrop hA7 hK hrl
        go_wp2_with (fail)
        refine HB6.out.mono ?_
        rintro e w7 ⟨rfl, rfl⟩
        go_wp2_with (fail)
        refine wp_region_held_drew (S := fun _ => True) (by kernel_rfl) trivial (fun hS => ?_)
        refine rg_at 0 (by decide) (fun oi hoi => ?_)
        have ho2 := hoi; simp only [List.getElem?_toArray, List.getElem?_cons_succ, List.getElem?_cons_zero, Option.some.injEq] at ho2; subst ho2
        refine rg_take (v := ?_) 0 hoi (by kernel_rfl) (by kernel_rfl) (by kernel_rfl) (fun _ _ _ h => h) (by rfl) ?_ hS ?_
        rotate_left
        · intro w _; go_simp; try with_reducible rfl
        clear hoi; try simp only [Act.put, List.setIfInBounds_toArray, List.set_cons_zero, List.set_cons_succ]
        refine rg_at 1 (by decide) (fun oi hoi => ?_)
        have ho2 := hoi; simp only [List.getElem?_toArray, List.getElem?_cons_succ, List.getElem?_cons_zero, Option.some.injEq] at ho2; subst ho2
        refine rg_take (v := ?_) 1 hoi (by kernel_rfl) (by kernel_rfl) (by kernel_rfl) (fun _ _ _ h => h) (by rfl) ?_ hS ?_
        rotate_left
        · intro w _; go_simp; try with_reducible rfl
        clear hoi; try simp only [Act.put, List.setIfInBounds_toArray, List.set_cons_zero, List.set_cons_succ]
        refine rg_at 2 (by decide) (fun oi hoi => ?_)
        have ho2 := hoi; simp only [List.getElem?_toArray, List.getElem?_cons_succ, List.getElem?_cons_zero, Option.some.injEq] at ho2; subst ho2
        refine rg_take (v := ?_) 2 hoi (by kernel_rfl) (by kernel_rfl) (by kernel_rfl) (fun _ _ _ h => h) (by rfl) ?_ hS ?_
        rotate_left
        · intro w _; go_simp; try with_reducible rfl
        clear hoi; try simp only [Act.put, List.setIfInBounds_toArray, List.set_cons_zero, List.set_cons_succ]
        refine rg_at 3 (by decide) (fun oi hoi => ?_)
        have ho2 := hoi; simp only [List.getElem?_toArray, List.getElem?_cons_succ, List.getElem?_cons_zero, Option.some.injEq] at ho2; subst ho2
        refine rg_take (v := ?_) 3 hoi (by kernel_rfl) (by kernel_rfl) (by kernel_rfl) (fun _ _ _ h => h) (by rfl) ?_ hS ?_
        rotate_left
        · intro w _; go_simp; try with_reducible rfl
        clear hoi; try simp only [Act.put, List.setIfInBounds_toArray, List.set_cons_zero, List.set_cons_succ]
        refine rg_at 4 (by decide) (fun oi hoi => ?_)
        have ho2 := hoi; simp only [List.getElem?_toArray, List.getElem?_cons_succ, List.getElem?_cons_zero, Option.some.injEq] at ho2; subst ho2
        refine rg_take (v := ?_) 4 hoi (by kernel_rfl) (by kernel_rfl) (by kernel_rfl) (fun _ _ _ h => h) (by rfl) ?_ hS ?_
        rotate_left
        · intro w _; go_simp; try with_reducible rfl
        clear hoi; try simp only [Act.put, List.setIfInBounds_toArray, List.set_cons_zero, List.set_cons_succ]
        refine rg_at 5 (by decide) (fun oi hoi => ?_)
        have ho2 := hoi; simp only [List.getElem?_toArray, List.getElem?_cons_succ, List.getElem?_cons_zero, Option.some.injEq] at ho2; subst ho2
        refine rg_take (v := ?_) 5 hoi (by kernel_rfl) (by kernel_rfl) (by kernel_rfl) (fun _ _ _ h => h) (by rfl) ?_ hS ?_
        rotate_left
        · intro w _; go_simp; try with_reducible rfl
        clear hoi; try simp only [Act.put, List.setIfInBounds_toArray, List.set_cons_zero, List.set_cons_succ]
        refine rg_at 6 (by decide) (fun oi hoi => ?_)
        have ho2 := hoi; simp only [List.getElem?_toArray, List.getElem?_cons_succ, List.getElem?_cons_zero, Option.some.injEq] at ho2; subst ho2
        refine rg_take (v := ?_) 6 hoi (by kernel_rfl) (by kernel_rfl) (by kernel_rfl) (fun _ _ _ h => h) (by rfl) ?_ hS ?_
        rotate_left
        · intro w _; go_simp; try with_reducible rfl
        clear hoi; try simp only [Act.put, List.setIfInBounds_toArray, List.set_cons_zero, List.set_cons_succ]
        refine rg_at 7 (by decide) (fun oi hoi => ?_)
        have ho2 := hoi; simp only [List.getElem?_toArray, List.getElem?_cons_succ, List.getElem?_cons_zero, Option.some.injEq] at ho2; subst ho2
        refine rg_call 7 (by kernel_rfl) hoi (by rfl) (fun K hK => ?_)
        clear hoi
        go_simp
        refine Calls.mono HL6.out ?_
        rintro e w8 ⟨rfl, rfl⟩
        go_wp2_with (fail)
        refine hK.out _ _ (trivial) (fun hS => ?_)
        clear hK K
        try simp only [Act.put, List.setIfInBounds_toArray, List.set_cons_zero, List.set_cons_succ]
        refine rg_at 8 (by decide) (fun oi hoi => ?_)
        have ho2 := hoi; simp only [List.getElem?_toArray, List.getElem?_cons_succ, List.getElem?_cons_zero, Option.some.injEq] at ho2; subst ho2
        refine rg_take (v := ?_) 8 hoi (by kernel_rfl) (by kernel_rfl) (by kernel_rfl) (fun _ _ _ h => h) (by rfl) ?_ hS ?_
        rotate_left
        · intro w hw; have hf := HSub.out; clear hw; go_simp; try with_reducible rfl
        clear hoi; try simp only [Act.put, List.setIfInBounds_toArray, List.set_cons_zero, List.set_cons_succ]
        refine rg_at 9 (by decide) (fun oi hoi => ?_)
        have ho2 := hoi; simp only [List.getElem?_toArray, List.getElem?_cons_succ, List.getElem?_cons_zero, Option.some.injEq] at ho2; subst ho2
        refine rg_take (v := ?_) 9 hoi (by kernel_rfl) (by kernel_rfl) (by kernel_rfl) (fun _ _ _ h => h) (by rfl) ?_ hS ?_
        rotate_left
        · intro w hw; have hf := hcut w; clear hw; go_simp; try with_reducible rfl
        clear hoi; try simp only [Act.put, List.setIfInBounds_toArray, List.set_cons_zero, List.set_cons_succ]
        refine rg_at 10 (by decide) (fun oi hoi => ?_)
        have ho2 := hoi; simp only [List.getElem?_toArray, List.getElem?_cons_succ, List.getElem?_cons_zero, Option.some.injEq] at ho2; subst ho2
        refine rg_take (v := ?_) 10 hoi (by kernel_rfl) (by kernel_rfl) (by kernel_rfl) (fun _ _ _ h => h) (by rfl) ?_ hS ?_
        rotate_left
        · intro w _; go_simp; try with_reducible rfl
        clear hoi; try simp only [Act.put, List.setIfInBounds_toArray, List.set_cons_zero, List.set_cons_succ]
        refine rg_at 11 (by decide) (fun oi hoi => ?_)
        have ho2 := hoi; simp only [List.getElem?_toArray, List.getElem?_cons_succ, List.getElem?_cons_zero, Option.some.injEq] at ho2; subst ho2
        refine rg_take (v := ?_) 11 hoi (by kernel_rfl) (by kernel_rfl) (by kernel_rfl) (fun _ _ _ h => h) (by rfl) ?_ hS ?_
        rotate_left
        · intro w _; go_simp; try with_reducible rfl
        clear hoi; try simp only [Act.put, List.setIfInBounds_toArray, List.set_cons_zero, List.set_cons_succ]
        refine rg_at 12 (by decide) (fun oi hoi => ?_)
        have ho2 := hoi; simp only [List.getElem?_toArray, List.getElem?_cons_succ, List.getElem?_cons_zero, Option.some.injEq] at ho2; subst ho2
        refine rg_call 12 (by kernel_rfl) hoi (by rfl) (fun K hK => ?_)
        clear hoi
        skip
        go_simp
        refine hK.out _ _ (trivial) (fun hS => ?_)
        clear hK K
        try simp only [Act.put, List.setIfInBounds_toArray, List.set_cons_zero, List.set_cons_succ]
        refine rg_at 13 (by decide) (fun oi hoi => ?_)
        have ho2 := hoi; simp only [List.getElem?_toArray, List.getElem?_cons_succ, List.getElem?_cons_zero, Option.some.injEq] at ho2; subst ho2
        refine rg_take (v := ?_) 13 hoi (by kernel_rfl) (by kernel_rfl) (by kernel_rfl) (fun _ _ _ h => h) (by rfl) ?_ hS ?_
        rotate_left
        · intro w _; go_simp; try with_reducible rfl
        clear hoi; try simp only [Act.put, List.setIfInBounds_toArray, List.set_cons_zero, List.set_cons_succ]
        refine rg_at 14 (by decide) (fun oi hoi => ?_)
        have ho2 := hoi; simp only [List.getElem?_toArray, List.getElem?_cons_succ, List.getElem?_cons_zero, Option.some.injEq] at ho2; subst ho2
        refine rg_take (v := ?_) 14 hoi (by kernel_rfl) (by kernel_rfl) (by kernel_rfl) (fun _ _ _ h => h) (by rfl) ?_ hS ?_
        rotate_left
        · intro w _; go_simp; try with_reducible rfl
        clear hoi; try simp only [Act.put, List.setIfInBounds_toArray, List.set_cons_zero, List.set_cons_succ]
        refine rg_at 15 (by decide) (fun oi hoi => ?_)
        have ho2 := hoi; simp only [List.getElem?_toArray, List.getElem?_cons_succ, List.getElem?_cons_zero, Option.some.injEq] at ho2; subst ho2
        refine rg_call 15 (by kernel_rfl) hoi (by rfl) (fun K hK => ?_)
        clear hoi
        skip
        go_simp
        refine hK.out _ _ (trivial) (fun hS => ?_)
        clear hK K
        try simp only [Act.put, List.setIfInBounds_toArray, List.set_cons_zero, List.set_cons_succ]
        refine wpAnyH_done (by kernel_rfl) ?_ _
        go_wp2
        obtain ⟨F9, h9⟩ := HF.out _ rfl
        have HG := hid h9
        clear h9
        go_roundw
        case rel => exact ⟨k + 1, F9, (n, r), by omega, by go_num, hid ⟨HG.out, HE.out⟩⟩
        case measure => simp [intOf]; omega
      · have HE2 : Hid (newer s (rd1 k b) = s) := hid (by rw [HR1.out, hrd]; exact newer_ge hgt)
        rw [HE2.out] at HE
        clear honly hrd
        go_wp2_with (fail)
        refine HB6.out.mono ?_
        rintro e w7 ⟨rfl, rfl⟩
        go_wp2
        go_roundw
        case rel => exact ⟨k + 1, F, s, by omega, by go_num, hid ⟨HW6.out, HE.out⟩⟩
        case measure => simp [intOf]; omega
    · obtain rfl : k = 2 := by omega
      have HE : Hid (frm (bk d.log) 2 0 (0, []) = s) := hid HW.out.2
      go_wp2
      go_ret2
      refine .some_ hR.out ?_
      rw [HE.out]
      exact ⟨q, F, rfl, HW.out.1.sp, HW.out.1.ok, HW.out.1.fo, HW.out.1.upd⟩
end Go.Proofs.Ytbcmaobopglooaa.Up
