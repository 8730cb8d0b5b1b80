/-
  RemindCancels.
-/
import Derived.Test.YtlicimkpgnemeaaRf
set_option linter.unusedVariables false
set_option linter.unusedSimpArgs false
namespace Go.Proofs.Ytlicimkpgnemeaa.Nd
open Go.RowKit Go.Proofs.Ytlicimkpgnemeaa.B Go.Proofs.Ytlicimkpgnemeaa.Op
structure Cn (w W : World) (q p pc : Nat) (c : Rm) (j : Nat) (F G : Nat → Prop) (l : List Rm) : Prop where
  tw : Tw w W F G q p l (del c.actor c.name l)
  bx : Bx W F G pc 27 #[.string c.actor, .string c.name, .int .i64 c.due, .int .i64 c.per, .int .i64 c.kind]
  le : l.length ≤ j
theorem Cn.quiet {w W W' : World} {q p pc : Nat} {c : Rm} {j : Nat} {F G : Nat → Prop} {l : List Rm} (h : Cn w W q p pc c j F G l) (hu : Upd No W W') : Cn w W' q p pc c j F G l :=
  ⟨h.tw.quiet hu, h.bx.quiet hu, h.le⟩
structure Cm (w W : World) (q p pc : Nat) (c : Rm) (F G : Nat → Prop) (l : List Rm) : Prop where
  tw : Tw w W F G q p l l
  bx : Bx W F G pc 27 #[.string c.actor, .string c.name, .int .i64 c.due, .int .i64 c.per, .int .i64 c.kind]
  no : has c.actor c.name l = false
set_option maxHeartbeats 4000000 in
set_option maxRecDepth 100000 in
theorem cancels_law (A : Option Addr) (cap : Nat) (xs : List Rm) (m now : Int) (w : World) (hr : Rd w 5 A xs.length (xs.flatMap rc)) (hx : xs.length ≤ maxLen ∧ ∀ x ∈ xs, Rg x) (hm : 0 ≤ m ∧ m ≤ 255) :
    Calls Try.prog 4 #[.slice A xs.length cap, .int .u8 m, .int .i64 now] w fun e w' => e = .returned (.bool true) ∧ Below w.heap.size w w' := by
  have hl1 : xs.length ≤ 9223372036854775807 := by have := hx.1; simp only [maxLen] at this; omega
  have HX := hid hx.2
  have HRx := hid fun W (hu : Below w.heap.size w W) => Rd.upd hr (by omega) (Upd.of_below No hu) fun _ _ => no_ _
  clear hx hr
  by_cases h60 : xs.length = 0 ∨ 60 < xs.length
  · rcases h60 with h60 | h60
    case' inl =>
      have h61 : ((xs.length : Int) == 0) = true := by simp [h60]
    case' inr =>
      have h61 : ((xs.length : Int) == 0) = false := by rw [beq_eq_false_iff_ne]; omega
      have h62 : (60 : Int) < (xs.length : Int) := by omega
    all_goals
      clear h60
      go_enter Try.func4, Try.ntmps4
      go_wp2_with (fail)
      refine Calls.mono (awake w) ?_
      rintro e w1 ⟨rfl, hb1⟩
      have HB1 := hid hb1
      clear hb1
      go_wp2_with (fail)
      refine Calls.mono (awake w1) ?_
      rintro e w2 ⟨rfl, hb2⟩
      have HB2 := hid (HB1.out.trans (hb2.mono HB1.out.size))
      clear hb2
      go_wp2
      go_ret
      exact ⟨rfl, HB2.out⟩
  have h0 : 0 < xs.length := by omega
  have h60' : xs.length ≤ 60 := by omega
  have h61 : ((xs.length : Int) == 0) = false := by rw [beq_eq_false_iff_ne]; omega
  have h62 : ¬ (60 : Int) < (xs.length : Int) := by omega
  clear h60
  obtain ⟨M, rfl⟩ : ∃ M : Nat, m = (M : Int) := ⟨m.toNat, by omega⟩
  obtain ⟨k, hk⟩ : ∃ k : Nat, k = M % xs.length := ⟨_, rfl⟩
  have hkl : k < xs.length := by rw [hk]; exact Nat.mod_lt _ h0
  have hrem : (M : Int).tmod (xs.length : Int) = (k : Int) := by rw [hk, Int.tmod_eq_emod_of_nonneg (by omega)]; rfl
  have hrem2 : (M : Int) % (xs.length : Int) = (k : Int) := by rw [hk]; rfl
  have hwk : IntKind.i64.wrap (k : Int) = (k : Int) := IntWalk.i64_in _ (by omega)
  have hwM : IntKind.i64.wrap (M : Int) = (M : Int) := IntWalk.i64_in _ (by omega)
  clear hk
  go_enter Try.func4, Try.ntmps4
  go_wp2_with (fail)
  refine (awake w).mono ?_
  rintro e w1 ⟨rfl, hb1⟩
  have HP := hid (Pq.new hb1)
  clear hb1
  go_wp2_with (fail)
  refine (new_ w1).mono ?_
  rintro e w2 ⟨rfl, rfl⟩
  have ht0 := Tw.new HP.out
  have e1 : ∀ (W : World) o, (W.alloc o).heap.size = W.heap.size + 1 := fun W o => by simp
  simp only [e1] at ht0
  have HT0 := hid ht0
  obtain ⟨ad, rfl, hat⟩ := rm_at (HRx.out _ ht0.bel) hkl
  generalize xs[k] = cc at *
  obtain ⟨ca, cn, cd, cp, ck⟩ := cc
  obtain ⟨x0, x1, x2, x3, x4⟩ := hat
  simp only at x0 x1 x2 x3 x4
  have HC0 : Hid (∃ W q p pc F G, W = ((w1.alloc (.cells #[.slice none 0 0] 47)).alloc (.cells #[.slice none 0 0] 36)).alloc (.cells #[.string ca, .string cn, .int .i64 cd, .int .i64 cp, .int .i64 ck] 27) ∧ q = w1.heap.size ∧ p = w1.heap.size + 1 ∧ pc = w1.heap.size + 1 + 1 ∧ Cn w W q p pc ⟨ca, cn, cd, cp, ck⟩ 0 F G []) := hid (by
    have hb := Bx.fresh HT0.out 27 #[.string ca, .string cn, .int .i64 cd, .int .i64 cp, .int .i64 ck]
    simp only [e1] at hb
    exact ⟨_, _, _, _, _, _, rfl, rfl, rfl, rfl, HT0.out.quiet ((Upd.refl No _).alloc _), hb, Nat.le_refl _⟩)
  clear ht0 e1 HP HT0
  go_wp2_with (fail)
  obtain ⟨wi, q, p, pc, Fi, Gi, hwi, hq, hp, hpc, hc0⟩ := HC0.out
  rw [← hwi, ← hpc, ← hp, ← hq]
  have HCi := hid hc0
  clear hwi hq hp hpc hc0 HC0 x0 x1 x2 x3 x4
  go_loopw [42] (fun v42 W => ∃ (j : Nat) (F G : Nat → Prop) (l : List Rm), j ≤ xs.length ∧ v42 = .int .i64 j ∧ Hid (Cn w W q p pc ⟨ca, cn, cd, cp, ck⟩ j F G l)) (fun v42 _ => xs.length - (intOf v42).toNat)
  case atStart => exact ⟨0, Fi, Gi, [], by omega, rfl, HCi⟩
  case round =>
    clear HCi
    obtain ⟨j, F, G, l, hj, rfl, HC⟩ := hrel
    by_cases hlt : j < xs.length
    · have hj2 : (j : Int) < (xs.length : Int) := by omega
      have hj1 : (0 : Int) ≤ (j : Int) := by omega
      obtain ⟨d, e, hat⟩ := rm_at (HRx.out wr HC.out.tw.bel) hlt
      injection e with e
      subst e
      have hrg := HX.out _ (List.getElem_mem hlt)
      generalize xs[j] = r at *
      obtain ⟨ra, rn, rd, rp, rk⟩ := r
      obtain ⟨x0, x1, x2, x3, x4⟩ := hat
      simp only at x0 x1 x2 x3 x4
      have HRg := hid hrg
      have HBl := hid fun o => (HC.out.tw.quiet ((Upd.refl No wr).alloc o)).bel
      clear hrg
      by_cases hn : 1000 < rn.size
      · have hn' : (1000 : Int) < (rn.size : Int) := by omega
        go_wp2
        go_ret
        exact ⟨rfl, HBl.out _⟩
      have hn' : ¬ (1000 : Int) < (rn.size : Int) := by omega
      by_cases ha : 1000 < ra.size
      · have ha' : (1000 : Int) < (ra.size : Int) := by omega
        go_wp2
        go_ret
        exact ⟨rfl, HBl.out _⟩
      have ha' : ¬ (1000 : Int) < (ra.size : Int) := by omega
      clear hn ha HBl
      have hc1 := HC.out.quiet ((Upd.refl No wr).alloc (.cells #[.string ra, .string rn, .int .i64 rd, .int .i64 rp, .int .i64 rk] 27))
      have hb1 := Bx.fresh HC.out.tw 27 #[.string ra, .string rn, .int .i64 rd, .int .i64 rp, .int .i64 rk]
      obtain ⟨pr, hpr⟩ : ∃ pr, pr = wr.heap.size := ⟨_, rfl⟩
      obtain ⟨w3, hw3⟩ : ∃ w3, w3 = wr.alloc (.cells #[.string ra, .string rn, .int .i64 rd, .int .i64 rp, .int .i64 rk] 27) := ⟨_, rfl⟩
      rw [← hw3, ← hpr] at hb1
      rw [← hw3] at hc1
      have hs := hc1.tw.set_l ⟨ra, rn, rd, rp, rk⟩ HRg.out
      unfold rv at hs
      have HS := hid hs
      have HC1 := hid hc1
      have HB1 := hid hb1
      clear hs hc1 hb1
      go_wp2_with (fail)
      rw [← hw3]
      try rw [← hpr]
      clear hw3 hpr x0 x1 x2 x3 x4
      refine HS.out.mono ?_
      rintro e w4 ⟨rfl, F4, ht4, hm4⟩
      have hbr := HB1.out.left hm4
      have hbc := HC1.out.bx.left hm4
      have hlen : (setR l ⟨ra, rn, rd, rp, rk⟩).2.length ≤ j + 1 := Nat.le_trans (set_len _ _) (by have := HC1.out.le; omega)
      have HI := hid ht4.ia
      have HSm := hid fun h => step_same (l := l) (r := ⟨ra, rn, rd, rp, rk⟩) (a := ca) (n := cn) h
      have HSo := hid fun h => step_other (l := l) (r := ⟨ra, rn, rd, rp, rk⟩) (a := ca) (n := cn) HC1.out.tw.ia (by have := HC1.out.le; omega) h
      have HKe : Hid (ke ca cn ⟨ra, rn, rd, rp, rk⟩ = (be ra ca && be rn cn)) := hid rfl
      have hsr := ht4.set_r ⟨ra, rn, rd, rp, rk⟩ HRg.out
      unfold rv at hsr
      have HSr := hid hsr
      have HT4 := hid ht4
      have HBc := hid hbc
      have HLe := hid hlen
      obtain ⟨y0, y1, y2, y3, y4⟩ := box5 hbr.1
      obtain ⟨z0, z1, z2, z3, z4⟩ := box5 hbc.1
      clear ht4 hm4 hbr hbc hlen hsr HS
      rcases hba : be ra ca with _ | _
      case' true =>
        rcases hbn : be rn cn with _ | _
      case' true.true =>
        have hba' : (ra.toList == ca.toList) = true := hba
        have hbn' : (rn.toList == cn.toList) = true := hbn
        have HN : Hid (Cn w w4 q p pc ⟨ca, cn, cd, cp, ck⟩ (j + 1) F4 G (setR l ⟨ra, rn, rd, rp, rk⟩).2) := hid (by
          refine ⟨?_, HBc.out, HLe.out⟩
          simp only
          rw [HSm.out (by rw [HKe.out, hba, hbn]; rfl)]
          exact HT4.out)
        clear hba hbn
        go_wp2
        go_roundw
        case rel => exact ⟨j + 1, F4, G, _, by omega, by go_num, HN⟩
        case measure => simp [intOf]; omega
      case' true.false =>
        have hba' : (ra.toList == ca.toList) = true := hba
        have hbn' : (rn.toList == cn.toList) = false := hbn
        have HKf : Hid (ke ca cn ⟨ra, rn, rd, rp, rk⟩ = false) := hid (by rw [HKe.out, hba, hbn]; rfl)
        clear hba hbn
      case' false =>
        have hba' : (ra.toList == ca.toList) = false := hba
        have HKf : Hid (ke ca cn ⟨ra, rn, rd, rp, rk⟩ = false) := hid (by rw [HKe.out, hba]; rfl)
        clear hba
      all_goals
        go_wp2_with (fail)
        refine HSr.out.mono ?_
        rintro e w5 ⟨rfl, G5, ht5, hm5⟩
        have HN : Hid (Cn w w5 q p pc ⟨ca, cn, cd, cp, ck⟩ (j + 1) F4 G5 (setR l ⟨ra, rn, rd, rp, rk⟩).2) := hid (by
          refine ⟨?_, HBc.out.right hm5, HLe.out⟩
          simp only
          rw [HSo.out HKf.out]
          exact ht5)
        clear ht5 hm5 HSr y0 y1 y2 y3 y4 z0 z1 z2 z3 z4
        go_wp2
        go_roundw
        case rel => exact ⟨j + 1, F4, G5, _, by omega, by go_num, HN⟩
        case measure => simp [intOf]; omega
    · obtain rfl : j = xs.length := by omega
      obtain ⟨wo, rfl⟩ : ∃ wo : World, wo = wr := ⟨_, rfl⟩
      have HCl := hid (HC.out.tw.cancel_l ca cn)
      have HBx := hid HC.out.bx
      obtain ⟨z0, z1, z2, z3, z4⟩ := box5 HBx.out.1
      try simp only at z0 z1 z2 z3 z4
      have HTl := hid HC.out.tw
      try simp only at HTl
      clear HC
      go_wp2_with (fail)
      refine HCl.out.mono ?_
      rintro e w2 ⟨rfl, F2, ht2, hm2⟩
      try simp only at ht2
      have hno := has_del l ca cn
      have hdd := del_del ca cn l
      generalize del ca cn l = m at *
      have hc2 := ht2.cancel_l ca cn
      rw [hno, hdd] at hc2
      have HC2 := hid hc2
      have HB2 := hid (HBx.out.left hm2)
      have HNo := hid hno
      obtain ⟨y0, y1, y2, y3, y4⟩ := box5 HB2.out.1
      try simp only at y0 y1 y2 y3 y4
      clear hc2 ht2 hm2 hno hdd HCl HTl HBx z0 z1 z2 z3 z4
      go_wp2_with (fail)
      refine HC2.out.mono ?_
      rintro e w3 ⟨rfl, F3, ht3, hm3⟩
      have HM3 : Hid (Cm w w3 q p pc ⟨ca, cn, cd, cp, ck⟩ F3 G m) := hid ⟨ht3, HB2.out.left hm3, HNo.out⟩
      clear ht3 hm3 HC2 HB2 HNo y0 y1 y2 y3 y4
      go_wp2_with (fail)
      go_loopw [90] (fun v90 W => ∃ (j : Nat) (F G : Nat → Prop) (l : List Rm), j ≤ 100 ∧ v90 = .int .i64 j ∧ Hid (Cm w W q p pc ⟨ca, cn, cd, cp, ck⟩ F G l)) (fun v90 _ => 100 - (intOf v90).toNat)
      case atStart => exact ⟨0, F3, G, m, by omega, rfl, HM3⟩
      case round =>
        clear HM3
        obtain ⟨j, F, G, l, hj, rfl, HC⟩ := hrel
        by_cases hlt : j < 100
        · have hj2 : (j : Int) < 100 := by omega
          have hsl := HC.out.tw.serve_l now
          have HSr := hid fun (W : World) (F' : Nat → Prop) (ht : Tw w W F' G q p (serveR l now).2 l) => ht.serve_r now
          have HNx := hid (has_serve (now := now) HC.out.no)
          have HBc := hid HC.out.bx
          try simp only at HNx HBc
          unfold tell rv at hsl HSr
          have HKf := hid fun (r : Rm) (h : (serveR l now).1 = some r) => has_false HC.out.no (serve_mem h)
          try simp only at HKf
          generalize (serveR l now).2 = l2 at *
          have HD : Hid (∃ (d : Rm) (b : Bool), ((serveR l now).1.getD zr = d) ∧ (serveR l now).1.isSome = b ∧ (b = true → ke ca cn d = false)) := hid ⟨_, _, rfl, rfl, fun h => by
            rcases ho : (serveR l now).1 with _ | r
            · rw [ho] at h; cases h
            · exact HKf.out r ho⟩
          obtain ⟨d, b, e1, e2, hk⟩ := HD.out
          rw [e1, e2] at hsl HSr
          obtain ⟨da, dn, dd, dp, dk⟩ := d
          try simp only at hsl HSr
          have HSl := hid hsl
          have HK := hid hk
          have HKe : Hid (ke ca cn ⟨da, dn, dd, dp, dk⟩ = (be da ca && be dn cn)) := hid rfl
          clear hsl e1 e2 hk HD HKf
          go_wp2_with (fail)
          refine HSl.out.mono ?_
          rintro e w6 ⟨rfl, F6, ht6, hm6⟩
          have hx6 := HBc.out.left hm6
          have hx7 := hx6.quiet ((Upd.refl No w6).alloc (.cells #[.string da, .string dn, .int .i64 dd, .int .i64 dp, .int .i64 dk] 30))
          have ht7 := ht6.quiet ((Upd.refl No w6).alloc (.cells #[.string da, .string dn, .int .i64 dd, .int .i64 dp, .int .i64 dk] 30))
          have hbx := Bx.fresh ht6 30 #[.string da, .string dn, .int .i64 dd, .int .i64 dp, .int .i64 dk]
          obtain ⟨p12, hp12⟩ : ∃ p12, p12 = w6.heap.size := ⟨_, rfl⟩
          obtain ⟨w7, hw7⟩ : ∃ w7, w7 = w6.alloc (.cells #[.string da, .string dn, .int .i64 dd, .int .i64 dp, .int .i64 dk] 30) := ⟨_, rfl⟩
          rw [← hw7, ← hp12] at hbx
          rw [← hw7] at hx7 ht7
          have HB7 := hid hbx
          have HX7 := hid hx7
          have HS7 := hid (HSr.out w7 F6 ht7)
          clear hx6 hx7 ht6 ht7 hbx hm6 HSl HSr HBc
          go_wp2_with (fail)
          rw [← hw7]
          try rw [← hp12]
          clear hw7 hp12
          refine HS7.out.mono ?_
          rintro e w8 ⟨rfl, G8, ht8, hm8⟩
          have hb8 := fun o => box5 ((HB7.out.right hm8).1.alloc o)
          have y0 := fun o => (hb8 o).1
          have y1 := fun o => (hb8 o).2.1
          have y2 := fun o => (hb8 o).2.2.1
          have y3 := fun o => (hb8 o).2.2.2.1
          have y4 := fun o => (hb8 o).2.2.2.2
          have hc8 := fun o => box5 ((HX7.out.right hm8).1.alloc o)
          have z0 := fun o => (hc8 o).1
          have z1 := fun o => (hc8 o).2.1
          have HN : Hid (Cm w (w8.alloc (.cells #[.string da, .string dn, .int .i64 dd, .int .i64 dp, .int .i64 dk] 27)) q p pc ⟨ca, cn, cd, cp, ck⟩ F6 G8 l2) := hid ⟨ht8.quiet ((Upd.refl No w8).alloc _), (HX7.out.right hm8).quiet ((Upd.refl No w8).alloc _), HNx.out⟩
          clear hb8 hc8 ht8 hm8 HS7 HX7 HB7 HNx
          cases b
          case' false => skip
          case' true =>
            have hk2 := HK.out rfl
            rw [HKe.out] at hk2
            rcases hba : be da ca with _ | _
          case' true.false =>
            have hba' : (da.toList == ca.toList) = false := hba
            clear hk2 hba
          case' true.true =>
            have hba' : (da.toList == ca.toList) = true := hba
            rw [hba, Bool.true_and] at hk2
            have hbn' : (dn.toList == cn.toList) = false := hk2
            clear hk2 hba
          all_goals
            go_wp2
            go_roundw
            case rel => exact ⟨j + 1, F6, G8, l2, by omega, by go_num, HN⟩
            case measure => simp [intOf]; omega
        · obtain rfl : j = 100 := by omega
          have HB := hid HC.out.tw.bel
          go_wp2
          go_ret
          exact ⟨rfl, HB.out⟩
end Go.Proofs.Ytlicimkpgnemeaa.Nd
