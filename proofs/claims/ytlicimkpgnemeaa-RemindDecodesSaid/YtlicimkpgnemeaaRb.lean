/-
  The reference's queue: Cancel, lay.
-/
import Derived.Test.YtlicimkpgnemeaaRa
import Derived.Test.YtlicimkpgnemeaaSl
set_option linter.unusedVariables false
set_option linter.unusedSimpArgs false
namespace Go.Proofs.Ytlicimkpgnemeaa.Nd
open Go.RowKit Go.Proofs.Ytlicimkpgnemeaa.B Go.Proofs.Ytlicimkpgnemeaa.Op
theorem rc_ones (r : Rm) : ∀ u ∈ rc r, u.oneCell' = true := fun u hu => rc_one r u (by simpa using hu)
theorem del_take_same {l : List Rm} {a n : ByteArray} {j : Nat} (hj : j < l.length) (h : ke a n l[j] = true) : del a n (l.take (j + 1)) = del a n (l.take j) := by
  unfold del
  rw [List.take_succ_eq_append_getElem hj, List.filter_append, List.filter_cons_of_neg (by simp [h])]
  simp
theorem del_take_more {l : List Rm} {a n : ByteArray} {j : Nat} (hj : j < l.length) (h : ke a n l[j] = false) : del a n (l.take (j + 1)) = del a n (l.take j) ++ [l[j]] := by
  unfold del
  rw [List.take_succ_eq_append_getElem hj, List.filter_append, List.filter_cons_of_pos (by simp [h])]
  simp
theorem split_at {l : List Rm} {r : Rm} {k : Nat} (hk : k ≤ l.length) (h1 : ∀ i (hi : i < l.length), i < k → less l[i] r = true) (h2 : ∀ hi : k < l.length, less l[k] r = false) : ins l r = l.take k ++ r :: l.drop k := by
  have hh : l.takeWhile (fun x => less x r) = l.take k ∧ l.dropWhile (fun x => less x r) = l.drop k := by
    induction l generalizing k with
    | nil => simp
    | cons a t ih =>
      cases k with
      | zero =>
        have := h2 (by simp)
        simp only [List.getElem_cons_zero] at this
        rw [List.takeWhile_cons, List.dropWhile_cons, this]
        simp
      | succ k =>
        have h0 := h1 0 (by simp) (by omega)
        simp only [List.getElem_cons_zero] at h0
        obtain ⟨e1, e2⟩ := ih (k := k) (by simpa using hk) (fun i hi hik => h1 (i + 1) (by simpa using hi) (by omega)) (fun hi => h2 (by simpa using hi))
        rw [List.takeWhile_cons, List.dropWhile_cons, h0, e1, e2]
        simp
  unfold ins
  rw [hh.1, hh.2]
theorem At.all {W : World} {ad : Addr} {r : Rm} (h : At W ad r) : W.cell? ad = some (.string r.actor) ∧ W.cell? ⟨ad.block, ad.off + 1, none⟩ = some (.string r.name) ∧ W.cell? ⟨ad.block, ad.off + 2, none⟩ = some (.int .i64 r.due) ∧ W.cell? ⟨ad.block, ad.off + 3, none⟩ = some (.int .i64 r.per) ∧ W.cell? ⟨ad.block, ad.off + 4, none⟩ = some (.int .i64 r.kind) := ⟨h.c0, h.c1, h.c2, h.c3, h.c4⟩
set_option maxHeartbeats 2000000 in
set_option maxRecDepth 100000 in
theorem rcancel_ (q : Nat) (F : Nat → Prop) (l : List Rm) (a n : ByteArray) (w : World) (h : Wq w F q l) (hl : l.length ≤ 1000) :
    Calls Try.prog 31 #[.pointer (some ⟨q, 0, none⟩), .string a, .string n] w fun e w' => e = .returned (.bool (has a n l)) ∧ ∃ F', Wq w' F' q (del a n l) ∧ Mv F F' w w' := by
  have HH := hid (rhas_ q F l a n w h hl)
  have HQ := hid h
  generalize has a n l = z at *
  clear h
  go_enter Try.func31, Try.ntmps31
  go_wp2_with (fail)
  refine HH.out.mono ?_
  rintro e w1 ⟨rfl, hu1⟩
  have HU1 := hid hu1
  obtain ⟨A, c, hc, _, _, _⟩ := (HQ.out.quiet hu1).cell
  clear hu1 HH
  go_wp2_with (fail)
  clear hc
  go_loopw [8, 19] (fun v8 v19 W => ∃ (j m : Nat) (A' : Option Addr) (k' : Nat), j ≤ l.length ∧ m ≤ j ∧ v19 = .int .i64 j ∧ v8 = .slice A' m k' ∧ Hid (m = (del a n (l.take j)).length) ∧ Hid (W.ownsRow w.heap.size 27 5 (.slice A' m k') m ((del a n (l.take j)).flatMap rc)) ∧ Hid (Upd No w W)) (fun _ v19 _ => l.length - (intOf v19).toNat)
  case atStart => exact ⟨0, 0, none, 0, by omega, by omega, rfl, rfl, hid rfl, hid (World.ownsRow_nil _ _ _ _), HU1⟩
  case round =>
    clear HU1
    obtain ⟨j, m, A', k', hj, hm, rfl, rfl, HM, HO, HU⟩ := hrel
    by_cases hlt : j < l.length
    · have hj2 : (j : Int) < (l.length : Int) := by omega
      have hj1 : (0 : Int) ≤ (j : Int) := by omega
      obtain ⟨A2, c2, hc2, hrd, _, _⟩ := (HQ.out.quiet HU.out).cell
      obtain ⟨ad, rfl, hat⟩ := rm_at hrd hlt
      have HKe : Hid (ke a n l[j] = (be l[j].actor a && be l[j].name n)) := hid rfl
      have HS := hid (del_take_same (a := a) (n := n) hlt)
      have HMo := hid (del_take_more (a := a) (n := n) hlt)
      have hus := HU.out.size
      generalize l[j] = x at *
      obtain ⟨xa, xn, xd, xp, xk⟩ := x
      obtain ⟨x0, x1, x2, x3, x4⟩ := hat
      simp only at x0 x1 x2 x3 x4 HKe
      clear hrd
      have HAp := hid (own_upd HO.out ((Upd.refl No wr).alloc (.cells (rc ⟨xa, xn, xd, xp, xk⟩).toArray 27)) fun _ _ => no_ _)
      rcases hb : be xa a with _ | _
      · rw [hb, Bool.false_and] at HKe
        have hb' : (xa.toList == a.toList) = false := hb
        clear hb
        go_wp2_with (at_builtin; go_must (refine ap_row w.heap.size rfl (.tmp 44) (.tmp 52) 22 27 (.agg #[.string ⟨#[]⟩, .string ⟨#[]⟩, .int .i64 0, .int .i64 0, .int .i64 0]) 5 56 rfl Try.underlying22 rf_info rfl (by omega) (.slice A' m k') m ((del a n (l.take j)).flatMap rc) (some ⟨wr.heap.size, 0, none⟩) 1 1 (rc ⟨xa, xn, xd, xp, xk⟩) rfl rfl HAp.out (Rd_lit wr _ 5 1 (rc ⟨xa, xn, xd, xp, xk⟩) rfl) (rc_ones _) (by omega) (by omega) (by simp; omega) ?_); intro A3 c3 w3 ho3 hg3 hat3)
        have HO2 : Hid (w3.ownsRow w.heap.size 27 5 (.slice A3 (m + 1) c3) (m + 1) ((del a n (l.take (j + 1))).flatMap rc)) := hid (by rw [HMo.out HKe.out, List.flatMap_append]; simpa using ho3)
        have HU2 : Hid (Upd No w w3) := hid ((HU.out.alloc _).grown hg3 fun kk hk => .inr (HO.out.lt kk hk).1)
        have HM2 : Hid (m + 1 = (del a n (l.take (j + 1))).length) := hid (by rw [HMo.out HKe.out, List.length_append, ← HM.out]; rfl)
        clear ho3 hg3 hat3 x0 x1 x2 x3 x4
        go_wp2
        go_roundw
        case rel => exact ⟨j + 1, m + 1, A3, c3, by omega, by omega, by go_num, rfl, HM2, HO2, HU2⟩
        case measure => simp [intOf]; omega
      · have hb' : (xa.toList == a.toList) = true := hb
        rw [hb, Bool.true_and] at HKe
        rcases hb2 : be xn n with _ | _
        · have hb2' : (xn.toList == n.toList) = false := hb2
          rw [hb2] at HKe
          clear hb hb2
          go_wp2_with (at_builtin; go_must (refine ap_row w.heap.size rfl (.tmp 44) (.tmp 52) 22 27 (.agg #[.string ⟨#[]⟩, .string ⟨#[]⟩, .int .i64 0, .int .i64 0, .int .i64 0]) 5 56 rfl Try.underlying22 rf_info rfl (by omega) (.slice A' m k') m ((del a n (l.take j)).flatMap rc) (some ⟨wr.heap.size, 0, none⟩) 1 1 (rc ⟨xa, xn, xd, xp, xk⟩) rfl rfl HAp.out (Rd_lit wr _ 5 1 (rc ⟨xa, xn, xd, xp, xk⟩) rfl) (rc_ones _) (by omega) (by omega) (by simp; omega) ?_); intro A3 c3 w3 ho3 hg3 hat3)
          have HO2 : Hid (w3.ownsRow w.heap.size 27 5 (.slice A3 (m + 1) c3) (m + 1) ((del a n (l.take (j + 1))).flatMap rc)) := hid (by rw [HMo.out HKe.out, List.flatMap_append]; simpa using ho3)
          have HU2 : Hid (Upd No w w3) := hid ((HU.out.alloc _).grown hg3 fun kk hk => .inr (HO.out.lt kk hk).1)
          have HM2 : Hid (m + 1 = (del a n (l.take (j + 1))).length) := hid (by rw [HMo.out HKe.out, List.length_append, ← HM.out]; rfl)
          clear ho3 hg3 hat3 x0 x1 x2 x3 x4
          go_wp2
          go_roundw
          case rel => exact ⟨j + 1, m + 1, A3, c3, by omega, by omega, by go_num, rfl, HM2, HO2, HU2⟩
          case measure => simp [intOf]; omega
        · have hb2' : (xn.toList == n.toList) = true := hb2
          rw [hb2] at HKe
          have HM2 : Hid (m = (del a n (l.take (j + 1))).length) := hid (by rw [HS.out HKe.out]; exact HM.out)
          have HO2 : Hid (wr.ownsRow w.heap.size 27 5 (.slice A' m k') m ((del a n (l.take (j + 1))).flatMap rc)) := hid (by rw [HS.out HKe.out]; exact HO.out)
          clear hb hb2
          go_wp2
          go_roundw
          case rel => exact ⟨j + 1, m, A', k', by omega, by omega, by go_num, rfl, HM2, HO2, HU⟩
          case measure => simp [intOf]; omega
    · obtain rfl : j = l.length := by omega
      have hM := HM.out
      have hO := HO.out
      rw [List.take_length] at hM hO
      obtain ⟨A2, c2, hb, ho, hF, _, _⟩ := HQ.out.parts
      have hb1 := hb.upd HU.out (no_ _)
      have hc0 := hb1.cell 0
      simp at hc0
      have hf0 := hb1.free 0
      have HE : Hid (∃ F', Wq (wr.setCell ⟨q, 0, none⟩ (.slice A' m k')) F' q (del a n l) ∧ Mv F F' w (wr.setCell ⟨q, 0, none⟩ (.slice A' m k'))) := hid (Wq.stored hb ho hF (HU.out.mono fun _ _ h => h.elim) (by rw [← hM]; exact own_base hO (Nat.zero_le _)) (fun k hk => .inr (hO.lt k hk).1) rfl)
      clear hM hO hb ho hF hb1
      go_wp2
      go_ret
      exact ⟨rfl, HE.out⟩
set_option maxHeartbeats 4000000 in
set_option maxRecDepth 100000 in
theorem rlay_ (q : Nat) (F : Nat → Prop) (l : List Rm) (r : Rm) (w : World) (h : Wq w F q l) (hl : l.length ≤ 1000) :
    Calls Try.prog 32 #[.pointer (some ⟨q, 0, none⟩), rv r] w fun e w' => e = .returned (.tuple #[]) ∧ ∃ F', Wq w' F' q (ins l r) ∧ Mv F F' w w' := by
  obtain ⟨A, c, hb, ho, hF, hlc, hcm⟩ := h.parts
  have HRd := hid (Rd.of_own ho)
  have HSt := hid (And.intro hb (And.intro ho hF))
  have HIn := hid fun (k : Nat) (hk : k ≤ l.length) (h1 : ∀ i (hi : i < l.length), i < k → less l[i] r = true) (h2 : ∀ hi : k < l.length, less l[k] r = false) => split_at hk h1 h2
  have HLs := hid fun (x : Rm) (W : World) => rless_ x r W
  have HW1 : Hid (∃ w1 p, w1 = w.alloc (.cells (rc r).toArray 27) ∧ p = w.heap.size ∧ Blk w1 p 27 (rc r).toArray ∧ Upd No w w1) := hid ⟨_, _, rfl, rfl, Blk.fresh _ _ _, (Upd.refl _ _).alloc _⟩
  have HQb := hid fun (W : World) (hu : Upd No w W) => hb.upd hu (no_ _)
  obtain ⟨L, hL⟩ : ∃ L, L = ins l r := ⟨_, rfl⟩
  have HLl := hid (show L.length = l.length + 1 by rw [hL, ins_length])
  have HL := hid hL
  rw [← hL]
  clear h hb ho hF hL
  obtain ⟨ac, an, ad, ap, ak⟩ := r
  unfold rv at HLs ⊢
  simp only [rc] at HW1
  simp only at HLs ⊢
  have hrc : Hid (rc ⟨ac, an, ad, ap, ak⟩ = [.string ac, .string an, .int .i64 ad, .int .i64 ap, .int .i64 ak]) := hid rfl
  go_enter Try.func32, Try.ntmps32
  go_wp2_with (fail)
  obtain ⟨w1, p, hw1, hp, hb1, hu1⟩ := HW1.out
  rw [← hw1]
  try rw [← hp]
  have HL1 : Hid (∀ W, Upd No w1 W → (W.cell? ⟨q, 0, none⟩ = some (.slice A l.length c)) ∧ (W.cell? ⟨p, 0, none⟩ = some (.string ac) ∧ W.cell? ⟨p, 1, none⟩ = some (.string an) ∧ W.cell? ⟨p, 2, none⟩ = some (.int .i64 ad) ∧ W.cell? ⟨p, 3, none⟩ = some (.int .i64 ap) ∧ W.cell? ⟨p, 4, none⟩ = some (.int .i64 ak))) := hid fun W hu => by
    have e0 := (HQb.out W (hu1.next hu)).cell 0
    simp at e0
    exact ⟨e0, box5 (hb1.upd hu (no_ _))⟩
  have HRd1 := hid fun (W : World) (hu : Upd No w1 W) => Rd.upd HRd.out (by omega) (hu1.next hu) fun _ _ => no_ _
  have HU1 := hid hu1
  clear hw1 hp hb1 hu1 HW1 HRd
  go_loopw [4] (fun v4 W => ∃ (j : Nat), j ≤ l.length ∧ v4 = .int .i64 j ∧ Hid (∀ i (hi : i < l.length), i < j → less l[i] ⟨ac, an, ad, ap, ak⟩ = true) ∧ Hid (Upd No w1 W)) (fun v4 _ => l.length - (intOf v4).toNat)
  case atStart => exact ⟨0, by omega, rfl, hid (fun i hi h0 => by omega), hid (Upd.refl _ _)⟩
  case round =>
    obtain ⟨j, hj, rfl, HJ, HU⟩ := hrel
    have hj1 : (0 : Int) ≤ (j : Int) := by omega
    by_cases hlt : j < l.length
    case' pos =>
      have hj2 : (j : Int) < (l.length : Int) := by omega
      obtain ⟨d, hA, hat⟩ := rm_at (HRd1.out wr HU.out) hlt
      subst hA
      have HAt : Hid (∀ W, Upd No w1 W → At W (d.add (j * 5)) l[j]) := hid fun W hu => by
        obtain ⟨d', e, h⟩ := rm_at (HRd1.out W hu) hlt
        injection e with e
        subst e
        exact h
      clear hat
      have HN := hid fun (h : less l[j] ⟨ac, an, ad, ap, ak⟩ = true) (i : Nat) (hi : i < l.length) (h1 : i < j + 1) => show less l[i] ⟨ac, an, ad, ap, ak⟩ = true by
        rcases Nat.lt_or_ge i j with h2 | h2
        · exact HJ.out i hi h2
        · obtain rfl : i = j := by omega
          exact h
      have HX : Hid (less l[j] ⟨ac, an, ad, ap, ak⟩ = false → ins l ⟨ac, an, ad, ap, ak⟩ = l.take j ++ ⟨ac, an, ad, ap, ak⟩ :: l.drop j) := hid fun h => HIn.out j hj HJ.out fun _ => h
      generalize l[j] = x at *
      obtain ⟨xa, xn, xd, xp, xk⟩ := x
      have HLx := hid fun W => HLs.out ⟨xa, xn, xd, xp, xk⟩ W
      simp only at HLx
      generalize hz : less ⟨xa, xn, xd, xp, xk⟩ ⟨ac, an, ad, ap, ak⟩ = z at HLx
      have HZ := hid hz
      clear hz
      go_wp2_with (fail)
      refine wp_region_held_drew (S := fun W => Upd No w1 W) (by kernel_rfl) HU.out.drew (fun hS => ?_)
      refine rg_at 0 (by decide) (fun oi hoi => ?_)
      have ho2 := hoi; simp only [List.getElem?_toArray, List.getElem?_cons_succ, List.getElem?_cons_zero, Option.some.injEq] at ho2; subst ho2
      refine rg_take (v := ?_) 0 hoi (by kernel_rfl) (by kernel_rfl) (by kernel_rfl) (fun _ _ _ h => h) (by rfl) ?_ hS ?_
      rotate_left
      · intro w _; go_simp; try with_reducible rfl
      clear hoi; try simp only [Act.put, List.setIfInBounds_toArray, List.set_cons_zero, List.set_cons_succ]
      refine rg_at 1 (by decide) (fun oi hoi => ?_)
      have ho2 := hoi; simp only [List.getElem?_toArray, List.getElem?_cons_succ, List.getElem?_cons_zero, Option.some.injEq] at ho2; subst ho2
      refine rg_take (v := ?_) 1 hoi (by kernel_rfl) (by kernel_rfl) (by kernel_rfl) (fun _ _ _ h => h) (by rfl) ?_ hS ?_
      rotate_left
      · intro w _; go_simp; try with_reducible rfl
      clear hoi; try simp only [Act.put, List.setIfInBounds_toArray, List.set_cons_zero, List.set_cons_succ]
      refine rg_at 2 (by decide) (fun oi hoi => ?_)
      have ho2 := hoi; simp only [List.getElem?_toArray, List.getElem?_cons_succ, List.getElem?_cons_zero, Option.some.injEq] at ho2; subst ho2
      refine rg_take (v := ?_) 2 hoi (by kernel_rfl) (by kernel_rfl) (by kernel_rfl) (fun _ _ _ h => h) (by rfl) ?_ hS ?_
      rotate_left
      · intro w _; go_simp; try with_reducible rfl
      clear hoi; try simp only [Act.put, List.setIfInBounds_toArray, List.set_cons_zero, List.set_cons_succ]
      refine rg_at 3 (by decide) (fun oi hoi => ?_)
      have ho2 := hoi; simp only [List.getElem?_toArray, List.getElem?_cons_succ, List.getElem?_cons_zero, Option.some.injEq] at ho2; subst ho2
      refine rg_take (v := ?_) 3 hoi (by kernel_rfl) (by kernel_rfl) (by kernel_rfl) (fun _ _ _ h => h) (by rfl) ?_ hS ?_
      rotate_left
      · intro w _; go_simp; try with_reducible rfl
      clear hoi; try simp only [Act.put, List.setIfInBounds_toArray, List.set_cons_zero, List.set_cons_succ]
      refine rg_at 4 (by decide) (fun oi hoi => ?_)
      have ho2 := hoi; simp only [List.getElem?_toArray, List.getElem?_cons_succ, List.getElem?_cons_zero, Option.some.injEq] at ho2; subst ho2
      refine rg_take (v := ?_) 4 hoi (by kernel_rfl) (by kernel_rfl) (by kernel_rfl) (fun _ _ _ h => h) (by rfl) ?_ hS ?_
      rotate_left
      · intro w hw; have hf := (HL1.out w hw).1; clear hw; go_simp; try with_reducible rfl
      clear hoi; try simp only [Act.put, List.setIfInBounds_toArray, List.set_cons_zero, List.set_cons_succ]
      refine rg_at 5 (by decide) (fun oi hoi => ?_)
      have ho2 := hoi; simp only [List.getElem?_toArray, List.getElem?_cons_succ, List.getElem?_cons_zero, Option.some.injEq] at ho2; subst ho2
      refine rg_take (v := ?_) 5 hoi (by kernel_rfl) (by kernel_rfl) (by kernel_rfl) (fun _ _ _ h => h) (by rfl) ?_ hS ?_
      rotate_left
      · intro w _; go_simp; try with_reducible rfl
      clear hoi; try simp only [Act.put, List.setIfInBounds_toArray, List.set_cons_zero, List.set_cons_succ]
      refine rg_at 6 (by decide) (fun oi hoi => ?_)
      have ho2 := hoi; simp only [List.getElem?_toArray, List.getElem?_cons_succ, List.getElem?_cons_zero, Option.some.injEq] at ho2; subst ho2
      refine rg_take (v := ?_) 6 hoi (by kernel_rfl) (by kernel_rfl) (by kernel_rfl) (fun _ _ _ h => h) (by rfl) ?_ hS ?_
      rotate_left
      · intro w _; go_simp; try with_reducible rfl
      clear hoi; try simp only [Act.put, List.setIfInBounds_toArray, List.set_cons_zero, List.set_cons_succ]
      refine rg_at 7 (by decide) (fun oi hoi => ?_)
      have ho2 := hoi; simp only [List.getElem?_toArray, List.getElem?_cons_succ, List.getElem?_cons_zero, Option.some.injEq] at ho2; subst ho2
      refine rg_take (v := ?_) 7 hoi (by kernel_rfl) (by kernel_rfl) (by kernel_rfl) (fun _ _ _ h => h) (by rfl) ?_ hS ?_
      rotate_left
      · intro w _; go_simp; try with_reducible rfl
      clear hoi; try simp only [Act.put, List.setIfInBounds_toArray, List.set_cons_zero, List.set_cons_succ]
      refine rg_at 8 (by decide) (fun oi hoi => ?_)
      have ho2 := hoi; simp only [List.getElem?_toArray, List.getElem?_cons_succ, List.getElem?_cons_zero, Option.some.injEq] at ho2; subst ho2
      refine rg_take (v := ?_) 8 hoi (by kernel_rfl) (by kernel_rfl) (by kernel_rfl) (fun _ _ _ h => h) (by rfl) ?_ hS ?_
      rotate_left
      · intro w _; go_simp; try with_reducible rfl
      clear hoi; try simp only [Act.put, List.setIfInBounds_toArray, List.set_cons_zero, List.set_cons_succ]
      refine rg_at 9 (by decide) (fun oi hoi => ?_)
      have ho2 := hoi; simp only [List.getElem?_toArray, List.getElem?_cons_succ, List.getElem?_cons_zero, Option.some.injEq] at ho2; subst ho2
      refine rg_take (v := ?_) 9 hoi (by kernel_rfl) (by kernel_rfl) (by kernel_rfl) (fun _ _ _ h => h) (by rfl) ?_ hS ?_
      rotate_left
      · intro w _; go_simp; try with_reducible rfl
      clear hoi; try simp only [Act.put, List.setIfInBounds_toArray, List.set_cons_zero, List.set_cons_succ]
      refine rg_at 10 (by decide) (fun oi hoi => ?_)
      have ho2 := hoi; simp only [List.getElem?_toArray, List.getElem?_cons_succ, List.getElem?_cons_zero, Option.some.injEq] at ho2; subst ho2
      refine rg_take (v := ?_) 10 hoi (by kernel_rfl) (by kernel_rfl) (by kernel_rfl) (fun _ _ _ h => h) (by rfl) ?_ hS ?_
      rotate_left
      · intro w _; go_simp; try with_reducible rfl
      clear hoi; try simp only [Act.put, List.setIfInBounds_toArray, List.set_cons_zero, List.set_cons_succ]
      refine rg_at 11 (by decide) (fun oi hoi => ?_)
      have ho2 := hoi; simp only [List.getElem?_toArray, List.getElem?_cons_succ, List.getElem?_cons_zero, Option.some.injEq] at ho2; subst ho2
      refine rg_take (v := ?_) 11 hoi (by kernel_rfl) (by kernel_rfl) (by kernel_rfl) (fun _ _ _ h => h) (by rfl) ?_ hS ?_
      rotate_left
      · intro w hw; have hf := (HL1.out w hw).1; clear hw; go_simp; try with_reducible rfl
      clear hoi; try simp only [Act.put, List.setIfInBounds_toArray, List.set_cons_zero, List.set_cons_succ]
      refine rg_at 12 (by decide) (fun oi hoi => ?_)
      have ho2 := hoi; simp only [List.getElem?_toArray, List.getElem?_cons_succ, List.getElem?_cons_zero, Option.some.injEq] at ho2; subst ho2
      refine rg_take (v := ?_) 12 hoi (by kernel_rfl) (by kernel_rfl) (by kernel_rfl) (fun _ _ _ h => h) (by rfl) ?_ hS ?_
      rotate_left
      · intro w _; go_simp; try with_reducible rfl
      clear hoi; try simp only [Act.put, List.setIfInBounds_toArray, List.set_cons_zero, List.set_cons_succ]
      refine rg_at 13 (by decide) (fun oi hoi => ?_)
      have ho2 := hoi; simp only [List.getElem?_toArray, List.getElem?_cons_succ, List.getElem?_cons_zero, Option.some.injEq] at ho2; subst ho2
      refine rg_take (v := ?_) 13 hoi (by kernel_rfl) (by kernel_rfl) (by kernel_rfl) (fun _ _ _ h => h) (by rfl) ?_ hS ?_
      rotate_left
      · intro w _; go_simp; try with_reducible rfl
      clear hoi; try simp only [Act.put, List.setIfInBounds_toArray, List.set_cons_zero, List.set_cons_succ]
      refine rg_at 14 (by decide) (fun oi hoi => ?_)
      have ho2 := hoi; simp only [List.getElem?_toArray, List.getElem?_cons_succ, List.getElem?_cons_zero, Option.some.injEq] at ho2; subst ho2
      refine rg_take (v := ?_) 14 hoi (by kernel_rfl) (by kernel_rfl) (by kernel_rfl) (fun _ _ _ h => h) (by rfl) ?_ hS ?_
      rotate_left
      · intro w hw; have hf := (HAt.out w hw).all; clear hw; go_simp; try with_reducible rfl
      clear hoi; try simp only [Act.put, List.setIfInBounds_toArray, List.set_cons_zero, List.set_cons_succ]
      refine rg_at 15 (by decide) (fun oi hoi => ?_)
      have ho2 := hoi; simp only [List.getElem?_toArray, List.getElem?_cons_succ, List.getElem?_cons_zero, Option.some.injEq] at ho2; subst ho2
      refine rg_take (v := ?_) 15 hoi (by kernel_rfl) (by kernel_rfl) (by kernel_rfl) (fun _ _ _ h => h) (by rfl) ?_ hS ?_
      rotate_left
      · intro w hw; have hf := (HL1.out w hw).2; clear hw; go_simp; try with_reducible rfl
      clear hoi; try simp only [Act.put, List.setIfInBounds_toArray, List.set_cons_zero, List.set_cons_succ]
      refine rg_at 16 (by decide) (fun oi hoi => ?_)
      have ho2 := hoi; simp only [List.getElem?_toArray, List.getElem?_cons_succ, List.getElem?_cons_zero, Option.some.injEq] at ho2; subst ho2
      refine rg_call 16 (by kernel_rfl) hoi (by rfl) (fun K hK => ?_)
      clear hoi
      go_simp
      refine Calls.mono (HLx.out _) ?_
      rintro e wx ⟨rfl, hu2⟩
      go_wp2_with (fail)
      refine hK.out _ _ ((hS.next hu2)) (fun hS => ?_)
      clear hK K
      try simp only [Act.put, List.setIfInBounds_toArray, List.set_cons_zero, List.set_cons_succ]
      refine rg_at 17 (by decide) (fun oi hoi => ?_)
      have ho2 := hoi; simp only [List.getElem?_toArray, List.getElem?_cons_succ, List.getElem?_cons_zero, Option.some.injEq] at ho2; subst ho2
      refine rg_take (v := ?_) 17 hoi (by kernel_rfl) (by kernel_rfl) (by kernel_rfl) (fun _ _ _ h => h) (by rfl) ?_ hS ?_
      rotate_left
      · intro w _; go_simp; try with_reducible rfl
      clear hoi; try simp only [Act.put, List.setIfInBounds_toArray, List.set_cons_zero, List.set_cons_succ]
      refine wpAnyH_done (by kernel_rfl) ?_ _
      have HX2 := hid hS
      clear hS
      cases z
      case true =>
        go_wp2
        go_roundw
        case rel => exact ⟨j + 1, by omega, by go_num, hid (HN.out HZ.out), HX2⟩
        case measure => simp [intOf]; omega
      have HI2 : Hid (L = l.take j ++ ⟨ac, an, ad, ap, ak⟩ :: l.drop j) := hid (by rw [HL.out]; exact HX.out HZ.out)
      clear HAt
      generalize some d = A at *
    case' neg =>
      have hj2 : ¬ (j : Int) < (l.length : Int) := by omega
      have HI2 : Hid (L = l.take j ++ ⟨ac, an, ad, ap, ak⟩ :: l.drop j) := hid (by rw [HL.out]; exact HIn.out j hj HJ.out fun h => absurd h hlt)
      go_wp2_with (fail)
      refine wp_region_held_drew (S := fun W => Upd No w1 W) (by kernel_rfl) HU.out.drew (fun hS => ?_)
      refine rg_at 0 (by decide) (fun oi hoi => ?_)
      have ho2 := hoi; simp only [List.getElem?_toArray, List.getElem?_cons_succ, List.getElem?_cons_zero, Option.some.injEq] at ho2; subst ho2
      refine rg_take (v := ?_) 0 hoi (by kernel_rfl) (by kernel_rfl) (by kernel_rfl) (fun _ _ _ h => h) (by rfl) ?_ hS ?_
      rotate_left
      · intro w _; go_simp; try with_reducible rfl
      clear hoi; try simp only [Act.put, List.setIfInBounds_toArray, List.set_cons_zero, List.set_cons_succ]
      refine rg_at 1 (by decide) (fun oi hoi => ?_)
      have ho2 := hoi; simp only [List.getElem?_toArray, List.getElem?_cons_succ, List.getElem?_cons_zero, Option.some.injEq] at ho2; subst ho2
      refine rg_take (v := ?_) 1 hoi (by kernel_rfl) (by kernel_rfl) (by kernel_rfl) (fun _ _ _ h => h) (by rfl) ?_ hS ?_
      rotate_left
      · intro w _; go_simp; try with_reducible rfl
      clear hoi; try simp only [Act.put, List.setIfInBounds_toArray, List.set_cons_zero, List.set_cons_succ]
      refine rg_at 2 (by decide) (fun oi hoi => ?_)
      have ho2 := hoi; simp only [List.getElem?_toArray, List.getElem?_cons_succ, List.getElem?_cons_zero, Option.some.injEq] at ho2; subst ho2
      refine rg_take (v := ?_) 2 hoi (by kernel_rfl) (by kernel_rfl) (by kernel_rfl) (fun _ _ _ h => h) (by rfl) ?_ hS ?_
      rotate_left
      · intro w _; go_simp; try with_reducible rfl
      clear hoi; try simp only [Act.put, List.setIfInBounds_toArray, List.set_cons_zero, List.set_cons_succ]
      refine rg_at 3 (by decide) (fun oi hoi => ?_)
      have ho2 := hoi; simp only [List.getElem?_toArray, List.getElem?_cons_succ, List.getElem?_cons_zero, Option.some.injEq] at ho2; subst ho2
      refine rg_take (v := ?_) 3 hoi (by kernel_rfl) (by kernel_rfl) (by kernel_rfl) (fun _ _ _ h => h) (by rfl) ?_ hS ?_
      rotate_left
      · intro w _; go_simp; try with_reducible rfl
      clear hoi; try simp only [Act.put, List.setIfInBounds_toArray, List.set_cons_zero, List.set_cons_succ]
      refine rg_at 4 (by decide) (fun oi hoi => ?_)
      have ho2 := hoi; simp only [List.getElem?_toArray, List.getElem?_cons_succ, List.getElem?_cons_zero, Option.some.injEq] at ho2; subst ho2
      refine rg_take (v := ?_) 4 hoi (by kernel_rfl) (by kernel_rfl) (by kernel_rfl) (fun _ _ _ h => h) (by rfl) ?_ hS ?_
      rotate_left
      · intro w hw; have hf := (HL1.out w hw).1; clear hw; go_simp; try with_reducible rfl
      clear hoi; try simp only [Act.put, List.setIfInBounds_toArray, List.set_cons_zero, List.set_cons_succ]
      refine rg_at 5 (by decide) (fun oi hoi => ?_)
      have ho2 := hoi; simp only [List.getElem?_toArray, List.getElem?_cons_succ, List.getElem?_cons_zero, Option.some.injEq] at ho2; subst ho2
      refine rg_take (v := ?_) 5 hoi (by kernel_rfl) (by kernel_rfl) (by kernel_rfl) (fun _ _ _ h => h) (by rfl) ?_ hS ?_
      rotate_left
      · intro w _; go_simp; try with_reducible rfl
      clear hoi; try simp only [Act.put, List.setIfInBounds_toArray, List.set_cons_zero, List.set_cons_succ]
      refine rg_at 6 (by decide) (fun oi hoi => ?_)
      have ho2 := hoi; simp only [List.getElem?_toArray, List.getElem?_cons_succ, List.getElem?_cons_zero, Option.some.injEq] at ho2; subst ho2
      refine rg_take (v := ?_) 6 hoi (by kernel_rfl) (by kernel_rfl) (by kernel_rfl) (fun _ _ _ h => h) (by rfl) ?_ hS ?_
      rotate_left
      · intro w _; go_simp; try with_reducible rfl
      clear hoi; try simp only [Act.put, List.setIfInBounds_toArray, List.set_cons_zero, List.set_cons_succ]
      refine rg_at 7 (by decide) (fun oi hoi => ?_)
      have ho2 := hoi; simp only [List.getElem?_toArray, List.getElem?_cons_succ, List.getElem?_cons_zero, Option.some.injEq] at ho2; subst ho2
      refine rg_take (v := ?_) 7 hoi (by kernel_rfl) (by kernel_rfl) (by kernel_rfl) (fun _ _ _ h => h) (by rfl) ?_ hS ?_
      rotate_left
      · intro w _; go_simp; try with_reducible rfl
      clear hoi; try simp only [Act.put, List.setIfInBounds_toArray, List.set_cons_zero, List.set_cons_succ]
      refine rg_at 8 (by decide) (fun oi hoi => ?_)
      have ho2 := hoi; simp only [List.getElem?_toArray, List.getElem?_cons_succ, List.getElem?_cons_zero, Option.some.injEq] at ho2; subst ho2
      refine rg_skip 8 hoi (by kernel_rfl) (by kernel_rfl) (by kernel_rfl) (fun _ _ _ h => h) (by rfl) hS ?_
      clear hoi; try simp only [Act.put, List.setIfInBounds_toArray, List.set_cons_zero, List.set_cons_succ]
      refine rg_at 9 (by decide) (fun oi hoi => ?_)
      have ho2 := hoi; simp only [List.getElem?_toArray, List.getElem?_cons_succ, List.getElem?_cons_zero, Option.some.injEq] at ho2; subst ho2
      refine rg_skip 9 hoi (by kernel_rfl) (by kernel_rfl) (by kernel_rfl) (fun _ _ _ h => h) (by rfl) hS ?_
      clear hoi; try simp only [Act.put, List.setIfInBounds_toArray, List.set_cons_zero, List.set_cons_succ]
      refine rg_at 10 (by decide) (fun oi hoi => ?_)
      have ho2 := hoi; simp only [List.getElem?_toArray, List.getElem?_cons_succ, List.getElem?_cons_zero, Option.some.injEq] at ho2; subst ho2
      refine rg_skip 10 hoi (by kernel_rfl) (by kernel_rfl) (by kernel_rfl) (fun _ _ _ h => h) (by rfl) hS ?_
      clear hoi; try simp only [Act.put, List.setIfInBounds_toArray, List.set_cons_zero, List.set_cons_succ]
      refine rg_at 11 (by decide) (fun oi hoi => ?_)
      have ho2 := hoi; simp only [List.getElem?_toArray, List.getElem?_cons_succ, List.getElem?_cons_zero, Option.some.injEq] at ho2; subst ho2
      refine rg_skip 11 hoi (by kernel_rfl) (by kernel_rfl) (by kernel_rfl) (fun _ _ _ h => h) (by rfl) hS ?_
      clear hoi; try simp only [Act.put, List.setIfInBounds_toArray, List.set_cons_zero, List.set_cons_succ]
      refine rg_at 12 (by decide) (fun oi hoi => ?_)
      have ho2 := hoi; simp only [List.getElem?_toArray, List.getElem?_cons_succ, List.getElem?_cons_zero, Option.some.injEq] at ho2; subst ho2
      refine rg_skip 12 hoi (by kernel_rfl) (by kernel_rfl) (by kernel_rfl) (fun _ _ _ h => h) (by rfl) hS ?_
      clear hoi; try simp only [Act.put, List.setIfInBounds_toArray, List.set_cons_zero, List.set_cons_succ]
      refine rg_at 13 (by decide) (fun oi hoi => ?_)
      have ho2 := hoi; simp only [List.getElem?_toArray, List.getElem?_cons_succ, List.getElem?_cons_zero, Option.some.injEq] at ho2; subst ho2
      refine rg_skip 13 hoi (by kernel_rfl) (by kernel_rfl) (by kernel_rfl) (fun _ _ _ h => h) (by rfl) hS ?_
      clear hoi; try simp only [Act.put, List.setIfInBounds_toArray, List.set_cons_zero, List.set_cons_succ]
      refine rg_at 14 (by decide) (fun oi hoi => ?_)
      have ho2 := hoi; simp only [List.getElem?_toArray, List.getElem?_cons_succ, List.getElem?_cons_zero, Option.some.injEq] at ho2; subst ho2
      refine rg_skip 14 hoi (by kernel_rfl) (by kernel_rfl) (by kernel_rfl) (fun _ _ _ h => h) (by rfl) hS ?_
      clear hoi; try simp only [Act.put, List.setIfInBounds_toArray, List.set_cons_zero, List.set_cons_succ]
      refine rg_at 15 (by decide) (fun oi hoi => ?_)
      have ho2 := hoi; simp only [List.getElem?_toArray, List.getElem?_cons_succ, List.getElem?_cons_zero, Option.some.injEq] at ho2; subst ho2
      refine rg_skip 15 hoi (by kernel_rfl) (by kernel_rfl) (by kernel_rfl) (fun _ _ _ h => h) (by rfl) hS ?_
      clear hoi; try simp only [Act.put, List.setIfInBounds_toArray, List.set_cons_zero, List.set_cons_succ]
      refine rg_at 16 (by decide) (fun oi hoi => ?_)
      have ho2 := hoi; simp only [List.getElem?_toArray, List.getElem?_cons_succ, List.getElem?_cons_zero, Option.some.injEq] at ho2; subst ho2
      refine rg_skip 16 hoi (by kernel_rfl) (by kernel_rfl) (by kernel_rfl) (fun _ _ _ h => h) (by rfl) hS ?_
      clear hoi; try simp only [Act.put, List.setIfInBounds_toArray, List.set_cons_zero, List.set_cons_succ]
      refine rg_at 17 (by decide) (fun oi hoi => ?_)
      have ho2 := hoi; simp only [List.getElem?_toArray, List.getElem?_cons_succ, List.getElem?_cons_zero, Option.some.injEq] at ho2; subst ho2
      refine rg_take (v := ?_) 17 hoi (by kernel_rfl) (by kernel_rfl) (by kernel_rfl) (fun _ _ _ h => h) (by rfl) ?_ hS ?_
      rotate_left
      · intro w _; go_simp; try with_reducible rfl
      clear hoi; try simp only [Act.put, List.setIfInBounds_toArray, List.set_cons_zero, List.set_cons_succ]
      refine wpAnyH_done (by kernel_rfl) ?_ _
      generalize wr.drew = wx at *
      have HX2 := hid hS
      clear hS
    all_goals
      have c0 := (HL1.out wx HX2.out).1
      have hcut1 := cut_hi (P := Try.prog) 22 27 5 Try.underlying22 (by kernel_rfl) A l.length c j (by omega)
      obtain ⟨M, hM⟩ : ∃ M, M = l.length - j := ⟨_, rfl⟩
      obtain ⟨C, hC⟩ : ∃ C, C = c - j := ⟨_, rfl⟩
      obtain ⟨A2, hA2, hcut2⟩ := cut_lo (P := Try.prog) 22 27 5 Try.underlying22 (by kernel_rfl) A l.length c j M C hj hM hC
      have HM := hid hM
      have HR2 : Hid (∀ W, Upd No w1 W → Rd W 5 A2 M ((l.flatMap rc).drop (j * 5))) := hid fun W hu => by
        rw [hA2, hM]
        exact Rd.drop (HRd1.out W hu) hj hlc
      have HR1 := hid (Rd.take (HRd1.out wx HX2.out) hj)
      have hM1 : M ≤ 1000 := by omega
      have hs1 := HX2.out.size
      have ho1 := fun u (hu : u ∈ (l.flatMap rc).take (j * 5)) => flat_one l u (List.mem_of_mem_take hu)
      have ho2 := fun u (hu : u ∈ (l.flatMap rc).drop (j * 5)) => flat_one l u (List.mem_of_mem_drop hu)
      clear hM hC hA2
      go_wp2_with (at_builtin; first | (refine ap_row w1.heap.size rfl (.tmp 26) (.tmp 32) 22 27 (.agg #[.string ⟨#[]⟩, .string ⟨#[]⟩, .int .i64 0, .int .i64 0, .int .i64 0]) 5 56 rfl Try.underlying22 rf_info rfl (by omega) (.slice none 0 0) 0 [] A j c ((l.flatMap rc).take (j * 5)) rfl rfl (World.ownsRow_nil _ _ _ _) HR1.out ho1 (by omega) (by omega) (by omega) ?_; intro A3 c3 w3 ho3 hg3 hat3; rw [Nat.zero_add, List.nil_append] at ho3; rw [Nat.zero_add]; have hu3 := HX2.out.grown hg3 (fun kk hk => by simp [Value.ownBlock] at hk); obtain ⟨_, y0, y1, y2, y3, y4⟩ := HL1.out w3 hu3) | (have hs3 := hu3.size; refine ap_row w1.heap.size rfl (.tmp 34) (.tmp 36) 22 27 (.agg #[.string ⟨#[]⟩, .string ⟨#[]⟩, .int .i64 0, .int .i64 0, .int .i64 0]) 5 56 rfl Try.underlying22 rf_info rfl (by omega) (.slice A3 j c3) j ((l.flatMap rc).take (j * 5)) (some ⟨w3.heap.size, 0, none⟩) 1 1 (rc ⟨ac, an, ad, ap, ak⟩) rfl rfl (own_upd ho3 ((Upd.refl No w3).alloc _) fun _ _ => no_ _) (Rd_lit w3 _ 5 1 (rc ⟨ac, an, ad, ap, ak⟩) rfl) (rc_ones _) (by omega) (by omega) (by simp; omega) ?_; intro A4 c4 w4 ho4 hg4 hat4; have hu4 := (hu3.alloc _).grown hg4 (fun kk hk => .inr (ho3.lt kk hk).1); obtain ⟨z0, _⟩ := HL1.out w4 hu4) | (have hs4 := hu4.size; refine ap_row w1.heap.size rfl (.tmp 39) (.tmp 45) 22 27 (.agg #[.string ⟨#[]⟩, .string ⟨#[]⟩, .int .i64 0, .int .i64 0, .int .i64 0]) 5 56 rfl Try.underlying22 rf_info rfl (by omega) (.slice A4 (j + 1) c4) (j + 1) ((l.flatMap rc).take (j * 5) ++ rc ⟨ac, an, ad, ap, ak⟩) A2 M C ((l.flatMap rc).drop (j * 5)) rfl rfl ho4 (HR2.out w4 hu4) ho2 (by omega) (by omega) (by omega) ?_; intro A5 c5 w5 ho5 hg5 hat5; have hu5 := hu4.grown hg5 (fun kk hk => .inr (ho4.lt kk hk).1); have z1 := (HL1.out w5 hu5).1; have f1 := (HQb.out w5 (HU1.out.next hu5)).free 0))
      have HE : Hid (∃ F', Wq (w5.setCell ⟨q, 0, none⟩ (.slice A5 (j + 1 + M) c5)) F' q L ∧ Mv F F' w (w5.setCell ⟨q, 0, none⟩ (.slice A5 (j + 1 + M) c5))) := hid (by
        obtain ⟨hb, ho, hF⟩ := HSt.out
        have hU := HU1.out.next hu5
        have hsz := HU1.out.size
        have e1 : L.length = j + 1 + M := by rw [HLl.out, HM.out]; omega
        have e2 : L.flatMap rc = (l.flatMap rc).take (j * 5) ++ rc ⟨ac, an, ad, ap, ak⟩ ++ (l.flatMap rc).drop (j * 5) := by rw [HI2.out, List.flatMap_append, List.flatMap_cons, flat_take, flat_drop, List.append_assoc]
        exact Wq.stored hb ho hF (hU.mono fun _ _ h => h.elim) (by rw [e1, e2]; exact own_base ho5 (Nat.zero_le _)) (fun k hk => .inr (Nat.le_trans hsz (ho5.lt k hk).1)) rfl)
      clear ho3 ho4 ho5 hg3 hg4 hg5 hat3 hat4 hat5 ho1 ho2
      go_wp2
      go_end0
      exact ⟨rfl, HE.out⟩
end Go.Proofs.Ytlicimkpgnemeaa.Nd
