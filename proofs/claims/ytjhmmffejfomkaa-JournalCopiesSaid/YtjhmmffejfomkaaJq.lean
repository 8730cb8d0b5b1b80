/-
  The reference's journal: Add.
-/
import Derived.Test.YtjhmmffejfomkaaJr
set_option linter.unusedVariables false
set_option linter.unusedSimpArgs false
namespace Go.Proofs.Ytjhmmffejfomkaa.Jn
open Go.RowKit Go.Proofs.Ytjhmmffejfomkaa.B
theorem wrapU (x : Int) : IntKind.u64.wrap x = x % 18446744073709551616 := rfl
/-- Add, of good events. -/
def app (s : S) (l : List Ev) : S := foldS (s.1, s.2.1 ++ l, IntKind.u64.wrap (s.2.2 + l.length)) ((s.2.1 ++ l).length - 16)
theorem app_nil {s : S} (h : s.2.1.length ≤ 16) (hv : IntKind.u64.wrap s.2.2 = s.2.2) : app s [] = s := by
  unfold app
  rw [List.append_nil, show s.2.1.length - 16 = 0 from by omega, foldS_zero]
  simp [hv]
theorem app_len {s : S} (l : List Ev) (h : s.2.1.length ≤ 16) : (app s l).2.1.length = (if s.2.1.length + l.length ≤ 16 then s.2.1.length + l.length else 16) ∧ (app s l).1.length = s.1.length := by
  unfold app foldS
  constructor
  · simp only [List.length_drop, List.length_append]
    split <;> omega
  · simp only; rw [sts_length]
theorem foldS_foldS (b : List Int) (xs : List Ev) (v v0 : Int) (e : Ev) (a k : Nat) (ha : a ≤ xs.length) : foldS ((foldS (b, xs, v0) a).1, (foldS (b, xs, v0) a).2.1 ++ [e], v) k = foldS (b, xs ++ [e], v) (a + k) := by
  unfold foldS
  simp only
  rw [List.take_add, sts_append, List.take_append_of_le_length ha, List.drop_append_of_le_length ha, ← List.drop_drop, List.drop_append_of_le_length ha]
theorem app_snoc {s : S} (l : List Ev) (e : Ev) (h : s.2.1.length ≤ 16) :
    app s (l ++ [e]) = foldS ((app s l).1, (app s l).2.1 ++ [e], IntKind.u64.wrap ((app s l).2.2 + 1)) ((app s l).2.1.length + 1 - 16) := by
  have hl := (app_len l h).1
  have e1 : IntKind.u64.wrap ((app s l).2.2 + 1) = IntKind.u64.wrap (s.2.2 + ((l ++ [e]).length : Nat)) := by
    show IntKind.u64.wrap (IntKind.u64.wrap (s.2.2 + l.length) + 1) = _
    simp only [wrapU, List.length_append, List.length_cons, List.length_nil]
    omega
  rw [e1]
  rw [hl]
  unfold app
  rw [foldS_foldS _ _ _ _ _ _ _ (by omega), List.append_assoc]
  have e2 : (s.2.1 ++ (l ++ [e])).length - 16 = (s.2.1 ++ l).length - 16 + ((if s.2.1.length + l.length ≤ 16 then s.2.1.length + l.length else 16) + 1 - 16) := by
    simp only [List.length_append, List.length_cons, List.length_nil]
    split <;> omega
  rw [e2]
theorem addS_app {s : S} {l : List Ev} (h : l.any bad = false) : addS s l = (0, app s l) := by
  unfold addS app
  rw [h]
  rfl
theorem app_ok {s : S} {l : List Ev} (h : Ok s) (h16 : s.2.1.length ≤ 16) (hl : ∀ x ∈ l, EvOk x) : Ok (app s l) ∧ (app s l).2.1.length ≤ 16 := by
  have hb : l.any bad = false := List.any_eq_false.2 fun x hx => by rw [(bad_iff x).2 (hl x hx)]; simp
  have := addS_ok (l := l) h h16
  rwa [addS_app hb] at this
def RAddOut (w : World) (F : Nat → Prop) (p : Nat) (r : Int × S) (e : Ending) (w' : World) : Prop := e = .returned (.int .i64 r.1) ∧ ∃ F', Rj w' F' p r.2 ∧ Mv F F' w w'
theorem RAddOut.of {w : World} {F : Nat → Prop} {p : Nat} {r : Int × S} {e : Ending} {w' : World} (h : e = .returned (.int .i64 r.1) ∧ ∃ F', Rj w' F' p r.2 ∧ Mv F F' w w') : RAddOut w F p r e w' := h
set_option maxHeartbeats 4000000 in
theorem radd {w : World} {F : Nat → Prop} {p : Nat} {s : S} {A : Option Addr} {c : Nat} {l : List Ev} (h : Rj w F p s) (hok : Ok s) (h16 : s.2.1.length ≤ 16) (hv : IntKind.u64.wrap s.2.2 = s.2.2) (hr : Rd w 2 A l.length (ecs l)) (hd : ∀ ad, A = some ad → 0 < l.length → ¬ F ad.block) (hl : l.length ≤ 1000) :
    Calls Try.prog 17 #[.pointer (some ⟨p, 0, none⟩), .slice A l.length c] w fun e w' => RAddOut w F p (addS s l) e w' := by
  have HH := hid (And.intro h (And.intro hok (And.intro h16 hv)))
  have HR := hid hr
  have HD := hid hd
  have hp0 := h.lt p (by obtain ⟨v, h⟩ := h; exact h.fp)
  clear h hok h16 hv hr hd
  go_enter Try.func17, Try.ntmps17
  go_wp2_with (fail)
  go_loopw [9] (fun v9 W => ∃ j : Nat, j ≤ l.length ∧ v9 = .int .i64 j ∧ Hid (∀ i (hi : i < l.length), i < j → bad l[i] = false) ∧ W = w) (fun v9 _ => l.length - (intOf v9).toNat)
  case atStart => exact ⟨0, by omega, rfl, hid fun i _ h => by omega, rfl⟩
  case round =>
    obtain ⟨j, hj, rfl, hH, rfl⟩ := hrel
    by_cases hlt : j < l.length
    · obtain ⟨ad, rfl, d0, d1⟩ := rd_ev HR.out hlt
      have HN : Hid (bad l[j] = false → ∀ i (hi : i < l.length), i < j + 1 → bad l[i] = false) := hid fun h i hi hij => by
        by_cases h' : i < j
        · exact hH.out i hi h'
        · obtain rfl : i = j := by omega
          exact h
      have HY : Hid (bad l[j] = true → addS s l = (3, s)) := hid fun h => by
        unfold addS
        rw [if_pos (List.any_eq_true.2 ⟨_, List.getElem_mem hlt, h⟩)]
      have hj2 : (j : Int) < (l.length : Int) := by omega
      generalize l[j] = e0 at *
      obtain ⟨r, y⟩ := e0
      simp only at d0 d1
      by_cases h0 : r < 0
      · have HA := hid (HY.out (by simp [bad, h0]))
        clear HN HY
        go_wp2
        go_ret
        exact .of ⟨by rw [HA.out]; rfl, F, by rw [HA.out]; exact HH.out.1, Mv.refl _ _⟩
      · by_cases h7 : 7 < r
        · have HA := hid (HY.out (by simp [bad]; omega))
          clear HN HY
          go_wp2
          go_ret
          exact .of ⟨by rw [HA.out]; rfl, F, by rw [HA.out]; exact HH.out.1, Mv.refl _ _⟩
        · have HN2 := hid (HN.out (by simp [bad]; omega))
          clear HN HY
          go_wp2
          go_roundw
          case rel => exact ⟨j + 1, by omega, by go_num, HN2, trivial⟩
          case measure => simp [intOf]; omega
    · obtain rfl : j = l.length := by omega
      have HA : Hid (addS s l = (0, app s l) ∧ ∀ x ∈ l, EvOk x) := hid (by
        have hb : l.any bad = false := List.any_eq_false.2 fun x hx => by
          obtain ⟨i, hi, rfl⟩ := List.getElem_of_mem hx
          rw [hH.out i hi hi]
          simp
        exact ⟨addS_app hb, fun x hx => (bad_iff x).1 (by simpa using List.any_eq_false.1 hb x hx)⟩)
      clear hH
      obtain ⟨wo, rfl⟩ : ∃ wo : World, wo = wr := ⟨_, rfl⟩
      go_wp2_with (fail)
      go_loopw [29] (fun v29 W => ∃ (j : Nat) (F' : Nat → Prop), j ≤ l.length ∧ v29 = .int .i64 j ∧ Hid (Rj W F' p (app s (l.take j))) ∧ Hid (Mv F F' wo W)) (fun v29 _ => l.length - (intOf v29).toNat)
      case atStart => exact ⟨0, F, by omega, rfl, hid (by rw [List.take_zero, app_nil HH.out.2.2.1 HH.out.2.2.2]; exact HH.out.1), hid (Mv.refl _ _)⟩
      case round =>
        obtain ⟨j, F', hj, rfl, HJ, HM⟩ := hrel
        by_cases hlt : j < l.length
        · have hdr : ∀ ad, A = some ad → ¬ F' ad.block := fun ad e hf => (HM.out.sub _ hf).elim (HD.out ad e (by omega)) fun h => by
            obtain ⟨ad', e', hlt'⟩ := HR.out.lt (by omega) (by omega)
            rw [e] at e'
            cases e'
            omega
          obtain ⟨ad, rfl, d0, d1⟩ := rd_ev (HR.out.upd (by omega) HM.out.upd (fun ad e => HD.out ad e (by omega))) hlt
          rw [add_field _ _ _ (by omega)] at d1
          have hbl : (ad.add (j * 2)).block < wr.heap.size := World.block_lt_of_cell? _ _ d0
          have hbn : ¬ F' (ad.add (j * 2)).block := by
            have h := hdr ad rfl
            have e : (ad.add (j * 2)).block = ad.block := by unfold Addr.add; split <;> rfl
            rwa [e]
          have hK := app_ok (l := l.take j) HH.out.2.1 HH.out.2.2.1 fun x hx => HA.out.2 x (List.mem_of_mem_take hx)
          have HS : Hid (app s (l.take (j + 1)) = foldS ((app s (l.take j)).1, (app s (l.take j)).2.1 ++ [l[j]], IntKind.u64.wrap ((app s (l.take j)).2.2 + 1)) ((app s (l.take j)).2.1.length + 1 - 16) ∧ EvOk l[j]) :=
            hid ⟨by rw [List.take_succ_eq_append_getElem hlt, app_snoc _ _ HH.out.2.2.1], HA.out.2 _ (List.getElem_mem hlt)⟩
          have hj2 : (j : Int) < (l.length : Int) := by omega
          obtain ⟨t2, ht2⟩ : ∃ t2, t2 = app s (l.take (j + 1)) := ⟨_, rfl⟩
          rw [← ht2] at HS
          have HT2 := hid ht2
          clear ht2
          generalize app s (l.take j) = t at *
          generalize l[j] = e0 at *
          obtain ⟨r, y⟩ := e0
          obtain ⟨bs, es, ver⟩ := t
          simp only at d0 d1 hK HS
          obtain ⟨v, hx⟩ := HJ.out
          obtain ⟨A1, c1, hv, hc1, hc2⟩ := hx.row.shape
          subst hv
          have HX := hid hx
          have hle : es.length ≤ 16 := hK.2
          have HK := hid hK.1
          obtain ⟨_, c8, _⟩ := jbox hx.blk
          simp only at c8 hc1
          have c8a : ∀ o, (wr.alloc o).cell? ⟨p, 8, none⟩ = some (.slice A1 es.length c1) := fun o => (jbox (hx.blk.alloc o)).2.1
          have hL : wr.cell? (ad.add (j * 2)) = some (.int .i64 r) ∧ wr.cell? ⟨(ad.add (j * 2)).block, (ad.add (j * 2)).off + 1, none⟩ = some (.int .i64 y) := ⟨d0, d1⟩
          have hU : ∀ {W}, Upd F' wr W → W.cell? (ad.add (j * 2)) = some (.int .i64 r) ∧ W.cell? ⟨(ad.add (j * 2)).block, (ad.add (j * 2)).off + 1, none⟩ = some (.int .i64 y) := fun hu => ⟨(hu.cell hbl hbn).trans d0, (hu.cell (p := ⟨(ad.add (j * 2)).block, (ad.add (j * 2)).off + 1, none⟩) hbl hbn).trans d1⟩
          have hLa : ∀ o, (wr.alloc o).cell? (ad.add (j * 2)) = some (.int .i64 r) ∧ (wr.alloc o).cell? ⟨(ad.add (j * 2)).block, (ad.add (j * 2)).off + 1, none⟩ = some (.int .i64 y) := fun o => hU ((Upd.refl _ _).alloc o)
          clear hx hK d0 d1
          go_wp2_with (fail)
          refine wp_region_held_drew (S := fun W => W.cell? (ad.add (j * 2)) = some (.int .i64 r) ∧ W.cell? ⟨(ad.add (j * 2)).block, (ad.add (j * 2)).off + 1, none⟩ = some (.int .i64 y)) (by kernel_rfl) hL (fun hS => ?_)
          refine rg_at 0 (by decide) (fun oi hoi => ?_)
          have ho2 := hoi; simp only [List.getElem?_toArray, List.getElem?_cons_succ, List.getElem?_cons_zero, Option.some.injEq] at ho2; subst ho2
          refine rg_take (v := ?_) 0 hoi (by kernel_rfl) (by kernel_rfl) (by kernel_rfl) (fun _ _ _ h => h) (by rfl) ?_ hS ?_
          rotate_left
          · intro w _; go_simp; try with_reducible rfl
          clear hoi; try simp only [Act.put, List.setIfInBounds_toArray, List.set_cons_zero, List.set_cons_succ]
          refine rg_at 1 (by decide) (fun oi hoi => ?_)
          have ho2 := hoi; simp only [List.getElem?_toArray, List.getElem?_cons_succ, List.getElem?_cons_zero, Option.some.injEq] at ho2; subst ho2
          refine rg_take (v := ?_) 1 hoi (by kernel_rfl) (by kernel_rfl) (by kernel_rfl) (fun _ _ _ h => h) (by rfl) ?_ hS ?_
          rotate_left
          · intro w _; go_simp; try with_reducible rfl
          clear hoi; try simp only [Act.put, List.setIfInBounds_toArray, List.set_cons_zero, List.set_cons_succ]
          refine rg_at 2 (by decide) (fun oi hoi => ?_)
          have ho2 := hoi; simp only [List.getElem?_toArray, List.getElem?_cons_succ, List.getElem?_cons_zero, Option.some.injEq] at ho2; subst ho2
          refine rg_take (v := ?_) 2 hoi (by kernel_rfl) (by kernel_rfl) (by kernel_rfl) (fun _ _ _ h => h) (by rfl) ?_ hS ?_
          rotate_left
          · intro w _; go_simp; try with_reducible rfl
          clear hoi; try simp only [Act.put, List.setIfInBounds_toArray, List.set_cons_zero, List.set_cons_succ]
          refine rg_at 3 (by decide) (fun oi hoi => ?_)
          have ho2 := hoi; simp only [List.getElem?_toArray, List.getElem?_cons_succ, List.getElem?_cons_zero, Option.some.injEq] at ho2; subst ho2
          refine rg_take (v := ?_) 3 hoi (by kernel_rfl) (by kernel_rfl) (by kernel_rfl) (fun _ _ _ h => h) (by rfl) ?_ hS ?_
          rotate_left
          · intro w _; go_simp; try with_reducible rfl
          clear hoi; try simp only [Act.put, List.setIfInBounds_toArray, List.set_cons_zero, List.set_cons_succ]
          refine rg_at 5 (by decide) (fun oi hoi => ?_)
          have ho2 := hoi; simp only [List.getElem?_toArray, List.getElem?_cons_succ, List.getElem?_cons_zero, Option.some.injEq] at ho2; subst ho2
          refine rg_take (v := ?_) 5 hoi (by kernel_rfl) (by kernel_rfl) (by kernel_rfl) (fun _ _ _ h => h) (by rfl) ?_ hS ?_
          rotate_left
          · intro w _; go_simp; try with_reducible rfl
          clear hoi; try simp only [Act.put, List.setIfInBounds_toArray, List.set_cons_zero, List.set_cons_succ]
          refine rg_at 6 (by decide) (fun oi hoi => ?_)
          have ho2 := hoi; simp only [List.getElem?_toArray, List.getElem?_cons_succ, List.getElem?_cons_zero, Option.some.injEq] at ho2; subst ho2
          refine rg_take (v := ?_) 6 hoi (by kernel_rfl) (by kernel_rfl) (by kernel_rfl) (fun _ _ _ h => h) (by rfl) ?_ hS ?_
          rotate_left
          · intro w _; go_simp; try with_reducible rfl
          clear hoi; try simp only [Act.put, List.setIfInBounds_toArray, List.set_cons_zero, List.set_cons_succ]
          refine rg_at 7 (by decide) (fun oi hoi => ?_)
          have ho2 := hoi; simp only [List.getElem?_toArray, List.getElem?_cons_succ, List.getElem?_cons_zero, Option.some.injEq] at ho2; subst ho2
          refine rg_take (v := ?_) 7 hoi (by kernel_rfl) (by kernel_rfl) (by kernel_rfl) (fun _ _ _ h => h) (by rfl) ?_ hS ?_
          rotate_left
          · intro w _; go_simp; try with_reducible rfl
          clear hoi; try simp only [Act.put, List.setIfInBounds_toArray, List.set_cons_zero, List.set_cons_succ]
          refine rg_at 8 (by decide) (fun oi hoi => ?_)
          have ho2 := hoi; simp only [List.getElem?_toArray, List.getElem?_cons_succ, List.getElem?_cons_zero, Option.some.injEq] at ho2; subst ho2
          refine rg_take (v := ?_) 8 hoi (by kernel_rfl) (by kernel_rfl) (by kernel_rfl) (fun _ _ _ h => h) (by rfl) ?_ hS ?_
          rotate_left
          · intro w hw; have hf := hw; clear hw; go_simp; try with_reducible rfl
          clear hoi; try simp only [Act.put, List.setIfInBounds_toArray, List.set_cons_zero, List.set_cons_succ]
          refine rg_two 4 9 (by kernel_rfl) ?_ ?_
          focus
            refine rg_op_at 4 (by decide) (fun oi hoi => ?_)
            have ho2 := hoi; simp only [List.getElem?_toArray, List.getElem?_cons_succ, List.getElem?_cons_zero, Option.some.injEq] at ho2; subst ho2
            refine rg_step 4 hoi (by rfl) (fun K hK => ?_)
            clear hoi
            skip
            go_simp
            refine hK.out _ _ ((by first | exact hL | exact hLa _)) (fun hS => ?_)
            clear hK K
            try simp only [Act.put, List.setIfInBounds_toArray, List.set_cons_zero, List.set_cons_succ]
            refine rg_at 9 (by decide) (fun oi hoi => ?_)
            have ho2 := hoi; simp only [List.getElem?_toArray, List.getElem?_cons_succ, List.getElem?_cons_zero, Option.some.injEq] at ho2; subst ho2
            refine rg_call 9 (by kernel_rfl) hoi (by rfl) (fun K hK => ?_)
            clear hoi
            skip
            go_simp
            refine hK.out _ _ ((by exact hLa _)) (fun hS => ?_)
            clear hK K
            try simp only [Act.put, List.setIfInBounds_toArray, List.set_cons_zero, List.set_cons_succ]
            refine rg_at 10 (by decide) (fun oi hoi => ?_)
            have ho2 := hoi; simp only [List.getElem?_toArray, List.getElem?_cons_succ, List.getElem?_cons_zero, Option.some.injEq] at ho2; subst ho2
            refine rg_call 10 (by kernel_rfl) hoi (by rfl) (fun K hK => ?_)
            clear hoi
            refine wp_ap_sl 0 (.tmp 36) (.tmp 41) 22 29 (.agg #[.int .i64 0, .int .i64 0]) 2 16 (by rfl) Try.underlying22 rev_info rfl (by omega) (.slice A1 es.length c1) es.length (ecs es) (some ⟨wr.heap.size, 0, none⟩) 1 1 (ecs [(r, y)]) (by rfl) (by rfl) (HX.out.row.alloc _) (Rd_lit wr _ 2 1 (ecs [(r, y)]) rfl) (ecs_one _) (by omega) (by omega) (Nat.zero_le _) ?_
            intro A2 c2 w2 ho2 hg2 hat2
            have hu2 : Upd F' wr w2 := ((Upd.refl F' wr).alloc _).drew.next (hg2.mono fun k _ h => HX.out.fv k h)
            have b2 := (HX.out.blk.alloc _).drew.upd hg2 (fun e => HX.out.vp p e rfl)
            obtain ⟨_, x8, _⟩ := jbox b2
            have xf := b2.free 8
            have hL2 := hU hu2
            refine hK.out _ _ ((by exact hL2)) (fun hS => ?_)
            clear hK K
            try simp only [Act.put, List.setIfInBounds_toArray, List.set_cons_zero, List.set_cons_succ]
            refine rg_at 11 (by decide) (fun oi hoi => ?_)
            have ho2 := hoi; simp only [List.getElem?_toArray, List.getElem?_cons_succ, List.getElem?_cons_zero, Option.some.injEq] at ho2; subst ho2
            refine rg_take (v := ?_) 11 hoi (by kernel_rfl) (by kernel_rfl) (by kernel_rfl) (fun _ _ _ h => h) (by rfl) ?_ hS ?_
            rotate_left
            · intro w _; go_simp; try with_reducible rfl
            clear hoi; try simp only [Act.put, List.setIfInBounds_toArray, List.set_cons_zero, List.set_cons_succ]
            refine rg_at 12 (by decide) (fun oi hoi => ?_)
            have ho2 := hoi; simp only [List.getElem?_toArray, List.getElem?_cons_succ, List.getElem?_cons_zero, Option.some.injEq] at ho2; subst ho2
            refine rg_take (v := ?_) 12 hoi (by kernel_rfl) (by kernel_rfl) (by kernel_rfl) (fun _ _ _ h => h) (by rfl) ?_ hS ?_
            rotate_left
            · intro w _; go_simp; try with_reducible rfl
            clear hoi; try simp only [Act.put, List.setIfInBounds_toArray, List.set_cons_zero, List.set_cons_succ]
            refine rg_at 13 (by decide) (fun oi hoi => ?_)
            have ho2 := hoi; simp only [List.getElem?_toArray, List.getElem?_cons_succ, List.getElem?_cons_zero, Option.some.injEq] at ho2; subst ho2
            refine rg_call 13 (by kernel_rfl) hoi (by rfl) (fun K hK => ?_)
            clear hoi
            skip
            go_simp
            refine hK.out _ _ ((by exact hU (hu2.set (p := ⟨p, 8, none⟩) (.inl HX.out.fp) _))) (fun hS => ?_)
            clear hK K
            try simp only [Act.put, List.setIfInBounds_toArray, List.set_cons_zero, List.set_cons_succ]
            refine wpAnyH_done (by kernel_rfl) ?_ _
          rotate_left 1
          focus
            refine rg_op_at 9 (by decide) (fun oi hoi => ?_)
            have ho2 := hoi; simp only [List.getElem?_toArray, List.getElem?_cons_succ, List.getElem?_cons_zero, Option.some.injEq] at ho2; subst ho2
            refine rg_step 9 hoi (by rfl) (fun K hK => ?_)
            clear hoi
            skip
            go_simp
            refine hK.out _ _ ((by exact hLa _)) (fun hS => ?_)
            clear hK K
            try simp only [Act.put, List.setIfInBounds_toArray, List.set_cons_zero, List.set_cons_succ]
            refine rg_at 4 (by decide) (fun oi hoi => ?_)
            have ho2 := hoi; simp only [List.getElem?_toArray, List.getElem?_cons_succ, List.getElem?_cons_zero, Option.some.injEq] at ho2; subst ho2
            refine rg_call 4 (by kernel_rfl) hoi (by rfl) (fun K hK => ?_)
            clear hoi
            skip
            go_simp
            refine hK.out _ _ ((by first | exact hL | exact hLa _)) (fun hS => ?_)
            clear hK K
            try simp only [Act.put, List.setIfInBounds_toArray, List.set_cons_zero, List.set_cons_succ]
            refine rg_at 10 (by decide) (fun oi hoi => ?_)
            have ho2 := hoi; simp only [List.getElem?_toArray, List.getElem?_cons_succ, List.getElem?_cons_zero, Option.some.injEq] at ho2; subst ho2
            refine rg_call 10 (by kernel_rfl) hoi (by rfl) (fun K hK => ?_)
            clear hoi
            refine wp_ap_sl 0 (.tmp 36) (.tmp 41) 22 29 (.agg #[.int .i64 0, .int .i64 0]) 2 16 (by rfl) Try.underlying22 rev_info rfl (by omega) (.slice A1 es.length c1) es.length (ecs es) (some ⟨wr.heap.size, 0, none⟩) 1 1 (ecs [(r, y)]) (by rfl) (by rfl) (HX.out.row.alloc _) (Rd_lit wr _ 2 1 (ecs [(r, y)]) rfl) (ecs_one _) (by omega) (by omega) (Nat.zero_le _) ?_
            intro A2 c2 w2 ho2 hg2 hat2
            have hu2 : Upd F' wr w2 := ((Upd.refl F' wr).alloc _).drew.next (hg2.mono fun k _ h => HX.out.fv k h)
            have b2 := (HX.out.blk.alloc _).drew.upd hg2 (fun e => HX.out.vp p e rfl)
            obtain ⟨_, x8, _⟩ := jbox b2
            have xf := b2.free 8
            have hL2 := hU hu2
            refine hK.out _ _ ((by exact hL2)) (fun hS => ?_)
            clear hK K
            try simp only [Act.put, List.setIfInBounds_toArray, List.set_cons_zero, List.set_cons_succ]
            refine rg_at 11 (by decide) (fun oi hoi => ?_)
            have ho2 := hoi; simp only [List.getElem?_toArray, List.getElem?_cons_succ, List.getElem?_cons_zero, Option.some.injEq] at ho2; subst ho2
            refine rg_take (v := ?_) 11 hoi (by kernel_rfl) (by kernel_rfl) (by kernel_rfl) (fun _ _ _ h => h) (by rfl) ?_ hS ?_
            rotate_left
            · intro w _; go_simp; try with_reducible rfl
            clear hoi; try simp only [Act.put, List.setIfInBounds_toArray, List.set_cons_zero, List.set_cons_succ]
            refine rg_at 12 (by decide) (fun oi hoi => ?_)
            have ho2 := hoi; simp only [List.getElem?_toArray, List.getElem?_cons_succ, List.getElem?_cons_zero, Option.some.injEq] at ho2; subst ho2
            refine rg_take (v := ?_) 12 hoi (by kernel_rfl) (by kernel_rfl) (by kernel_rfl) (fun _ _ _ h => h) (by rfl) ?_ hS ?_
            rotate_left
            · intro w _; go_simp; try with_reducible rfl
            clear hoi; try simp only [Act.put, List.setIfInBounds_toArray, List.set_cons_zero, List.set_cons_succ]
            refine rg_at 13 (by decide) (fun oi hoi => ?_)
            have ho2 := hoi; simp only [List.getElem?_toArray, List.getElem?_cons_succ, List.getElem?_cons_zero, Option.some.injEq] at ho2; subst ho2
            refine rg_call 13 (by kernel_rfl) hoi (by rfl) (fun K hK => ?_)
            clear hoi
            skip
            go_simp
            refine hK.out _ _ ((by exact hU (hu2.set (p := ⟨p, 8, none⟩) (.inl HX.out.fp) _))) (fun hS => ?_)
            clear hK K
            try simp only [Act.put, List.setIfInBounds_toArray, List.set_cons_zero, List.set_cons_succ]
            refine wpAnyH_done (by kernel_rfl) ?_ _
          all_goals
            have b3 := jput8 b2 (.slice A2 (es.length + 1) c2)
            have b4 := jput9 b3 (IntKind.u64.wrap (ver + 1))
            have HE : Hid (∃ F2, Rj ((w2.setCell ⟨p, 8, none⟩ (.slice A2 (es.length + 1) c2)).setCell ⟨p, 9, none⟩ (.int .u64 (IntKind.u64.wrap (ver + 1)))) F2 p (bs, es ++ [(r, y)], IntKind.u64.wrap (ver + 1)) ∧ Mv F' F2 wr ((w2.setCell ⟨p, 8, none⟩ (.slice A2 (es.length + 1) c2)).setCell ⟨p, 9, none⟩ (.int .u64 (IntKind.u64.wrap (ver + 1))))) := by
              have hpl := HX.out.lt p HX.out.fp
              have hne : ∀ k, (Value.slice A2 (es.length + 1) c2).ownBlock = some k → k ≠ p := fun k hk => (hat2 k hk).elim (fun h => HX.out.vp k h) fun h => by simp at h; omega
              refine hid (HX.out.fin ((hu2.set (p := ⟨p, 8, none⟩) (.inl HX.out.fp) _).set (p := ⟨p, 9, none⟩) (.inl HX.out.fp) _) b4 ?_ (fun k hk => (hat2 k hk).imp (HX.out.fv k) fun h => by simp at h; omega))
              have := (ho2.upd ((Upd.refl (fun k => k = p) _).set1 8 (.slice A2 (es.length + 1) c2)) fun k hk e => hne k hk e).upd ((Upd.refl (fun k => k = p) _).set1 9 (.int .u64 (IntKind.u64.wrap (ver + 1)))) fun k hk e => hne k hk e
              simpa [ecs_append] using this
            obtain ⟨_, i8, i9⟩ := jbox b3
            have j9 := b3.free 9
            obtain ⟨_, m8, _⟩ := jbox b4
            clear b2 b3 b4 x8 xf hL2 hu2 ho2 hg2 hat2 hS hLa hU hL c8a c8
            generalize w2.setCell ⟨p, 8, none⟩ (.slice A2 (es.length + 1) c2) = w3 at *
            by_cases h16 : es.length = 16
            · have hz : ∃ r0 y0 rest, es ++ [(r, y)] = (r0, y0) :: rest ∧ EvOk (r0, y0) ∧ rest.length = 16 := by
                match es, h16, HK with
                | e0 :: es', h16, HK => exact ⟨e0.1, e0.2, es' ++ [(r, y)], rfl, HK.out.ev e0 (by simp), by simp at h16 ⊢; omega⟩
              obtain ⟨r0, y0, rest, hz1, hz2, hz3⟩ := hz
              obtain ⟨F2, hE1, hE2⟩ := HE.out
              rw [hz1] at hE1
              have HD2 := hid (rdrop hE1 hz2 HK.out.b8 (by omega))
              unfold RFoldOut at HD2
              have HT : Hid (t2 = (bs.set r0.toNat y0, rest, IntKind.u64.wrap (ver + 1))) := hid (by rw [HS.out.1, h16, hz1]; rfl)
              have HE2 := hid hE2
              have h17 : (16 : Int) < (es.length : Int) + 1 := by omega
              clear hE1 hE2 hz1 hz2 hz3 HE
              go_wp2_with (fail)
              refine Calls.mono HD2.out ?_
              rintro e w5 ⟨rfl, F3, h5, hm5⟩
              have HF := hid (And.intro h5 hm5)
              clear h5 hm5 i8 i9 j9 m8
              go_wp2
              go_roundw
              case rel => exact ⟨j + 1, F3, by omega, by go_num, hid (by rw [← HT2.out, HT.out]; exact HF.out.1), hid (HM.out.trans (HE2.out.trans HF.out.2))⟩
              case measure => simp [intOf]; omega
            · obtain ⟨F2, hE1, hE2⟩ := HE.out
              have HF := hid (And.intro hE1 hE2)
              have h17 : ¬ (16 : Int) < (es.length : Int) + 1 := by omega
              have HT : Hid (t2 = (bs, es ++ [(r, y)], IntKind.u64.wrap (ver + 1))) := hid (by rw [HS.out.1, show es.length + 1 - 16 = 0 from by omega, foldS_zero])
              clear hE1 hE2 HE
              go_wp2
              go_roundw
              case rel => exact ⟨j + 1, F2, by omega, by go_num, hid (by rw [← HT2.out, HT.out]; exact HF.out.1), hid (HM.out.trans HF.out.2)⟩
              case measure => simp [intOf]; omega
        · obtain rfl : j = l.length := by omega
          have HJ2 : Hid (Rj wr F' p (app s l)) := hid (by have := HJ.out; rwa [List.take_length] at this)
          go_wp2
          go_ret
          exact .of ⟨by rw [HA.out.1]; rfl, F', by rw [HA.out.1]; exact HJ2.out, HM.out⟩
end Go.Proofs.Ytjhmmffejfomkaa.Jn
