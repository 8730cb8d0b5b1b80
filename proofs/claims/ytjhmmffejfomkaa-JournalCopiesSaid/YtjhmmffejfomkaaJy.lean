/-
  The walk of JournalParts.
-/
import Derived.Test.YtjhmmffejfomkaaJx
import Derived.Test.YtjhmmffejfomkaaJt
set_option linter.unusedVariables false
set_option linter.unusedSimpArgs false
namespace Go.Proofs.Ytjhmmffejfomkaa.Jn
open Go.RowKit Go.Proofs.Ytjhmmffejfomkaa Go.Proofs.Ytjhmmffejfomkaa.B Go.Proofs.Ytjhmmffejfomkaa.Op
/-- 's[m:h]', whatever the elements' size. -/
theorem cut_mids {P : Program} (t e : TypeId) (kl kh : IntKind) (s : Nat) (ht : P.underlying t = some (.slice e)) (hi : (P.info? e).map (·.size) = some s) (A : Option Addr) (n c m h n' : Nat) (mi hi' : Int) (hmi : mi = (m : Int)) (hhi : hi' = (h : Int)) (hn : n' = h - m) (hm : m ≤ h) (hh : h ≤ c) :
    ∃ A' : Option Addr, A' = (if c = m then A else A.map (·.add (m * s))) ∧ (∀ W : World, (Instr.slice t (.slice A n c) (some (.int kl mi)) (some (.int kh hi')) none).run P W = .ok (.slice A' n' (c - m)) W) := by
  subst hmi hhi hn
  refine ⟨_, rfl, fun W => ?_⟩
  obtain ⟨i, hi1, hi2⟩ := Option.map_eq_some_iff.1 hi
  have hel : P.elem t = e := by simp [Program.elem, ht]
  have hu : P.underlying t = some (.slice (P.elem t)) := by rw [hel]; exact ht
  rw [run_slice_lh W t A n c hu kl kh (m : Int) (h : Int) (Int.natCast_nonneg _) (by omega) (by omega), hel]
  simp [sizeOf, typeInfo, hi1, hi2, sliced, Result.andThen]
theorem sts_mem (es : List Ev) : ∀ (b : List Int) (x : Int), x ∈ sts b es → x ∈ b ∨ ∃ e ∈ es, x = e.2 := by
  induction es with
  | nil => exact fun b x h => .inl h
  | cons e r ih =>
    intro b x h
    rcases ih (st1 b e) x h with h | ⟨e', he', h⟩
    · rcases List.mem_or_eq_of_mem_set h with h | h
      · exact .inl h
      · exact .inr ⟨e, List.mem_cons_self, h⟩
    · exact .inr ⟨e', List.mem_cons_of_mem _ he', h⟩
theorem Rg.s0 : Rg s0 := ⟨by decide, fun x hx => by simp [Jn.s0] at hx; subst hx; unfold I64; omega, fun x hx => by simp [Jn.s0] at hx⟩
theorem Rg.app {s : S} {l : List Ev} (h : Rg s) (hl : ∀ e ∈ l, I64 e.2) : Rg (app s l) where
  v := by
    show 0 ≤ IntKind.u64.wrap _ ∧ IntKind.u64.wrap _ ≤ _
    simp only [wrapU]
    omega
  r := fun x hx => by
    rcases sts_mem _ _ _ hx with hx | ⟨e, he, rfl⟩
    · exact h.r x hx
    · rcases List.mem_append.1 (List.mem_of_mem_take he) with he | he
      · exact h.e e he
      · exact hl e he
  e := fun e he => by
    rcases List.mem_append.1 (List.mem_of_mem_drop he) with he | he
    · exact h.e e he
    · exact hl e he
theorem app_one (s : S) (l : List Ev) (e : Ev) (h : s.2.1.length ≤ 16) : app (app s l) [e] = app s (l ++ [e]) := by
  rw [app_snoc l e h]
  unfold app
  simp
/-- Two journals of the call's own. -/
structure Pj (w W : World) (F : Nat → Prop) (p : Nat) (s : S) (G : Nat → Prop) (q : Nat) (t : S) : Prop where
  a : On w W F p s
  b : On w W G q t
  fg : ∀ k, F k → ¬ G k
section
variable {w W W1 : World} {F F' G G' : Nat → Prop} {p q : Nat} {s s' t t' : S}
theorem Pj.quiet (h : Pj w W F p s G q t) (hu : Upd No W W1) : Pj w W1 F p s G q t := ⟨h.a.quiet hu, h.b.quiet hu, h.fg⟩
theorem Pj.moveA (h : Pj w W F p s G q t) (hw : Jd W1 F' p s') (hm : Mv F F' W W1) (ok : Ok s') (le : s'.2.1.length ≤ 16) : Pj w W1 F' p s' G q t :=
  ⟨h.a.moved hw hm ok le, h.b.upd hm.upd (h.a.bel.trans (hm.upd.below h.a.bel.size h.a.own)) fun k hk hf => h.fg k hf hk,
    fun k hk hg => (hm.sub k hk).elim (fun hf => h.fg k hf hg) fun hn => by have := h.b.jd.lt k hg; omega⟩
theorem Pj.moveB (h : Pj w W F p s G q t) (hw : Jd W1 G' q t') (hm : Mv G G' W W1) (ok : Ok t') (le : t'.2.1.length ≤ 16) : Pj w W1 F p s G' q t' :=
  ⟨h.a.upd hm.upd (h.a.bel.trans (hm.upd.below h.a.bel.size h.b.own)) fun k hk hg => h.fg k hk hg, h.b.moved hw hm ok le,
    fun k hk hg => (hm.sub k hg).elim (h.fg k hk) fun hn => by have := h.a.jd.lt k hk; omega⟩
end
def red (r : Int) : Int := wrap64 ((IntKind.u64.wrap r).tmod 8)
theorem red_ok (r : Int) : 0 ≤ red r ∧ red r ≤ 7 := by
  unfold red
  rw [show IntKind.u64.wrap r = r % 18446744073709551616 from rfl, Int.tmod_eq_emod_of_nonneg (by omega), IntWalk.wrap64_in _ (by omega)]
  omega
def redE (e : Ev) : Ev := (red e.1, e.2)
set_option maxHeartbeats 4000000 in
set_option maxRecDepth 100000 in
theorem law_parts (A : Option Addr) (c : Nat) (xs : List Ev) (w : World) (hr : Rd w 2 A xs.length (ecs xs)) (hl : xs.length ≤ maxLen) (hx : ∀ x ∈ xs, (-9223372036854775808 ≤ x.1 ∧ x.1 ≤ 9223372036854775807) ∧ (-9223372036854775808 ≤ x.2 ∧ x.2 ≤ 9223372036854775807)) :
    Calls Try.prog 5 #[.slice A xs.length c] w fun e w' => e = .returned (.bool true) ∧ Below w.heap.size w w' := by
  simp only [maxLen] at hl
  by_cases h300 : 300 < xs.length
  · have h300' : (300 : Int) < (xs.length : Int) := by omega
    go_enter Try.func5, Try.ntmps5
    go_wp2_with (fail)
    refine Calls.mono (awake w) ?_
    rintro e w1 ⟨rfl, hb1⟩
    have HB1 := hid hb1
    clear hb1
    go_wp2_with (fail)
    refine Calls.mono (awake w1) ?_
    rintro e w2 ⟨rfl, hb2⟩
    have HB2 := hid (HB1.out.trans (hb2.mono HB1.out.size))
    clear hb2
    go_wp2
    go_ret
    exact ⟨rfl, HB2.out⟩
  have hx300 : ¬ (300 : Int) < (xs.length : Int) := by omega
  have hxn : xs.length ≤ 300 := by omega
  clear h300
  obtain ⟨ys, hys⟩ : ∃ ys, ys = xs.map redE := ⟨_, rfl⟩
  have hylen : ys.length = xs.length := by rw [hys]; simp
  have HY : Hid ((∀ e ∈ ys, EvOk e) ∧ (∀ e ∈ ys, I64 e.2) ∧ ys.length = xs.length ∧ ys = xs.map redE) := hid ⟨fun e he => by
    rw [hys] at he
    obtain ⟨x, _, rfl⟩ := List.mem_map.1 he
    exact red_ok x.1, fun e he => by
    rw [hys] at he
    obtain ⟨x, hx', rfl⟩ := List.mem_map.1 he
    exact (hx x hx').2, hylen, hys⟩
  have HR := hid hr
  clear hx hys hylen hr
  go_enter Try.func5, Try.ntmps5
  go_wp2_with (fail)
  refine Calls.mono (awake w) ?_
  rintro e w1 ⟨rfl, hb1⟩
  have HB1 := hid hb1
  clear hb1
  go_wp2_with (fail)
  go_loopw [3, 19] (fun v3 v19 W => ∃ (j : Nat) (A' : Option Addr) (k' : Nat), j ≤ xs.length ∧ v19 = .int .i64 j ∧ v3 = .slice A' j k' ∧ Hid (Sl W w1.heap.size 29 2 (.slice A' j k') j (ecs (ys.take j))) ∧ Hid (Upd No w1 W)) (fun _ v19 _ => xs.length - (intOf v19).toNat)
  case atStart => exact ⟨0, none, 0, by omega, rfl, rfl, hid (by rw [List.take_zero]; exact Sl.nil _ _ _ _), hid (Upd.refl _ _)⟩
  case round =>
    obtain ⟨j, A', k', hj, rfl, rfl, HO, HU⟩ := hrel
    by_cases hlt : j < xs.length
    · obtain ⟨ad, rfl, d0, d1⟩ := rd_ev (HR.out.below (by omega) (HB1.out.trans (HU.out.old HB1.out.size))) hlt
      rw [add_field _ _ _ (by omega)] at d1
      have hyj : j < ys.length := by rw [HY.out.2.2.1]; exact hlt
      have HN : Hid (ecs (ys.take (j + 1)) = ecs (ys.take j) ++ ecs [redE xs[j]]) := hid (by
        rw [List.take_succ_eq_append_getElem hyj, ecs_append]
        have : ys[j] = redE xs[j] := by
          have h := HY.out.2.2.2
          subst h
          simp
        rw [this])
      have hj2 : (j : Int) < (xs.length : Int) := by omega
      generalize xs[j] = e0 at *
      obtain ⟨r, y⟩ := e0
      simp only [redE, red] at d0 d1 HN
      have hRL : ∀ o, Rd ((wr.alloc o).alloc (.cells #[.int .i64 (wrap64 ((IntKind.u64.wrap r).tmod 8)), .int .i64 y] 29)) 2 (some ⟨wr.heap.size + 1, 0, none⟩) 1 (ecs [(wrap64 ((IntKind.u64.wrap r).tmod 8), y)]) := fun o => by
        have := Rd_lit (wr.alloc o) 29 2 1 (ecs [(wrap64 ((IntKind.u64.wrap r).tmod 8), y)]) rfl
        rw [show (wr.alloc o).heap.size = wr.heap.size + 1 from by simp] at this
        exact this
      have HRL := hid hRL
      clear hyj hRL
      go_wp2_with (at_builtin; go_must (refine ap_sl w1.heap.size rfl (.tmp 32) (.tmp 34) 22 29 (.agg #[.int .i64 0, .int .i64 0]) 2 16 rfl Try.underlying22 rev_info rfl (by omega) (.slice A' j k') j (ecs (ys.take j)) (some ⟨wr.heap.size + 1, 0, none⟩) 1 1 (ecs [(wrap64 ((IntKind.u64.wrap r).tmod 8), y)]) rfl rfl ((HO.out.alloc _).alloc _) (HRL.out _) (ecs_one _) (by omega) (by omega) (by have := HU.out.size; simp; omega) ?_); intro A2 c2 w2 ho2 hu2 hat2)
      have hus := HU.out.size
      have HO2 : Hid (Sl w2 w1.heap.size 29 2 (.slice A2 (j + 1) c2) (j + 1) (ecs (ys.take (j + 1)))) := hid (by rw [HN.out]; exact ho2)
      have HU2 : Hid (Upd No w1 w2) := hid (((HU.out.alloc _).alloc _).trans hu2 fun i hi h => by
        have := (HO.out.lt i h).1
        omega)
      clear ho2 hu2 hat2 d0 d1
      go_wp2
      go_roundw
      case rel => exact ⟨j + 1, A2, c2, by omega, by go_num, rfl, HO2, HU2⟩
      case measure => simp [intOf]; omega
    · obtain rfl : j = xs.length := by omega
      obtain ⟨w5, rfl⟩ : ∃ w5 : World, w5 = wr := ⟨_, rfl⟩
      have hcap := (Sl.cap HO.out).1
      have hB5 := HB1.out.trans (HU.out.old HB1.out.size)
      have HR5 : Hid (Rd w5 2 A' xs.length (ecs ys)) := hid (by
        have := HO.out.rd
        rwa [List.take_of_length_le (by rw [HY.out.2.2.1]; exact Nat.le_refl _)] at this)
      have HB5 := hid hB5
      clear hB5 HO HU HR HB1
      obtain ⟨n, hn⟩ : ∃ n, n = xs.length := ⟨_, rfl⟩
      have hyl : ys.length = n := by rw [HY.out.2.2.1, hn]
      have HYs := hid (And.intro HY.out.1 HY.out.2.1)
      rw [← hn] at HR5 hcap hxn hx300 ⊢
      clear HY hn
      go_wp2_with (fail)
      refine Calls.mono (new2 w5 w5 (Below.refl _ _)) ?_
      rintro e w6 ⟨rfl, hO6, hu6⟩
      have HO6 := hid (And.intro hO6 hu6)
      clear hO6 hu6
      go_wp2_with (fail)
      refine Calls.mono (new2 w5 w6 HO6.out.1.bel) ?_
      rintro e w7 ⟨rfl, hO7, hu7⟩
      have HP7 : Hid (∃ p q F G, p = w5.heap.size ∧ q = w6.heap.size ∧ Pj w5 w7 F p s0 G q s0) := hid ⟨_, _, _, _, rfl, rfl, ⟨HO6.out.1.quiet hu7, hO7, fun k hk hg => by have := HO6.out.1.jd.lt k hk; omega⟩⟩
      obtain ⟨p, q, F, G, hp, hq, hP7⟩ := HP7.out
      rw [← hp, ← hq]
      have HP := hid hP7
      clear hp hq hP7 HP7 hO7 hu7 HO6
      have hth := theirs (l := ys) (A := A') (c := k') (w := w7) (by rw [hyl]; exact HR5.out.below (by omega) HP.out.a.bel) (by omega)
      rw [hyl] at hth
      unfold RdOut at hth
      have HTh := hid hth
      clear hth
      go_wp2_with (fail)
      refine Calls.mono HTh.out ?_
      rintro e w8 ⟨A8, c8, rfl, hr8, hu8⟩
      have HP8 := hid (HP.out.quiet hu8)
      have hadd := add (c := c8) HP8.out.a.jd HP8.out.a.ok HP8.out.a.le hr8 (by omega)
      have hbad : ys.any bad = false := List.any_eq_false.2 fun e he => by rw [(bad_iff e).2 (HYs.out.1 e he)]; simp
      have hok8 := app_ok (l := ys) HP8.out.a.ok HP8.out.a.le HYs.out.1
      rw [addS_app hbad, hyl] at hadd
      unfold AddOut at hadd
      have HAdd := hid hadd
      have HOk8 := hid hok8
      clear hadd hok8 hr8 hu8 HTh hbad
      go_wp2_with (fail)
      refine Calls.mono HAdd.out ?_
      rintro e w9 ⟨rfl, F9, h9, hm9⟩
      have HP9 := hid (HP8.out.moveA h9 hm9 HOk8.out.1 HOk8.out.2)
      clear h9 hm9 HAdd HP8 HP
      go_wp2_with (fail)
      go_loopw [45] (fun v45 W => ∃ (j : Nat) (G' : Nat → Prop), j ≤ n ∧ v45 = .int .i64 j ∧ Hid (Pj w5 W F9 p (app s0 ys) G' q (app s0 (ys.take j)))) (fun v45 _ => n - (intOf v45).toNat)
      case atStart => exact ⟨0, G, by omega, rfl, hid (by rw [List.take_zero, app_nil (by simp [s0]) rfl]; exact HP9.out)⟩
      case round =>
        clear HP9
        obtain ⟨j, G', hj, rfl, HP⟩ := hrel
        by_cases hlt : j < n
        · have hyj : j < ys.length := by omega
          have HN : Hid (app (app s0 (ys.take j)) [ys[j]] = app s0 (ys.take (j + 1)) ∧ EvOk ys[j]) := hid ⟨by rw [app_one _ _ _ (by simp [s0]), List.take_succ_eq_append_getElem hyj], HYs.out.1 _ (List.getElem_mem hyj)⟩
          have hj2 : (j : Int) < (n : Int) := by omega
          obtain ⟨A6, hA6, hcut⟩ := cut_mids (P := Try.prog) 22 29 .i64 .i64 2 Try.underlying22 (by kernel_rfl) A' n k' j (j + 1) 1 (j : Int) ((j : Int) + 1) rfl (by omega) (by omega) (by omega) (by omega)
          have hR6 : Rd wr 2 A6 1 (ecs [ys[j]]) := by
            have h1 := HR5.out.below (by omega) HP.out.a.bel
            have h2 := Rd.take (k := 1) (Rd.drop (k := j) (c := k') h1 (by omega) hcap) (by omega)
            rw [ecs_drop, ecs_take, List.drop_eq_getElem_cons hyj, List.take_succ_cons, List.take_zero] at h2
            rw [hA6]
            exact h2
          obtain ⟨e0, he0⟩ : ∃ e0, e0 = ys[j] := ⟨_, rfl⟩
          rw [← he0] at hR6 HN
          have hth := theirs (l := [e0]) (A := A6) (c := k' - j) (w := wr) hR6 (by simp)
          unfold RdOut at hth
          have HTh := hid hth
          clear hth hR6 hA6 he0 hyj
          go_wp2_with (fail)
          refine Calls.mono HTh.out ?_
          rintro e w10 ⟨A10, c10, rfl, hr10, hu10⟩
          have HP10 := hid (HP.out.quiet hu10)
          have hadd := add (c := c10) HP10.out.b.jd HP10.out.b.ok HP10.out.b.le hr10 (by simp)
          have hbad : [e0].any bad = false := List.any_eq_false.2 fun e he => by
            obtain rfl := List.mem_singleton.1 he
            rw [(bad_iff e).2 HN.out.2]
            simp
          have hok10 := app_ok (l := [e0]) HP10.out.b.ok HP10.out.b.le (fun e he => by
            obtain rfl := List.mem_singleton.1 he
            exact HN.out.2)
          rw [addS_app hbad] at hadd
          unfold AddOut at hadd
          rw [HN.out.1] at hadd hok10
          have HAdd := hid hadd
          have HOk10 := hid hok10
          clear hadd hok10 hr10 hu10 HTh hbad hcut
          go_wp2_with (fail)
          refine Calls.mono HAdd.out ?_
          rintro e w11 ⟨rfl, G11, h11, hm11⟩
          have HP11 := hid (HP10.out.moveB h11 hm11 HOk10.out.1 HOk10.out.2)
          clear h11 hm11 HAdd HP10 HP
          go_wp2
          go_roundw
          case rel => exact ⟨j + 1, G11, by omega, by go_num, HP11⟩
          case measure => simp [intOf]; omega
        · obtain rfl : j = n := by omega
          have HPz : Hid (Pj w5 wr F9 p (app s0 ys) G' q (app s0 ys)) := hid (by
            have := HP.out
            rwa [List.take_of_length_le (by omega)] at this)
          have hrg : Rg (app s0 ys) := Rg.s0.app HYs.out.2
          have hE1 := fun W (hu : Upd No wr W) => encode (HPz.out.quiet hu).a.jd HPz.out.a.ok hrg
          have hE2 := fun W (hu : Upd No wr W) => encode (HPz.out.quiet hu).b.jd HPz.out.a.ok hrg
          have hS1 := fun W (hu : Upd No wr W) => state (HPz.out.quiet hu).a.jd HPz.out.a.ok
          have hS2 := fun W (hu : Upd No wr W) => state (HPz.out.quiet hu).b.jd HPz.out.a.ok
          unfold EncOut at hE1 hE2
          have hEq := fun w => eq_arr (sts (app s0 ys).1 (app s0 ys).2.1) w
          unfold arr at hS1 hS2 hEq
          obtain ⟨st, hst⟩ : ∃ st, Hid (st = strOfNums (encJ (app s0 ys))) := ⟨_, hid rfl⟩
          have HC : Hid (∀ W A c, Rn W .u8 A (encJ (app s0 ys)) → (convert 51 9 (.slice A (encJ (app s0 ys)).length c)).run Try.prog W = .ok (.string st) W) := hid fun W A c h => by
            rw [hst.out]
            exact conv_str (P := Try.prog) h 51 9 5 c Try.underlying51 Try.underlying5 Try.underlying9
          have HE1 := hid hE1
          have HE2 := hid hE2
          have HS1 := hid hS1
          have HS2 := hid hS2
          have HBel := hid fun W (hu : Upd No wr W) => HB5.out.trans ((HPz.out.quiet hu).a.bel.mono HB5.out.size)
          clear hE1 hE2 hS1 hS2 hrg HP HPz HR5
          generalize encJ (app s0 ys) = bs at *
          generalize sts (app s0 ys).1 (app s0 ys).2.1 = b8 at *
          go_wp2_with (fail)
          refine wp_region_held_drew (S := fun W => Upd No wr W) (by kernel_rfl) (Upd.refl No wr).drew (fun hS => ?_)
          refine rg_at 0 (by decide) (fun oi hoi => ?_)
          have ho2 := hoi; simp only [List.getElem?_toArray, List.getElem?_cons_succ, List.getElem?_cons_zero, Option.some.injEq] at ho2; subst ho2
          refine rg_take (v := ?_) 0 hoi (by kernel_rfl) (by kernel_rfl) (by kernel_rfl) (fun _ _ _ h => h) (by rfl) ?_ hS ?_
          rotate_left
          · intro w _; go_simp; try with_reducible rfl
          clear hoi; try simp only [Act.put, List.setIfInBounds_toArray, List.set_cons_zero, List.set_cons_succ]
          refine rg_at 3 (by decide) (fun oi hoi => ?_)
          have ho2 := hoi; simp only [List.getElem?_toArray, List.getElem?_cons_succ, List.getElem?_cons_zero, Option.some.injEq] at ho2; subst ho2
          refine rg_take (v := ?_) 3 hoi (by kernel_rfl) (by kernel_rfl) (by kernel_rfl) (fun _ _ _ h => h) (by rfl) ?_ hS ?_
          rotate_left
          · intro w _; go_simp; try with_reducible rfl
          clear hoi; try simp only [Act.put, List.setIfInBounds_toArray, List.set_cons_zero, List.set_cons_succ]
          refine rg_at 1 (by decide) (fun oi hoi => ?_)
          have ho2 := hoi; simp only [List.getElem?_toArray, List.getElem?_cons_succ, List.getElem?_cons_zero, Option.some.injEq] at ho2; subst ho2
          refine rg_call 1 (by kernel_rfl) hoi (by rfl) (fun K hK => ?_)
          clear hoi
          go_simp
          refine Calls.mono (HE1.out _ hS) ?_
          rintro e w12 ⟨A12, c12, rfl, hr12, hu12⟩
          have hS12 := Upd.next hS hu12
          have hv12 := HC.out _ _ c12 hr12
          go_wp2_with (fail)
          refine hK.out _ _ ((by exact hS12)) (fun hS => ?_)
          clear hK K
          try simp only [Act.put, List.setIfInBounds_toArray, List.set_cons_zero, List.set_cons_succ]
          refine rg_two 2 4 (by kernel_rfl) ?_ ?_
          focus
            refine rg_op_at 2 (by decide) (fun oi hoi => ?_)
            have ho2 := hoi; simp only [List.getElem?_toArray, List.getElem?_cons_succ, List.getElem?_cons_zero, Option.some.injEq] at ho2; subst ho2
            refine rg_step 2 hoi (by rfl) (fun K hK => ?_)
            clear hoi
            skip
            go_simp
            refine hK.out _ _ ((by exact hS)) (fun hS => ?_)
            clear hK K
            try simp only [Act.put, List.setIfInBounds_toArray, List.set_cons_zero, List.set_cons_succ]
            refine rg_at 4 (by decide) (fun oi hoi => ?_)
            have ho2 := hoi; simp only [List.getElem?_toArray, List.getElem?_cons_succ, List.getElem?_cons_zero, Option.some.injEq] at ho2; subst ho2
            refine rg_call 4 (by kernel_rfl) hoi (by rfl) (fun K hK => ?_)
            clear hoi
            go_simp
            refine Calls.mono (HE2.out _ hS) ?_
            rintro e w13 ⟨A13, c13, rfl, hr13, hu13⟩
            have hS13 := Upd.next hS hu13
            have hv13 := HC.out _ _ c13 hr13
            have hv14 := HC.out _ _ c12 (hr12.upd (by omega) hu13 fun _ _ => no_ _)
            go_wp2_with (fail)
            refine hK.out _ _ ((by exact hS13)) (fun hS => ?_)
            clear hK K
            try simp only [Act.put, List.setIfInBounds_toArray, List.set_cons_zero, List.set_cons_succ]
            refine rg_at 5 (by decide) (fun oi hoi => ?_)
            have ho2 := hoi; simp only [List.getElem?_toArray, List.getElem?_cons_succ, List.getElem?_cons_zero, Option.some.injEq] at ho2; subst ho2
            refine rg_call 5 (by kernel_rfl) hoi (by rfl) (fun K hK => ?_)
            clear hoi
            skip
            go_simp
            refine hK.out _ _ ((by exact hS)) (fun hS => ?_)
            clear hK K
            try simp only [Act.put, List.setIfInBounds_toArray, List.set_cons_zero, List.set_cons_succ]
            refine rg_at 6 (by decide) (fun oi hoi => ?_)
            have ho2 := hoi; simp only [List.getElem?_toArray, List.getElem?_cons_succ, List.getElem?_cons_zero, Option.some.injEq] at ho2; subst ho2
            refine rg_take (v := ?_) 6 hoi (by kernel_rfl) (by kernel_rfl) (by kernel_rfl) (fun _ _ _ h => h) (by rfl) ?_ hS ?_
            rotate_left
            · intro w _; go_simp; try with_reducible rfl
            clear hoi; try simp only [Act.put, List.setIfInBounds_toArray, List.set_cons_zero, List.set_cons_succ]
            refine rg_at 7 (by decide) (fun oi hoi => ?_)
            have ho2 := hoi; simp only [List.getElem?_toArray, List.getElem?_cons_succ, List.getElem?_cons_zero, Option.some.injEq] at ho2; subst ho2
            refine rg_take (v := ?_) 7 hoi (by kernel_rfl) (by kernel_rfl) (by kernel_rfl) (fun _ _ _ h => h) (by rfl) ?_ hS ?_
            rotate_left
            · intro w _; go_simp; try with_reducible rfl
            clear hoi; try simp only [Act.put, List.setIfInBounds_toArray, List.set_cons_zero, List.set_cons_succ]
            refine rg_at 8 (by decide) (fun oi hoi => ?_)
            have ho2 := hoi; simp only [List.getElem?_toArray, List.getElem?_cons_succ, List.getElem?_cons_zero, Option.some.injEq] at ho2; subst ho2
            refine rg_take (v := ?_) 8 hoi (by kernel_rfl) (by kernel_rfl) (by kernel_rfl) (fun _ _ _ h => h) (by rfl) ?_ hS ?_
            rotate_left
            · intro w _; go_simp; try with_reducible rfl
            clear hoi; try simp only [Act.put, List.setIfInBounds_toArray, List.set_cons_zero, List.set_cons_succ]
            refine rg_at 10 (by decide) (fun oi hoi => ?_)
            have ho2 := hoi; simp only [List.getElem?_toArray, List.getElem?_cons_succ, List.getElem?_cons_zero, Option.some.injEq] at ho2; subst ho2
            refine rg_take (v := ?_) 10 hoi (by kernel_rfl) (by kernel_rfl) (by kernel_rfl) (fun _ _ _ h => h) (by rfl) ?_ hS ?_
            rotate_left
            · intro w _; go_simp; try with_reducible rfl
            clear hoi; try simp only [Act.put, List.setIfInBounds_toArray, List.set_cons_zero, List.set_cons_succ]
            refine rg_at 9 (by decide) (fun oi hoi => ?_)
            have ho2 := hoi; simp only [List.getElem?_toArray, List.getElem?_cons_succ, List.getElem?_cons_zero, Option.some.injEq] at ho2; subst ho2
            refine rg_call 9 (by kernel_rfl) hoi (by rfl) (fun K hK => ?_)
            clear hoi
            go_simp
            refine Calls.mono (HS1.out _ hS) ?_
            rintro e w14 ⟨rfl, hu14⟩
            have hS14 := Upd.next hS hu14
            go_wp2_with (fail)
            refine hK.out _ _ ((by exact hS14)) (fun hS => ?_)
            clear hK K
            try simp only [Act.put, List.setIfInBounds_toArray, List.set_cons_zero, List.set_cons_succ]
            refine rg_at 11 (by decide) (fun oi hoi => ?_)
            have ho2 := hoi; simp only [List.getElem?_toArray, List.getElem?_cons_succ, List.getElem?_cons_zero, Option.some.injEq] at ho2; subst ho2
            refine rg_call 11 (by kernel_rfl) hoi (by rfl) (fun K hK => ?_)
            clear hoi
            go_simp
            refine Calls.mono (HS2.out _ hS) ?_
            rintro e w15 ⟨rfl, hu15⟩
            have hS15 := Upd.next hS hu15
            go_wp2_with (fail)
            refine hK.out _ _ ((by exact hS15)) (fun hS => ?_)
            clear hK K
            try simp only [Act.put, List.setIfInBounds_toArray, List.set_cons_zero, List.set_cons_succ]
            refine rg_at 12 (by decide) (fun oi hoi => ?_)
            have ho2 := hoi; simp only [List.getElem?_toArray, List.getElem?_cons_succ, List.getElem?_cons_zero, Option.some.injEq] at ho2; subst ho2
            refine rg_take (v := ?_) 12 hoi (by kernel_rfl) (by kernel_rfl) (by kernel_rfl) (fun _ _ _ h => h) (by rfl) ?_ hS ?_
            rotate_left
            · intro w _; go_simp; try with_reducible rfl
            clear hoi; try simp only [Act.put, List.setIfInBounds_toArray, List.set_cons_zero, List.set_cons_succ]
            refine rg_at 13 (by decide) (fun oi hoi => ?_)
            have ho2 := hoi; simp only [List.getElem?_toArray, List.getElem?_cons_succ, List.getElem?_cons_zero, Option.some.injEq] at ho2; subst ho2
            refine rg_take (v := ?_) 13 hoi (by kernel_rfl) (by kernel_rfl) (by kernel_rfl) (fun _ _ _ h => h) (by rfl) ?_ hS ?_
            rotate_left
            · intro w _; go_simp; try with_reducible rfl
            clear hoi; try simp only [Act.put, List.setIfInBounds_toArray, List.set_cons_zero, List.set_cons_succ]
            refine rg_at 14 (by decide) (fun oi hoi => ?_)
            have ho2 := hoi; simp only [List.getElem?_toArray, List.getElem?_cons_succ, List.getElem?_cons_zero, Option.some.injEq] at ho2; subst ho2
            refine rg_take (v := ?_) 14 hoi (by kernel_rfl) (by kernel_rfl) (by kernel_rfl) (fun _ _ _ h => h) (by rfl) ?_ hS ?_
            rotate_left
            · intro w _; go_simp; try with_reducible rfl
            clear hoi; try simp only [Act.put, List.setIfInBounds_toArray, List.set_cons_zero, List.set_cons_succ]
            refine wpAnyH_done (by kernel_rfl) ?_ _
          rotate_left 1
          focus
            refine rg_op_at 4 (by decide) (fun oi hoi => ?_)
            have ho2 := hoi; simp only [List.getElem?_toArray, List.getElem?_cons_succ, List.getElem?_cons_zero, Option.some.injEq] at ho2; subst ho2
            refine rg_step 4 hoi (by rfl) (fun K hK => ?_)
            clear hoi
            go_simp
            refine Calls.mono (HE2.out _ hS) ?_
            rintro e w13 ⟨A13, c13, rfl, hr13, hu13⟩
            have hS13 := Upd.next hS hu13
            have hv13 := HC.out _ _ c13 hr13
            have hv14 := HC.out _ _ c12 (hr12.upd (by omega) hu13 fun _ _ => no_ _)
            go_wp2_with (fail)
            refine hK.out _ _ ((by exact hS13)) (fun hS => ?_)
            clear hK K
            try simp only [Act.put, List.setIfInBounds_toArray, List.set_cons_zero, List.set_cons_succ]
            refine rg_two 2 5 (by kernel_rfl) ?_ ?_
            focus
              refine rg_op_at 2 (by decide) (fun oi hoi => ?_)
              have ho2 := hoi; simp only [List.getElem?_toArray, List.getElem?_cons_succ, List.getElem?_cons_zero, Option.some.injEq] at ho2; subst ho2
              refine rg_step 2 hoi (by rfl) (fun K hK => ?_)
              clear hoi
              skip
              go_simp
              refine hK.out _ _ ((by exact hS)) (fun hS => ?_)
              clear hK K
              try simp only [Act.put, List.setIfInBounds_toArray, List.set_cons_zero, List.set_cons_succ]
              refine rg_at 5 (by decide) (fun oi hoi => ?_)
              have ho2 := hoi; simp only [List.getElem?_toArray, List.getElem?_cons_succ, List.getElem?_cons_zero, Option.some.injEq] at ho2; subst ho2
              refine rg_call 5 (by kernel_rfl) hoi (by rfl) (fun K hK => ?_)
              clear hoi
              skip
              go_simp
              refine hK.out _ _ ((by exact hS)) (fun hS => ?_)
              clear hK K
              try simp only [Act.put, List.setIfInBounds_toArray, List.set_cons_zero, List.set_cons_succ]
              refine rg_at 6 (by decide) (fun oi hoi => ?_)
              have ho2 := hoi; simp only [List.getElem?_toArray, List.getElem?_cons_succ, List.getElem?_cons_zero, Option.some.injEq] at ho2; subst ho2
              refine rg_take (v := ?_) 6 hoi (by kernel_rfl) (by kernel_rfl) (by kernel_rfl) (fun _ _ _ h => h) (by rfl) ?_ hS ?_
              rotate_left
              · intro w _; go_simp; try with_reducible rfl
              clear hoi; try simp only [Act.put, List.setIfInBounds_toArray, List.set_cons_zero, List.set_cons_succ]
              refine rg_at 7 (by decide) (fun oi hoi => ?_)
              have ho2 := hoi; simp only [List.getElem?_toArray, List.getElem?_cons_succ, List.getElem?_cons_zero, Option.some.injEq] at ho2; subst ho2
              refine rg_take (v := ?_) 7 hoi (by kernel_rfl) (by kernel_rfl) (by kernel_rfl) (fun _ _ _ h => h) (by rfl) ?_ hS ?_
              rotate_left
              · intro w _; go_simp; try with_reducible rfl
              clear hoi; try simp only [Act.put, List.setIfInBounds_toArray, List.set_cons_zero, List.set_cons_succ]
              refine rg_at 8 (by decide) (fun oi hoi => ?_)
              have ho2 := hoi; simp only [List.getElem?_toArray, List.getElem?_cons_succ, List.getElem?_cons_zero, Option.some.injEq] at ho2; subst ho2
              refine rg_take (v := ?_) 8 hoi (by kernel_rfl) (by kernel_rfl) (by kernel_rfl) (fun _ _ _ h => h) (by rfl) ?_ hS ?_
              rotate_left
              · intro w _; go_simp; try with_reducible rfl
              clear hoi; try simp only [Act.put, List.setIfInBounds_toArray, List.set_cons_zero, List.set_cons_succ]
              refine rg_at 10 (by decide) (fun oi hoi => ?_)
              have ho2 := hoi; simp only [List.getElem?_toArray, List.getElem?_cons_succ, List.getElem?_cons_zero, Option.some.injEq] at ho2; subst ho2
              refine rg_take (v := ?_) 10 hoi (by kernel_rfl) (by kernel_rfl) (by kernel_rfl) (fun _ _ _ h => h) (by rfl) ?_ hS ?_
              rotate_left
              · intro w _; go_simp; try with_reducible rfl
              clear hoi; try simp only [Act.put, List.setIfInBounds_toArray, List.set_cons_zero, List.set_cons_succ]
              refine rg_at 9 (by decide) (fun oi hoi => ?_)
              have ho2 := hoi; simp only [List.getElem?_toArray, List.getElem?_cons_succ, List.getElem?_cons_zero, Option.some.injEq] at ho2; subst ho2
              refine rg_call 9 (by kernel_rfl) hoi (by rfl) (fun K hK => ?_)
              clear hoi
              go_simp
              refine Calls.mono (HS1.out _ hS) ?_
              rintro e w14 ⟨rfl, hu14⟩
              have hS14 := Upd.next hS hu14
              go_wp2_with (fail)
              refine hK.out _ _ ((by exact hS14)) (fun hS => ?_)
              clear hK K
              try simp only [Act.put, List.setIfInBounds_toArray, List.set_cons_zero, List.set_cons_succ]
              refine rg_at 11 (by decide) (fun oi hoi => ?_)
              have ho2 := hoi; simp only [List.getElem?_toArray, List.getElem?_cons_succ, List.getElem?_cons_zero, Option.some.injEq] at ho2; subst ho2
              refine rg_call 11 (by kernel_rfl) hoi (by rfl) (fun K hK => ?_)
              clear hoi
              go_simp
              refine Calls.mono (HS2.out _ hS) ?_
              rintro e w15 ⟨rfl, hu15⟩
              have hS15 := Upd.next hS hu15
              go_wp2_with (fail)
              refine hK.out _ _ ((by exact hS15)) (fun hS => ?_)
              clear hK K
              try simp only [Act.put, List.setIfInBounds_toArray, List.set_cons_zero, List.set_cons_succ]
              refine rg_at 12 (by decide) (fun oi hoi => ?_)
              have ho2 := hoi; simp only [List.getElem?_toArray, List.getElem?_cons_succ, List.getElem?_cons_zero, Option.some.injEq] at ho2; subst ho2
              refine rg_take (v := ?_) 12 hoi (by kernel_rfl) (by kernel_rfl) (by kernel_rfl) (fun _ _ _ h => h) (by rfl) ?_ hS ?_
              rotate_left
              · intro w _; go_simp; try with_reducible rfl
              clear hoi; try simp only [Act.put, List.setIfInBounds_toArray, List.set_cons_zero, List.set_cons_succ]
              refine rg_at 13 (by decide) (fun oi hoi => ?_)
              have ho2 := hoi; simp only [List.getElem?_toArray, List.getElem?_cons_succ, List.getElem?_cons_zero, Option.some.injEq] at ho2; subst ho2
              refine rg_take (v := ?_) 13 hoi (by kernel_rfl) (by kernel_rfl) (by kernel_rfl) (fun _ _ _ h => h) (by rfl) ?_ hS ?_
              rotate_left
              · intro w _; go_simp; try with_reducible rfl
              clear hoi; try simp only [Act.put, List.setIfInBounds_toArray, List.set_cons_zero, List.set_cons_succ]
              refine rg_at 14 (by decide) (fun oi hoi => ?_)
              have ho2 := hoi; simp only [List.getElem?_toArray, List.getElem?_cons_succ, List.getElem?_cons_zero, Option.some.injEq] at ho2; subst ho2
              refine rg_take (v := ?_) 14 hoi (by kernel_rfl) (by kernel_rfl) (by kernel_rfl) (fun _ _ _ h => h) (by rfl) ?_ hS ?_
              rotate_left
              · intro w _; go_simp; try with_reducible rfl
              clear hoi; try simp only [Act.put, List.setIfInBounds_toArray, List.set_cons_zero, List.set_cons_succ]
              refine wpAnyH_done (by kernel_rfl) ?_ _
            rotate_left 1
            focus
              refine rg_op_at 5 (by decide) (fun oi hoi => ?_)
              have ho2 := hoi; simp only [List.getElem?_toArray, List.getElem?_cons_succ, List.getElem?_cons_zero, Option.some.injEq] at ho2; subst ho2
              refine rg_step 5 hoi (by rfl) (fun K hK => ?_)
              clear hoi
              skip
              go_simp
              refine hK.out _ _ ((by exact hS)) (fun hS => ?_)
              clear hK K
              try simp only [Act.put, List.setIfInBounds_toArray, List.set_cons_zero, List.set_cons_succ]
              refine rg_at 2 (by decide) (fun oi hoi => ?_)
              have ho2 := hoi; simp only [List.getElem?_toArray, List.getElem?_cons_succ, List.getElem?_cons_zero, Option.some.injEq] at ho2; subst ho2
              refine rg_call 2 (by kernel_rfl) hoi (by rfl) (fun K hK => ?_)
              clear hoi
              skip
              go_simp
              refine hK.out _ _ ((by exact hS)) (fun hS => ?_)
              clear hK K
              try simp only [Act.put, List.setIfInBounds_toArray, List.set_cons_zero, List.set_cons_succ]
              refine rg_at 6 (by decide) (fun oi hoi => ?_)
              have ho2 := hoi; simp only [List.getElem?_toArray, List.getElem?_cons_succ, List.getElem?_cons_zero, Option.some.injEq] at ho2; subst ho2
              refine rg_take (v := ?_) 6 hoi (by kernel_rfl) (by kernel_rfl) (by kernel_rfl) (fun _ _ _ h => h) (by rfl) ?_ hS ?_
              rotate_left
              · intro w _; go_simp; try with_reducible rfl
              clear hoi; try simp only [Act.put, List.setIfInBounds_toArray, List.set_cons_zero, List.set_cons_succ]
              refine rg_at 7 (by decide) (fun oi hoi => ?_)
              have ho2 := hoi; simp only [List.getElem?_toArray, List.getElem?_cons_succ, List.getElem?_cons_zero, Option.some.injEq] at ho2; subst ho2
              refine rg_take (v := ?_) 7 hoi (by kernel_rfl) (by kernel_rfl) (by kernel_rfl) (fun _ _ _ h => h) (by rfl) ?_ hS ?_
              rotate_left
              · intro w _; go_simp; try with_reducible rfl
              clear hoi; try simp only [Act.put, List.setIfInBounds_toArray, List.set_cons_zero, List.set_cons_succ]
              refine rg_at 8 (by decide) (fun oi hoi => ?_)
              have ho2 := hoi; simp only [List.getElem?_toArray, List.getElem?_cons_succ, List.getElem?_cons_zero, Option.some.injEq] at ho2; subst ho2
              refine rg_take (v := ?_) 8 hoi (by kernel_rfl) (by kernel_rfl) (by kernel_rfl) (fun _ _ _ h => h) (by rfl) ?_ hS ?_
              rotate_left
              · intro w _; go_simp; try with_reducible rfl
              clear hoi; try simp only [Act.put, List.setIfInBounds_toArray, List.set_cons_zero, List.set_cons_succ]
              refine rg_at 10 (by decide) (fun oi hoi => ?_)
              have ho2 := hoi; simp only [List.getElem?_toArray, List.getElem?_cons_succ, List.getElem?_cons_zero, Option.some.injEq] at ho2; subst ho2
              refine rg_take (v := ?_) 10 hoi (by kernel_rfl) (by kernel_rfl) (by kernel_rfl) (fun _ _ _ h => h) (by rfl) ?_ hS ?_
              rotate_left
              · intro w _; go_simp; try with_reducible rfl
              clear hoi; try simp only [Act.put, List.setIfInBounds_toArray, List.set_cons_zero, List.set_cons_succ]
              refine rg_at 9 (by decide) (fun oi hoi => ?_)
              have ho2 := hoi; simp only [List.getElem?_toArray, List.getElem?_cons_succ, List.getElem?_cons_zero, Option.some.injEq] at ho2; subst ho2
              refine rg_call 9 (by kernel_rfl) hoi (by rfl) (fun K hK => ?_)
              clear hoi
              go_simp
              refine Calls.mono (HS1.out _ hS) ?_
              rintro e w14 ⟨rfl, hu14⟩
              have hS14 := Upd.next hS hu14
              go_wp2_with (fail)
              refine hK.out _ _ ((by exact hS14)) (fun hS => ?_)
              clear hK K
              try simp only [Act.put, List.setIfInBounds_toArray, List.set_cons_zero, List.set_cons_succ]
              refine rg_at 11 (by decide) (fun oi hoi => ?_)
              have ho2 := hoi; simp only [List.getElem?_toArray, List.getElem?_cons_succ, List.getElem?_cons_zero, Option.some.injEq] at ho2; subst ho2
              refine rg_call 11 (by kernel_rfl) hoi (by rfl) (fun K hK => ?_)
              clear hoi
              go_simp
              refine Calls.mono (HS2.out _ hS) ?_
              rintro e w15 ⟨rfl, hu15⟩
              have hS15 := Upd.next hS hu15
              go_wp2_with (fail)
              refine hK.out _ _ ((by exact hS15)) (fun hS => ?_)
              clear hK K
              try simp only [Act.put, List.setIfInBounds_toArray, List.set_cons_zero, List.set_cons_succ]
              refine rg_at 12 (by decide) (fun oi hoi => ?_)
              have ho2 := hoi; simp only [List.getElem?_toArray, List.getElem?_cons_succ, List.getElem?_cons_zero, Option.some.injEq] at ho2; subst ho2
              refine rg_take (v := ?_) 12 hoi (by kernel_rfl) (by kernel_rfl) (by kernel_rfl) (fun _ _ _ h => h) (by rfl) ?_ hS ?_
              rotate_left
              · intro w _; go_simp; try with_reducible rfl
              clear hoi; try simp only [Act.put, List.setIfInBounds_toArray, List.set_cons_zero, List.set_cons_succ]
              refine rg_at 13 (by decide) (fun oi hoi => ?_)
              have ho2 := hoi; simp only [List.getElem?_toArray, List.getElem?_cons_succ, List.getElem?_cons_zero, Option.some.injEq] at ho2; subst ho2
              refine rg_take (v := ?_) 13 hoi (by kernel_rfl) (by kernel_rfl) (by kernel_rfl) (fun _ _ _ h => h) (by rfl) ?_ hS ?_
              rotate_left
              · intro w _; go_simp; try with_reducible rfl
              clear hoi; try simp only [Act.put, List.setIfInBounds_toArray, List.set_cons_zero, List.set_cons_succ]
              refine rg_at 14 (by decide) (fun oi hoi => ?_)
              have ho2 := hoi; simp only [List.getElem?_toArray, List.getElem?_cons_succ, List.getElem?_cons_zero, Option.some.injEq] at ho2; subst ho2
              refine rg_take (v := ?_) 14 hoi (by kernel_rfl) (by kernel_rfl) (by kernel_rfl) (fun _ _ _ h => h) (by rfl) ?_ hS ?_
              rotate_left
              · intro w _; go_simp; try with_reducible rfl
              clear hoi; try simp only [Act.put, List.setIfInBounds_toArray, List.set_cons_zero, List.set_cons_succ]
              refine wpAnyH_done (by kernel_rfl) ?_ _
          all_goals
            have HE := hid (HBel.out _ hS)
            go_wp2
            go_ret
            exact ⟨rfl, HE.out⟩
end Go.Proofs.Ytjhmmffejfomkaa.Jn
