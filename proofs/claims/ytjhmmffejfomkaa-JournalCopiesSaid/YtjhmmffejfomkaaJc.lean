/-
  The walk of JournalCopies.
-/
import Derived.Test.YtjhmmffejfomkaaJv
import Derived.Test.YtjhmmffejfomkaaJy
import Derived.Test.YtjhmmffejfomkaaJz
set_option linter.unusedVariables false
set_option linter.unusedSimpArgs false
namespace Go.Proofs.Ytjhmmffejfomkaa.Jn
open Go.ChangeShapes Go.WideShapes Go.ChangeAt Go.RowKit Go.Proofs.Ytjhmmffejfomkaa Go.Proofs.Ytjhmmffejfomkaa.B Go.Proofs.Ytjhmmffejfomkaa.Op
def InE2 (W : World) (x : Lv) : Prop := InE W x ∧ ∀ e ∈ x.1, I64 e.2
theorem open_lists2 {H : Type} {enc : TypeId × Value → H} {W : World} {base : Nat} {v : Value} {d : DataW H} {p : List MemPlace}
    (hv : Value.okWide Try.prog W .any base 40 v) (h : DataW.Trod enc Try.prog W 0 (fun _ => true) true 40 v d p) :
    ∃ (xs : List Lv) (A : Option Addr) (c : Nat), v = .slice A xs.length c ∧ Rd W 1 A xs.length (xs.map (·.2)) ∧ (xs.length ≤ maxLen ∧ ∀ x ∈ xs, InE2 W x) := by
  obtain ⟨xs, A, c, h1, h2, h3, h4, h5, h6, h7, h8⟩ := open_rows (α := Lv) 1 (fun x => [x.2]) (fun x _ => InE2 W x) Try.underlying40 (by kernel_rfl) (by omega)
    (fun n cs x hx hl => by
      obtain ⟨ys, A, c, hcs, hr, h1, h2, h3⟩ := read_rows (α := Ev) 2 ec (fun e => I64 e.2) Try.underlying22 (by kernel_rfl) (by omega)
        (fun n cs x hx hl => by
          obtain ⟨ys, k, hk, hxy, _, hxl, hf⟩ := DataW.trod_struct Try.underlying29 hx
          match ys, hxl, cs, hl with
          | [y0, y1], _, [v0, v1], _ =>
            have g0 := hf 0 _ rfl
            have g1 := hf 1 _ rfl
            have e0 : Try.prog.cellsOf 3 = 1 := by kernel_rfl
            have e1 : Try.prog.cellsOf 2 = 1 := by kernel_rfl
            simp [e0, e1] at g0 g1
            obtain ⟨x0, z0, _, w0⟩ := DataW.trod_int Try.underlying3 g0
            obtain ⟨x1, z1, _, w1⟩ := DataW.trod_int Try.underlying2 g1
            simp only [List.cons.injEq, and_true] at z0 z1
            subst z0 z1
            exact ⟨(x0, x1), rfl, Law.wf_i64 w1⟩) hx
      exact ⟨(ys, .slice A ys.length c), hcs, ⟨A, c, rfl, hr⟩, h3⟩) hv h
  exact ⟨xs, A, c, h1, by rw [List.map_eq_flatMap]; exact h2, Nat.le_trans h4 h5, fun x hx => (h7 x hx).elim fun _ h => h⟩
/-- What a journal's numbers are. -/
structure Iv (k : Nat) (s : S) : Prop where
  rg : Rg s
  lv : (s.2.1.length : Int) ≤ s.2.2
  top : s.2.2 ≤ k
theorem Iv.add {k : Nat} {s : S} {l : List Ev} (h : Iv k s) (h16 : s.2.1.length ≤ 16) (hl : l.length ≤ 500) (he : ∀ e ∈ l, I64 e.2) (hk : k ≤ 1000000) : Iv (k + 500) (addS s l).2 := by
  have h1 := h.lv
  have h2 := h.top
  unfold addS
  split
  · exact ⟨h.rg, h1, by show s.2.2 ≤ _; omega⟩
  · have hw : IntKind.u64.wrap (s.2.2 + l.length) = s.2.2 + l.length := by
      simp only [wrapU]
      omega
    refine ⟨h.rg.app he, ?_, ?_⟩
    · simp only [foldS, List.length_drop, List.length_append, hw]
      omega
    · simp only [foldS, hw]
      omega
theorem Iv.s0 : Iv 0 s0 := ⟨Rg.s0, by decide, by decide⟩
set_option maxHeartbeats 4000000 in
set_option maxRecDepth 100000 in
theorem law_copies (A B : Option Addr) (c d : Nat) (xs ys : List Lv) (w : World) (hr : Rd w 1 A xs.length (xs.map (·.2))) (hl : xs.length ≤ maxLen) (hx : ∀ x ∈ xs, InE2 w x)
    (hr' : Rd w 1 B ys.length (ys.map (·.2))) (hl' : ys.length ≤ maxLen) (hx' : ∀ x ∈ ys, InE2 w x) :
    Calls Try.prog 7 #[.slice A xs.length c, .slice B ys.length d] w fun e w' => e = .returned (.bool true) ∧ Below w.heap.size w w' := by
  have HXs := hid (And.intro hr (And.intro (fun x h => (hx x h).1 : ∀ x ∈ xs, InE w x) hl))
  have HYs := hid (And.intro hr' (And.intro (fun x h => (hx' x h).1 : ∀ x ∈ ys, InE w x) hl'))
  have HI := hid (And.intro (fun x h => (hx x h).2 : ∀ x ∈ xs, ∀ e ∈ x.1, I64 e.2) (fun x h => (hx' x h).2 : ∀ x ∈ ys, ∀ e ∈ x.1, I64 e.2))
  clear hr hl hx hr' hl' hx'
  go_enter Try.func7, Try.ntmps7
  go_wp2_with (fail)
  refine Calls.mono (awake w) ?_
  rintro e w1 ⟨rfl, hb1⟩
  have HB1 := hid hb1
  have hRow : ∀ W, Below w.heap.size w W → Rd W 1 A xs.length (xs.map (·.2)) ∧ ∀ x ∈ xs, InE W x := fun W hb => ⟨Rd.below HXs.out.1 (by omega) hb, fun x hx => by
    obtain ⟨A2, c2, e, h2⟩ := HXs.out.2.1 x hx
    exact ⟨A2, c2, e, Rd.below h2 (by omega) hb⟩⟩
  have hRow' : ∀ W, Below w.heap.size w W → Rd W 1 B ys.length (ys.map (·.2)) ∧ ∀ x ∈ ys, InE W x := fun W hb => ⟨Rd.below HYs.out.1 (by omega) hb, fun x hx => by
    obtain ⟨A2, c2, e, h2⟩ := HYs.out.2.1 x hx
    exact ⟨A2, c2, e, Rd.below h2 (by omega) hb⟩⟩
  have HRow := hid hRow
  have HRow' := hid hRow'
  clear hb1 hRow hRow'
  go_wp2_with (fail)
  refine Calls.mono (few (HRow.out _ HB1.out).1 (HRow.out _ HB1.out).2 HXs.out.2.2) ?_
  rintro e w1' ⟨b, rfl, rfl, hb⟩
  rcases b with _ | _
  · clear hb
    go_wp2_with (fail)
    refine Calls.mono (awake w1) ?_
    rintro e w2 ⟨rfl, hb2⟩
    have HB2 := hid (HB1.out.trans (hb2.mono HB1.out.size))
    clear hb2
    go_wp2
    go_ret
    exact ⟨rfl, HB2.out⟩
  obtain ⟨h61, h500⟩ := hb rfl
  have H500 := hid h500
  clear hb h500
  go_wp2_with (fail)
  refine Calls.mono (few (HRow'.out _ HB1.out).1 (HRow'.out _ HB1.out).2 HYs.out.2.2) ?_
  rintro e w1' ⟨b, rfl, rfl, hb⟩
  rcases b with _ | _
  · clear hb
    go_wp2_with (fail)
    refine Calls.mono (awake w1) ?_
    rintro e w2 ⟨rfl, hb2⟩
    have HB2 := hid (HB1.out.trans (hb2.mono HB1.out.size))
    clear hb2
    go_wp2
    go_ret
    exact ⟨rfl, HB2.out⟩
  obtain ⟨h61', h500'⟩ := hb rfl
  have H500' := hid h500'
  clear hb h500'
  go_wp2_with (fail)
  refine Calls.mono (new2 w w1 HB1.out) ?_
  rintro e w2 ⟨rfl, hO2, hu2⟩
  have hvr : IntKind.u64.wrap s0.2.2 = s0.2.2 := rfl
  have HS0 : Hid (∃ (F0 G0 : Nat → Prop) (p q : Nat) (w3 : World), w3 = w2.alloc (.cells #[.int .i64 0, .int .i64 0, .int .i64 0, .int .i64 0, .int .i64 0, .int .i64 0, .int .i64 0, .int .i64 0, .slice none 0 0, .int .u64 0] 44) ∧ Bo w w3 F0 p G0 q s0 ∧ w1.heap.size = p ∧ w2.heap.size = q) :=
    hid ⟨_, _, _, _, _, rfl, ⟨hO2.quiet ((Upd.refl No w2).alloc _), Rj.new rfl, fun k hk hg => by have := hO2.jd.lt k hk; omega, fun k hk => by have := hO2.bel.size; omega, hvr⟩, rfl, rfl⟩
  clear hO2 hu2 hvr
  go_wp2_with (fail)
  obtain ⟨F0, G0, p, q, w3, hw3, hS, hp, hq⟩ := HS0.out
  rw [← hw3, hp, hq]
  have HSt := hid hS
  clear hw3 hp hq hS HS0
  go_loopw [29] (fun v29 W => ∃ (j : Nat) (F G : Nat → Prop) (s : S), j ≤ xs.length ∧ v29 = .int .i64 j ∧ Hid (Bo w W F p G q s) ∧ Hid (Iv (500 * j) s)) (fun v29 _ => xs.length - (intOf v29).toNat)
  case atStart => exact ⟨0, F0, G0, s0, by omega, rfl, HSt, hid Iv.s0⟩
  case round =>
    clear HSt
    obtain ⟨j, F, G, s, hj, rfl, HW, HV⟩ := hrel
    by_cases hlt : j < xs.length
    · obtain ⟨ad, A2, c2, rfl, x0, x1⟩ := row_lv HXs.out.1 HXs.out.2.1 hlt
      have HNG : Hid (∀ bd, A2 = some bd → 0 < xs[j].1.length → ¬ G bd.block) := hid fun bd e h0 hg => by
        obtain ⟨bd', e', hlt'⟩ := x1.lt h0 (by omega)
        rw [e] at e'
        cases e'
        have := HW.out.own _ hg
        omega
      have CE : Hid (∀ W, Below w.heap.size w W → W.cell? (ad.add j) = some (.slice A2 xs[j].1.length c2) ∧ Rd W 2 A2 xs[j].1.length (ecs xs[j].1)) := hid fun W hb =>
        ⟨(hb.cell (World.block_lt_of_cell? _ _ x0)).trans x0, Rd.below x1 (by omega) hb⟩
      have h5 := H500.out _ (List.getElem_mem hlt)
      have hI := HI.out.1 _ (List.getElem_mem hlt)
      clear x0 x1
      generalize xs[j].1 = l at *
      have hj1 : (0 : Int) ≤ (j : Int) := by omega
      have hj2 : (j : Int) < (xs.length : Int) := by omega
      have hA := fun W A' c' (h : Jd W F p s) (hR : Rd W 2 A' l.length (ecs l)) => add (c := c') h HW.out.a.ok HW.out.a.le hR h5
      have hB := fun W A' c' (h : Rj W G q s) (hR : Rd W 2 A' l.length (ecs l)) (hd : ∀ ad, A' = some ad → 0 < l.length → ¬ G ad.block) => radd (c := c') h HW.out.a.ok HW.out.a.le HW.out.vr hR hd (by omega)
      have hOk := addS_ok (l := l) HW.out.a.ok HW.out.a.le
      have hVr := addS_vr l HW.out.vr
      have hIv := HV.out.add (l := l) HW.out.a.le h5 hI (by omega)
      unfold AddOut at hA
      unfold RAddOut at hB
      generalize addS s l = r at *
      obtain ⟨cd, s5⟩ := r
      simp only at hA hB hOk hVr hIv
      have HA := hid hA
      have HB := hid hB
      have HOk := hid (And.intro hOk (And.intro hVr hIv))
      obtain ⟨y0, y1⟩ := CE.out _ HW.out.a.bel
      have HTh := hid (theirs (c := c2) y1 (by omega))
      clear hA hB hOk hVr hIv y1 hI
      go_wp2_with (fail)
      refine Calls.mono HTh.out ?_
      rintro e w4 ⟨A4, c4, rfl, hR4, hu4⟩
      have HW4 := hid (HW.out.quiet hu4)
      have HA4 := hid (HA.out w4 A4 c4 HW4.out.a.jd hR4)
      clear hR4 hu4 y0 HTh
      go_wp2_with (fail)
      refine Calls.mono HA4.out ?_
      rintro e w5 ⟨rfl, F5, hw5, hm5⟩
      have hb5 := HW4.out.b.upd hm5.upd (fun k hk hf => HW4.out.fg k hf hk)
      have hS5 := HW4.out.a.bel.trans (hm5.upd.below HW4.out.a.bel.size HW4.out.a.own)
      have HB5 := hid (HB.out w5 A2 c2 hb5 (CE.out _ hS5).2 HNG.out)
      have HM5 := hid (And.intro hw5 hm5)
      obtain ⟨y0, _⟩ := CE.out _ hS5
      clear hw5 hm5 hb5 hS5 HA4
      go_wp2_with (fail)
      refine Calls.mono HB5.out ?_
      rintro e w6 ⟨rfl, G6, hw6, hm6⟩
      have HW6 := hid (HW4.out.moved HM5.out.1 HM5.out.2 hw6 hm6 HOk.out.1.1 HOk.out.1.2 HOk.out.2.1)
      clear hw6 hm6 y0 HM5 HB5
      go_wp2
      go_roundw
      case rel => exact ⟨j + 1, F5, G6, s5, by omega, by go_num, HW6, hid (by rw [Nat.mul_succ]; exact HOk.out.2.2)⟩
      case measure => simp [intOf]; omega
    · obtain rfl : j = xs.length := by omega
      have HEn := hid (encode HW.out.a.jd HW.out.a.ok HV.out.rg)
      clear HXs HRow H500
      go_wp2_with (fail)
      refine Calls.mono HEn.out ?_
      rintro e w7 ⟨A7, c7, rfl, hr7, hu7⟩
      have HW7 := hid (HW.out.quiet hu7)
      have HDe := hid (decode (c := c7) hr7 HW.out.a.ok HW.out.a.le HV.out.rg HV.out.lv)
      clear hr7 hu7 HEn HW
      go_wp2_with (fail)
      refine Calls.mono HDe.out ?_
      rintro e w8 ⟨p8, F8, rfl, hj8, ho8, hu8⟩
      have HW8 : Hid (Bo w w8 F8 p8 G q s) := hid (by
        have h := HW7.out.quiet hu8
        have h1 := HW7.out.a.bel.size
        exact ⟨⟨hj8, fun k hk => Nat.le_trans h1 (ho8 k hk), h.a.bel, h.a.ok, h.a.le⟩, h.b, fun k hk hg => by
          have := ho8 k hk
          have := HW7.out.b.lt k hg
          omega, h.own, h.vr⟩)
      clear hj8 ho8 hu8 HW7 HV HDe
      go_wp2_with (fail)
      obtain ⟨wo, rfl⟩ : ∃ wo : World, wo = wr := ⟨_, rfl⟩
      go_loopw [56] (fun v56 W => ∃ (j : Nat) (F G : Nat → Prop) (s : S), j ≤ ys.length ∧ v56 = .int .i64 j ∧ Hid (Bo w W F p8 G q s)) (fun v56 _ => ys.length - (intOf v56).toNat)
      case atStart => exact ⟨0, F8, G, s, by omega, rfl, HW8⟩
      case round =>
        clear HW8
        obtain ⟨j, F, G, s, hj, rfl, HW⟩ := hrel
        by_cases hlt : j < ys.length
        · obtain ⟨ad, A2, c2, rfl, x0, x1⟩ := row_lv HYs.out.1 HYs.out.2.1 hlt
          have HNG : Hid (∀ bd, A2 = some bd → 0 < ys[j].1.length → ¬ G bd.block) := hid fun bd e h0 hg => by
            obtain ⟨bd', e', hlt'⟩ := x1.lt h0 (by omega)
            rw [e] at e'
            cases e'
            have := HW.out.own _ hg
            omega
          have CE : Hid (∀ W, Below w.heap.size w W → W.cell? (ad.add j) = some (.slice A2 ys[j].1.length c2) ∧ Rd W 2 A2 ys[j].1.length (ecs ys[j].1)) := hid fun W hb =>
            ⟨(hb.cell (World.block_lt_of_cell? _ _ x0)).trans x0, Rd.below x1 (by omega) hb⟩
          have h5 := H500'.out _ (List.getElem_mem hlt)
          clear x0 x1
          generalize ys[j].1 = l at *
          have hj1 : (0 : Int) ≤ (j : Int) := by omega
          have hj2 : (j : Int) < (ys.length : Int) := by omega
          have hA := fun W A' c' (h : Jd W F p8 s) (hR : Rd W 2 A' l.length (ecs l)) => add (c := c') h HW.out.a.ok HW.out.a.le hR h5
          have hB := fun W A' c' (h : Rj W G q s) (hR : Rd W 2 A' l.length (ecs l)) (hd : ∀ ad, A' = some ad → 0 < l.length → ¬ G ad.block) => radd (c := c') h HW.out.a.ok HW.out.a.le HW.out.vr hR hd (by omega)
          have hOk := addS_ok (l := l) HW.out.a.ok HW.out.a.le
          have hVr := addS_vr l HW.out.vr
          unfold AddOut at hA
          unfold RAddOut at hB
          generalize addS s l = r at *
          obtain ⟨cd, s5⟩ := r
          simp only at hA hB hOk hVr
          have HA := hid hA
          have HB := hid hB
          have HOk := hid (And.intro hOk hVr)
          clear hA hB hOk hVr
          go_wp2_with (fail)
          refine wp_region_held_drew (S := fun W => Below w.heap.size w W) (by kernel_rfl) (below_drew HW.out.a.bel) (fun hS => ?_)
          refine rg_at 0 (by decide) (fun oi hoi => ?_)
          have ho2 := hoi; simp only [List.getElem?_toArray, List.getElem?_cons_succ, List.getElem?_cons_zero, Option.some.injEq] at ho2; subst ho2
          refine rg_take (v := ?_) 0 hoi (by kernel_rfl) (by kernel_rfl) (by kernel_rfl) (fun _ _ _ h => h) (by rfl) ?_ hS ?_
          rotate_left
          · intro w _; go_simp; try with_reducible rfl
          clear hoi; try simp only [Act.put, List.setIfInBounds_toArray, List.set_cons_zero, List.set_cons_succ]
          refine rg_at 1 (by decide) (fun oi hoi => ?_)
          have ho2 := hoi; simp only [List.getElem?_toArray, List.getElem?_cons_succ, List.getElem?_cons_zero, Option.some.injEq] at ho2; subst ho2
          refine rg_take (v := ?_) 1 hoi (by kernel_rfl) (by kernel_rfl) (by kernel_rfl) (fun _ _ _ h => h) (by rfl) ?_ hS ?_
          rotate_left
          · intro w _; go_simp; try with_reducible rfl
          clear hoi; try simp only [Act.put, List.setIfInBounds_toArray, List.set_cons_zero, List.set_cons_succ]
          refine rg_at 2 (by decide) (fun oi hoi => ?_)
          have ho2 := hoi; simp only [List.getElem?_toArray, List.getElem?_cons_succ, List.getElem?_cons_zero, Option.some.injEq] at ho2; subst ho2
          refine rg_take (v := ?_) 2 hoi (by kernel_rfl) (by kernel_rfl) (by kernel_rfl) (fun _ _ _ h => h) (by rfl) ?_ hS ?_
          rotate_left
          · intro w _; go_simp; try with_reducible rfl
          clear hoi; try simp only [Act.put, List.setIfInBounds_toArray, List.set_cons_zero, List.set_cons_succ]
          refine rg_at 3 (by decide) (fun oi hoi => ?_)
          have ho2 := hoi; simp only [List.getElem?_toArray, List.getElem?_cons_succ, List.getElem?_cons_zero, Option.some.injEq] at ho2; subst ho2
          refine rg_take (v := ?_) 3 hoi (by kernel_rfl) (by kernel_rfl) (by kernel_rfl) (fun _ _ _ h => h) (by rfl) ?_ hS ?_
          rotate_left
          · intro w _; go_simp; try with_reducible rfl
          clear hoi; try simp only [Act.put, List.setIfInBounds_toArray, List.set_cons_zero, List.set_cons_succ]
          refine rg_at 4 (by decide) (fun oi hoi => ?_)
          have ho2 := hoi; simp only [List.getElem?_toArray, List.getElem?_cons_succ, List.getElem?_cons_zero, Option.some.injEq] at ho2; subst ho2
          refine rg_take (v := ?_) 4 hoi (by kernel_rfl) (by kernel_rfl) (by kernel_rfl) (fun _ _ _ h => h) (by rfl) ?_ hS ?_
          rotate_left
          · intro w hw; have hf := (CE.out w hw).1; clear hw; go_simp; try with_reducible rfl
          clear hoi; try simp only [Act.put, List.setIfInBounds_toArray, List.set_cons_zero, List.set_cons_succ]
          refine rg_at 7 (by decide) (fun oi hoi => ?_)
          have ho2 := hoi; simp only [List.getElem?_toArray, List.getElem?_cons_succ, List.getElem?_cons_zero, Option.some.injEq] at ho2; subst ho2
          refine rg_take (v := ?_) 7 hoi (by kernel_rfl) (by kernel_rfl) (by kernel_rfl) (fun _ _ _ h => h) (by rfl) ?_ hS ?_
          rotate_left
          · intro w _; go_simp; try with_reducible rfl
          clear hoi; try simp only [Act.put, List.setIfInBounds_toArray, List.set_cons_zero, List.set_cons_succ]
          refine rg_at 8 (by decide) (fun oi hoi => ?_)
          have ho2 := hoi; simp only [List.getElem?_toArray, List.getElem?_cons_succ, List.getElem?_cons_zero, Option.some.injEq] at ho2; subst ho2
          refine rg_take (v := ?_) 8 hoi (by kernel_rfl) (by kernel_rfl) (by kernel_rfl) (fun _ _ _ h => h) (by rfl) ?_ hS ?_
          rotate_left
          · intro w _; go_simp; try with_reducible rfl
          clear hoi; try simp only [Act.put, List.setIfInBounds_toArray, List.set_cons_zero, List.set_cons_succ]
          refine rg_at 9 (by decide) (fun oi hoi => ?_)
          have ho2 := hoi; simp only [List.getElem?_toArray, List.getElem?_cons_succ, List.getElem?_cons_zero, Option.some.injEq] at ho2; subst ho2
          refine rg_take (v := ?_) 9 hoi (by kernel_rfl) (by kernel_rfl) (by kernel_rfl) (fun _ _ _ h => h) (by rfl) ?_ hS ?_
          rotate_left
          · intro w _; go_simp; try with_reducible rfl
          clear hoi; try simp only [Act.put, List.setIfInBounds_toArray, List.set_cons_zero, List.set_cons_succ]
          refine rg_at 10 (by decide) (fun oi hoi => ?_)
          have ho2 := hoi; simp only [List.getElem?_toArray, List.getElem?_cons_succ, List.getElem?_cons_zero, Option.some.injEq] at ho2; subst ho2
          refine rg_take (v := ?_) 10 hoi (by kernel_rfl) (by kernel_rfl) (by kernel_rfl) (fun _ _ _ h => h) (by rfl) ?_ hS ?_
          rotate_left
          · intro w _; go_simp; try with_reducible rfl
          clear hoi; try simp only [Act.put, List.setIfInBounds_toArray, List.set_cons_zero, List.set_cons_succ]
          refine rg_at 11 (by decide) (fun oi hoi => ?_)
          have ho2 := hoi; simp only [List.getElem?_toArray, List.getElem?_cons_succ, List.getElem?_cons_zero, Option.some.injEq] at ho2; subst ho2
          refine rg_take (v := ?_) 11 hoi (by kernel_rfl) (by kernel_rfl) (by kernel_rfl) (fun _ _ _ h => h) (by rfl) ?_ hS ?_
          rotate_left
          · intro w hw; have hf := (CE.out w hw).1; clear hw; go_simp; try with_reducible rfl
          clear hoi; try simp only [Act.put, List.setIfInBounds_toArray, List.set_cons_zero, List.set_cons_succ]
          refine rg_at 5 (by decide) (fun oi hoi => ?_)
          have ho2 := hoi; simp only [List.getElem?_toArray, List.getElem?_cons_succ, List.getElem?_cons_zero, Option.some.injEq] at ho2; subst ho2
          refine rg_call 5 (by kernel_rfl) hoi (by rfl) (fun K hK => ?_)
          clear hoi
          go_simp
          refine Calls.mono (theirs (CE.out _ hS).2 (by omega)) ?_
          rintro e w4 ⟨A4, c4, rfl, hR4, hu4⟩
          have hW4 := HW.out.quiet (Upd.of_drew hu4)
          go_wp2_with (fail)
          refine hK.out _ _ (hW4.a.bel) (fun hS => ?_)
          clear hK K
          try simp only [Act.put, List.setIfInBounds_toArray, List.set_cons_zero, List.set_cons_succ]
          refine rg_at 6 (by decide) (fun oi hoi => ?_)
          have ho2 := hoi; simp only [List.getElem?_toArray, List.getElem?_cons_succ, List.getElem?_cons_zero, Option.some.injEq] at ho2; subst ho2
          refine rg_call 6 (by kernel_rfl) hoi (by rfl) (fun K hK => ?_)
          clear hoi
          go_simp
          refine Calls.mono (HA.out _ _ _ hW4.a.jd hR4) ?_
          rintro e w5 ⟨rfl, F5, hw5, hm5⟩
          have hb5 := hW4.b.upd hm5.upd (fun k hk hf => hW4.fg k hf hk)
          have hS5 := hW4.a.bel.trans (hm5.upd.below hW4.a.bel.size hW4.a.own)
          go_wp2_with (fail)
          refine hK.out _ _ (hS5) (fun hS => ?_)
          clear hK K
          try simp only [Act.put, List.setIfInBounds_toArray, List.set_cons_zero, List.set_cons_succ]
          refine rg_at 12 (by decide) (fun oi hoi => ?_)
          have ho2 := hoi; simp only [List.getElem?_toArray, List.getElem?_cons_succ, List.getElem?_cons_zero, Option.some.injEq] at ho2; subst ho2
          refine rg_call 12 (by kernel_rfl) hoi (by rfl) (fun K hK => ?_)
          clear hoi
          go_simp
          refine Calls.mono (HB.out _ _ _ hb5 (CE.out _ hS5).2 HNG.out) ?_
          rintro e w6 ⟨rfl, G6, hw6, hm6⟩
          have HW6 := hid (hW4.moved hw5 hm5 hw6 hm6 HOk.out.1.1 HOk.out.1.2 HOk.out.2)
          go_wp2_with (fail)
          refine hK.out _ _ (HW6.out.a.bel) (fun hS => ?_)
          clear hK K
          try simp only [Act.put, List.setIfInBounds_toArray, List.set_cons_zero, List.set_cons_succ]
          refine rg_at 13 (by decide) (fun oi hoi => ?_)
          have ho2 := hoi; simp only [List.getElem?_toArray, List.getElem?_cons_succ, List.getElem?_cons_zero, Option.some.injEq] at ho2; subst ho2
          refine rg_take (v := ?_) 13 hoi (by kernel_rfl) (by kernel_rfl) (by kernel_rfl) (fun _ _ _ h => h) (by rfl) ?_ hS ?_
          rotate_left
          · intro w _; go_simp; try with_reducible rfl
          clear hoi; try simp only [Act.put, List.setIfInBounds_toArray, List.set_cons_zero, List.set_cons_succ]
          refine rg_at 14 (by decide) (fun oi hoi => ?_)
          have ho2 := hoi; simp only [List.getElem?_toArray, List.getElem?_cons_succ, List.getElem?_cons_zero, Option.some.injEq] at ho2; subst ho2
          refine rg_take (v := ?_) 14 hoi (by kernel_rfl) (by kernel_rfl) (by kernel_rfl) (fun _ _ _ h => h) (by rfl) ?_ hS ?_
          rotate_left
          · intro w _; go_simp; try with_reducible rfl
          clear hoi; try simp only [Act.put, List.setIfInBounds_toArray, List.set_cons_zero, List.set_cons_succ]
          refine rg_at 15 (by decide) (fun oi hoi => ?_)
          have ho2 := hoi; simp only [List.getElem?_toArray, List.getElem?_cons_succ, List.getElem?_cons_zero, Option.some.injEq] at ho2; subst ho2
          refine rg_take (v := ?_) 15 hoi (by kernel_rfl) (by kernel_rfl) (by kernel_rfl) (fun _ _ _ h => h) (by rfl) ?_ hS ?_
          rotate_left
          · intro w _; go_simp; try with_reducible rfl
          clear hoi; try simp only [Act.put, List.setIfInBounds_toArray, List.set_cons_zero, List.set_cons_succ]
          refine rg_at 16 (by decide) (fun oi hoi => ?_)
          have ho2 := hoi; simp only [List.getElem?_toArray, List.getElem?_cons_succ, List.getElem?_cons_zero, Option.some.injEq] at ho2; subst ho2
          refine rg_take (v := ?_) 16 hoi (by kernel_rfl) (by kernel_rfl) (by kernel_rfl) (fun _ _ _ h => h) (by rfl) ?_ hS ?_
          rotate_left
          · intro w _; go_simp; try with_reducible rfl
          clear hoi; try simp only [Act.put, List.setIfInBounds_toArray, List.set_cons_zero, List.set_cons_succ]
          refine rg_at 17 (by decide) (fun oi hoi => ?_)
          have ho2 := hoi; simp only [List.getElem?_toArray, List.getElem?_cons_succ, List.getElem?_cons_zero, Option.some.injEq] at ho2; subst ho2
          refine rg_call 17 (by kernel_rfl) hoi (by rfl) (fun K hK => ?_)
          clear hoi
          go_simp
          refine Calls.mono (same HW6.out.a.jd HW6.out.b HOk.out.1.1) ?_
          rintro e w7 ⟨rfl, hu7⟩
          have HW7 := hid (HW6.out.quiet hu7)
          go_wp2_with (fail)
          refine hK.out _ _ (HW7.out.a.bel) (fun hS => ?_)
          clear hK K
          try simp only [Act.put, List.setIfInBounds_toArray, List.set_cons_zero, List.set_cons_succ]
          refine rg_at 18 (by decide) (fun oi hoi => ?_)
          have ho2 := hoi; simp only [List.getElem?_toArray, List.getElem?_cons_succ, List.getElem?_cons_zero, Option.some.injEq] at ho2; subst ho2
          refine rg_take (v := ?_) 18 hoi (by kernel_rfl) (by kernel_rfl) (by kernel_rfl) (fun _ _ _ h => h) (by rfl) ?_ hS ?_
          rotate_left
          · intro w _; go_simp; try with_reducible rfl
          clear hoi; try simp only [Act.put, List.setIfInBounds_toArray, List.set_cons_zero, List.set_cons_succ]
          refine rg_at 19 (by decide) (fun oi hoi => ?_)
          have ho2 := hoi; simp only [List.getElem?_toArray, List.getElem?_cons_succ, List.getElem?_cons_zero, Option.some.injEq] at ho2; subst ho2
          refine rg_take (v := ?_) 19 hoi (by kernel_rfl) (by kernel_rfl) (by kernel_rfl) (fun _ _ _ h => h) (by rfl) ?_ hS ?_
          rotate_left
          · intro w _; go_simp; try with_reducible rfl
          clear hoi; try simp only [Act.put, List.setIfInBounds_toArray, List.set_cons_zero, List.set_cons_succ]
          refine wpAnyH_done (by kernel_rfl) ?_ _
          clear hR4 hu4 hW4 hw5 hm5 hb5 hS5 hw6 hm6 hu7 hS
          go_wp2
          go_roundw
          case rel => exact ⟨j + 1, F5, G6, s5, by omega, by go_num, HW7⟩
          case measure => simp [intOf]; omega
        · obtain rfl : j = ys.length := by omega
          have HE := hid HW.out.a.bel
          go_wp2
          go_ret
          exact ⟨rfl, HE.out⟩
end Go.Proofs.Ytjhmmffejfomkaa.Jn
