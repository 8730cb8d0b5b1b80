/-
  The walk of RemindOrder.
-/
import Derived.Test.YtlicimkpgnemeaaNa
set_option linter.unusedVariables false
set_option linter.unusedSimpArgs false
namespace Go.Proofs.Ytlicimkpgnemeaa.Nd
open Go.RowKit Go.Proofs.Ytlicimkpgnemeaa.B Go.Proofs.Ytlicimkpgnemeaa.Op
theorem bl_asym {x y : ByteArray} (h : bl x y = true) : bl y x = false := by
  cases h2 : bl y x
  · rfl
  · have := bl_trans h h2
    rw [bl_irrefl] at this
    cases this
theorem bl_ne {x y : ByteArray} (h : bl x y = true) : be y x = false := by
  rw [be_false]
  rintro rfl
  rw [bl_irrefl] at h
  cases h
theorem next_after {r : Rm} {t : List Rm} (h : Inv (r :: t)) : ∀ x ∈ nextR (r :: t) r, less r x = true := by
  have ho := (h.ok r List.mem_cons_self).r
  have hs := (List.pairwise_cons.1 h.srt).1
  unfold nextR
  rw [del_head h.unq]
  intro x hx
  split at hx
  · rcases mem_ins.1 hx with hx | rfl
    · exact hs x hx
    · rw [less_iff]
      left
      simp only
      omega
  · exact hs x hx
theorem serve_facts {l : List Rm} {now : Int} {r : Rm} (hi : Inv l) (hd : dueR l now = some r) : (serveR l now) = (some r, nextR l r) ∧ r ∈ l ∧ ¬ now < r.due ∧ ∀ x ∈ nextR l r, less r x = true := by
  obtain ⟨t, rfl, h⟩ := due_mem hd
  refine ⟨?_, List.mem_cons_self, h, next_after hi⟩
  unfold serveR
  rw [hd]
/-- The last one that was served, in its box. -/
structure Lst (w W : World) (F : Nat → Prop) (q p : Nat) (l : List Rm) (x : Rm) : Prop where
  pq : Pq w W F q l
  blk : Blk W p 30 #[.string x.actor, .string x.name, .int .i64 x.due, .int .i64 x.per, .int .i64 x.kind]
  nf : ¬ F p
  new : w.heap.size ≤ p
  ord : ∀ y ∈ l, less x y = true
theorem Lst.put {w W W1 : World} {F F' : Nat → Prop} {q p : Nat} {l l' : List Rm} {x r : Rm} (h : Lst w W F q p l x) (hp : Pq w W1 F' q l') (hm : Mv F F' W W1) (o : Obj) (ho : ∀ y ∈ l', less r y = true) : Lst w (put5 (W1.alloc o) p r) F' q p l' r := by
  have hnf : ¬ F' p := fun hf => (hm.sub p hf).elim h.nf fun h1 => by have := h.blk.lt; omega
  have hb : Blk (W1.alloc o) p 30 #[.string x.actor, .string x.name, .int .i64 x.due, .int .i64 x.per, .int .i64 x.kind] := (h.blk.upd hm.upd h.nf).alloc o
  have hp1 := hp.quiet ((Upd.refl No W1).alloc o)
  have hu := put5_upd (W1.alloc o) p r
  exact ⟨⟨hp1.qo.upd hu fun k hk e => hnf (e ▸ hk), hp1.inv, hp1.own, hp1.bel.trans (hu.below hp1.bel.size fun k hk => hk ▸ h.new)⟩, put5_blk hb r, hnf, h.new, ho⟩
set_option maxHeartbeats 4000000 in
set_option maxRecDepth 100000 in
theorem order_law (A : Option Addr) (c : Nat) (xs : List Rm) (now : Int) (w : World) (hr : Rd w 5 A xs.length (xs.flatMap rc)) (hx : xs.length ≤ maxLen ∧ ∀ x ∈ xs, Rg x) :
    Calls Try.prog 3 #[.slice A xs.length c, .int .i64 now] w fun e w' => e = .returned (.bool true) ∧ Below w.heap.size w w' := by
  have hl1 : xs.length ≤ 9223372036854775807 := by have := hx.1; simp only [maxLen] at this; omega
  have HX := hid hx.2
  have HRx := hid fun W (hu : Below w.heap.size w W) => Rd.upd hr (by omega) (Upd.of_below No hu) fun _ _ => no_ _
  clear hx hr
  by_cases h20 : (100 : Int) < (xs.length : Int)
  · go_enter Try.func3, Try.ntmps3
    go_wp2_with (fail)
    refine Calls.mono (awake w) ?_
    rintro e w1 ⟨rfl, hb1⟩
    have HB1 := hid hb1
    clear hb1
    go_wp2_with (fail)
    refine Calls.mono (awake w1) ?_
    rintro e w2 ⟨rfl, hb2⟩
    have HB2 := hid (HB1.out.trans (hb2.mono HB1.out.size))
    clear hb2
    go_wp2
    go_ret
    exact ⟨rfl, HB2.out⟩
  have hxn : xs.length ≤ 100 := by omega
  have HSt := hid fun (W : World) (F : Nat → Prop) (q : Nat) (l : List Rm) (r : Rm) (h : Pq w W F q l) (hr : I64 r.due ∧ I64 r.per ∧ I64 r.kind) => set_pq h r hr
  unfold rv at HSt
  go_enter Try.func3, Try.ntmps3
  go_wp2_with (fail)
  refine (awake w).mono ?_
  rintro e w1 ⟨rfl, hb1⟩
  have HP := hid (Pq.new hb1)
  go_wp2_with (fail)
  refine (new_ w1).mono ?_
  rintro e w2 ⟨rfl, rfl⟩
  obtain ⟨q, hq⟩ : ∃ q, q = w1.heap.size := ⟨_, rfl⟩
  rw [← hq] at HP ⊢
  clear hq hb1
  go_wp2_with (fail)
  go_loopw [22] (fun v22 W => ∃ (j : Nat) (F : Nat → Prop) (l : List Rm), j ≤ xs.length ∧ v22 = .int .i64 j ∧ Hid (Pq w W F q l)) (fun v22 _ => xs.length - (intOf v22).toNat)
  case atStart => exact ⟨0, _, _, by omega, rfl, hid HP.out⟩
  case round =>
    clear HP
    obtain ⟨j, F, l, hj, rfl, HW⟩ := hrel
    by_cases hlt : j < xs.length
    · have hj2 : (j : Int) < (xs.length : Int) := by omega
      have hj1 : (0 : Int) ≤ (j : Int) := by omega
      obtain ⟨ad, rfl, hat⟩ := rm_at (HRx.out wr HW.out.bel) hlt
      have hrg := HX.out _ (List.getElem_mem hlt)
      generalize xs[j] = x at *
      obtain ⟨ac, an, du, ap, ak⟩ := x
      obtain ⟨x0, x1, x2, x3, x4⟩ := hat
      simp only at x0 x1 x2 x3 x4
      have hst := HSt.out (wr.alloc (.cells #[.string ac, .string an, .int .i64 du, .int .i64 9223372036854775807, .int .i64 ak] 27)) F q l ⟨ac, an, du, 9223372036854775807, ak⟩ (HW.out.quiet ((Upd.refl No wr).alloc _)) ⟨hrg.1, by unfold I64; simp only; omega, hrg.2.2⟩
      simp only at hst
      have HS := hid hst
      have HBl := hid fun o => (HW.out.quiet ((Upd.refl No wr).alloc o)).bel
      clear hst hrg
      by_cases h1 : 1000 < an.size
      · have h1' : (1000 : Int) < (an.size : Int) := by omega
        go_wp2
        go_ret
        exact ⟨rfl, HBl.out _⟩
      · have h1' : ¬ (1000 : Int) < (an.size : Int) := by omega
        by_cases h2 : 1000 < ac.size
        · have h2' : (1000 : Int) < (ac.size : Int) := by omega
          go_wp2
          go_ret
          exact ⟨rfl, HBl.out _⟩
        · have h2' : ¬ (1000 : Int) < (ac.size : Int) := by omega
          go_wp2_with (fail)
          refine HS.out.mono ?_
          rintro e w3 ⟨rfl, F3, hp3, _⟩
          have HN := hid hp3
          clear hp3 HS
          go_wp2
          go_roundw
          case rel => exact ⟨j + 1, F3, _, by omega, by go_num, HN⟩
          case measure => simp [intOf]; omega
    · obtain rfl : j = xs.length := by omega
      obtain ⟨wo, rfl⟩ : ∃ wo : World, wo = wr := ⟨_, rfl⟩
      have HL0 : Hid (∃ W p, W = wo.alloc (.cells #[.string ⟨#[]⟩, .string ⟨#[]⟩, .int .i64 (-1), .int .i64 0, .int .i64 0] 30) ∧ p = wo.heap.size ∧ Lst w W F q p l ⟨se, se, -1, 0, 0⟩) := hid ⟨_, _, rfl, rfl, HW.out.quiet ((Upd.refl No wo).alloc _), Blk.fresh _ _ _, fun hf => by have := HW.out.qo.lt _ hf; omega, HW.out.bel.size, fun y hy => by
        have := (HW.out.inv.ok y hy).r.1
        rw [less_iff]
        left
        simp only
        omega⟩
      clear HW
      go_wp2_with (fail)
      obtain ⟨wi, p, hwi, hp, hl0⟩ := HL0.out
      rw [← hwi]
      try rw [← hp]
      have HLs := hid hl0
      clear hwi hp hl0 HL0
      go_loopw [45] (fun v45 W => ∃ (j : Nat) (F : Nat → Prop) (l : List Rm) (x : Rm), j ≤ 200 ∧ v45 = .int .i64 j ∧ Hid (Lst w W F q p l x)) (fun v45 _ => 200 - (intOf v45).toNat)
      case atStart => exact ⟨0, F, l, _, by omega, rfl, hid HLs.out⟩
      case round =>
        clear HLs
        obtain ⟨j, F, l, x, hj, rfl, HW⟩ := hrel
        by_cases hlt : j < 200
        · have hj2 : (j : Int) < 200 := by omega
          have hsv := serve_pq HW.out.pq now
          rcases hd : dueR l now with _ | r
          · have hs : serveR l now = (none, l) := by unfold serveR; rw [hd]
            rw [hs] at hsv
            simp only [tell, rv, zr, Option.getD_none, Option.isSome_none] at hsv
            have HV := hid hsv
            clear hs hsv hd
            go_wp2_with (fail)
            refine HV.out.mono ?_
            rintro e w4 ⟨rfl, F4, hp4, _⟩
            have HB := hid fun o => (hp4.quiet ((Upd.refl No w4).alloc o)).bel
            clear hp4 HV
            go_wp2
            go_ret
            exact ⟨rfl, HB.out _⟩
          · obtain ⟨hs, hmem, hnow, haft⟩ := serve_facts HW.out.pq.inv hd
            rw [hs] at hsv
            simp only [tell, rv, Option.getD_some, Option.isSome_some] at hsv
            have HV := hid hsv
            have hls := less_iff.1 (HW.out.ord r hmem)
            have HA := hid haft
            obtain ⟨ac, an, du, ap, ak⟩ := r
            obtain ⟨lc, ln, ld, lp, lk⟩ := x
            simp only at HV hnow hls
            clear hs hsv hd hmem haft
            go_wp2_with (fail)
            refine HV.out.mono ?_
            rintro e w4 ⟨rfl, F4, hp4, hm4⟩
            have HN := hid (HW.out.put hp4 hm4 (.cells #[.string ac, .string an, .int .i64 du, .int .i64 ap, .int .i64 ak] 30) HA.out)
            have hb4 := (HW.out.blk.upd hm4.upd HW.out.nf).alloc (.cells #[.string ac, .string an, .int .i64 du, .int .i64 ap, .int .i64 ak] 30)
            obtain ⟨y0, y1, y2, y3, y4⟩ := box5 hb4
            simp only at y0 y1 y2 y3 y4
            have g0 := hb4.free 0
            have g1 := hb4.free 1
            have g2 := hb4.free 2
            have g3 := hb4.free 3
            have g4 := hb4.free 4
            simp only [put5] at HN
            clear hp4 hm4 hb4 HV HA
            rcases hls with h | ⟨rfl, h | ⟨rfl, h⟩⟩
            · have h1 : ¬ du < ld := by omega
              have h2 : (du == ld) = false := by rw [beq_eq_false_iff_ne]; omega
              go_wp2
              go_roundw
              case rel => exact ⟨j + 1, F4, _, _, by omega, by go_num, HN⟩
              case measure => simp [intOf]; omega
            · have h1 : Op.bytesLess ac.toList lc.toList = false := bl_asym h
              have h2 : (ac.toList == lc.toList) = false := bl_ne h
              go_wp2
              go_roundw
              case rel => exact ⟨j + 1, F4, _, _, by omega, by go_num, HN⟩
              case measure => simp [intOf]; omega
            · have h1 : Op.bytesLess lc.toList lc.toList = false := bl_irrefl lc
              have h2 : (an.toList == ln.toList) = false := bl_ne h
              have h3 : Op.bytesLess an.toList ln.toList = false := bl_asym h
              have hleq : ∀ t, binOp .leq t (.string an) (.string ln) = pure (.bool false) := fun t => by simp [binOp, Op.stringOp, h2, h3]
              go_wp2
              go_roundw
              case rel => exact ⟨j + 1, F4, _, _, by omega, by go_num, HN⟩
              case measure => simp [intOf]; omega
        · obtain rfl : j = 200 := by omega
          have HB := hid HW.out.pq.bel
          go_wp2
          go_ret
          exact ⟨rfl, HB.out⟩
end Go.Proofs.Ytlicimkpgnemeaa.Nd
