/-
  The walk of ActivPlays.
-/
import Derived.Test.YtdhgeakdfbckeaaAl
set_option linter.unusedVariables false
set_option linter.unusedSimpArgs false
namespace Go.Proofs.Ytdhgeakdfbckeaa.At
open Go.RowKit Go.Proofs.Ytdhgeakdfbckeaa Go.Proofs.Ytdhgeakdfbckeaa.B Go.Proofs.Ytdhgeakdfbckeaa.Df Go.Proofs.Ytdhgeakdfbckeaa.Op
set_option maxHeartbeats 4000000 in
set_option maxRecDepth 100000 in
theorem law_plays (r : Int) (A : Option Addr) (c : Nat) (xs : List Od) (z : Bool) (w : World) (hr : Rd w 2 A xs.length (xs.flatMap odc)) (hl : xs.length ≤ maxLen) :
    Calls Try.prog 3 #[.int .i64 r, .slice A xs.length c, .bool z] w fun e w' => e = .returned (.bool true) ∧ Below w.heap.size w w' := by
  simp only [maxLen] at hl
  by_cases h300 : 300 < xs.length
  · have h300' : (300 : Int) < (xs.length : Int) := by omega
    go_enter Try.func3, Try.ntmps3
    go_wp2_with (fail)
    refine Calls.mono (awake w) ?_
    rintro e w1 ⟨rfl, hb1⟩
    have HB1 := hid hb1
    clear hb1
    go_wp2_with (fail)
    refine Calls.mono (awake w1) ?_
    rintro e w2 ⟨rfl, hb2⟩
    have HB2 := hid (HB1.out.trans (hb2.mono HB1.out.size))
    clear hb2
    go_wp2
    go_ret
    exact ⟨rfl, HB2.out⟩
  have hx300 : ¬ (300 : Int) < (xs.length : Int) := by omega
  clear h300
  go_enter Try.func3, Try.ntmps3
  go_wp2_with (fail)
  refine Calls.mono (awake w) ?_
  rintro e w1 ⟨rfl, hb1⟩
  have HB1 := hid hb1
  clear hb1
  go_wp2_with (fail)
  refine Calls.mono (new2 r w w1 HB1.out) ?_
  rintro e w2 ⟨rfl, hO2, hu2⟩
  have HO2 := hid (And.intro hO2 hu2)
  clear hO2 hu2
  go_wp2_with (fail)
  refine Calls.mono (rnew_ r w2) ?_
  rintro e w3 ⟨rfl, hT3, hu3⟩
  cases z
  case' false =>
    have HS0 : Hid (∃ (F0 G0 : Nat → Prop) (p q : Nat) (room : Int), Bo w w3 F0 p room G0 q [] ∧ w1.heap.size = p ∧ w2.heap.size = q) :=
      hid ⟨_, _, _, _, clip r, ⟨HO2.out.1.quiet hu3, by rw [mst_clip]; exact hT3, fun k hk hg => by have := HO2.out.1.ta.lt k hk; omega, fun k hk => by have := HO2.out.1.bel.size; omega, by rw [mst_clip]; exact (clip_le r).2⟩, rfl, rfl⟩
    clear hT3 hu3
    go_wp2_with (fail)
  case' true =>
    have HO3 := hid (And.intro (HO2.out.1.quiet hu3).bel hu3.size)
    have E1 : Hid (clip 1 = mst 0) := hid (by decide)
    have hRN := rnew_ 1 (w3.alloc (.cells #[.int .i64 0, .slice none 0 0] 30))
    rw [E1.out] at hRN
    have HT0 := hid (Ta.new (w := w3) (room := 0) (o := .cells #[.int .i64 0, .slice none 0 0] 30) rfl)
    have hu0 : Upd No w3 (w3.alloc (.cells #[.int .i64 0, .slice none 0 0] 30)) := (Upd.refl _ _).alloc _
    clear hT3 hu3
    go_wp2_with (fail)
    refine Calls.mono hRN ?_
    rintro e w4 ⟨rfl, hT4, hu4⟩
    have HS0 : Hid (∃ (F0 G0 : Nat → Prop) (p q : Nat) (room : Int), Bo w w4 F0 p room G0 q [] ∧ w3.heap.size = p ∧ w3.heap.size + 1 = q) :=
      hid ⟨fun k => k = w3.heap.size, fun k => k = w3.heap.size + 1, w3.heap.size, w3.heap.size + 1, 0, ⟨⟨HT0.out.upd hu4 fun _ _ => no_ _, fun k hk => by rw [hk]; exact HO3.out.1.size, HO3.out.1.trans ((hu0.next hu4).old HO3.out.1.size), by simp⟩, by simpa using hT4, fun k hk hg => by omega, fun k hk => by have := HO3.out.1.size; omega, by decide⟩, rfl, by simp⟩
    clear hT4 hu4 hu0 HT0 hRN
    go_wp2_with (fail)
    clear HO3
    obtain ⟨w3, rfl⟩ : ∃ w', w' = w4 := ⟨_, rfl⟩
  all_goals
    obtain ⟨F0, G0, p, q, room, hS, hp, hq⟩ := HS0.out
    try simp only [hq]
    try simp only [hp]
    have HSt := hid hS
    clear hp hq hS HS0 HO2
    go_loopw [33] (fun v33 W => ∃ (j : Nat) (F G : Nat → Prop) (x : List ByteArray), j ≤ xs.length ∧ v33 = .int .i64 j ∧ Hid (Bo w W F p room G q x)) (fun v33 _ => xs.length - (intOf v33).toNat)
    case atStart => exact ⟨0, F0, G0, [], by omega, rfl, HSt⟩
    case round =>
      clear HSt F0 G0
      obtain ⟨j, F, G, x, hj, rfl, HW⟩ := hrel
      by_cases hlt : j < xs.length
      · obtain ⟨ad, rfl, x0, x1⟩ := od_at hr hlt
        generalize xs[j] = e0 at *
        obtain ⟨kd, k⟩ := e0
        simp only at x0 x1
        have CE : Hid (∀ W, Below w.heap.size w W → W.cell? (ad.add (j * 2)) = some (.int .i64 kd) ∧ W.cell? ⟨(ad.add (j * 2)).block, (ad.add (j * 2)).off + 1, none⟩ = some (.string k)) := hid fun W hb =>
          ⟨(hb.cell (World.block_lt_of_cell? _ _ x0)).trans x0, (hb.cell (World.block_lt_of_cell? _ _ x1)).trans x1⟩
        have hj1 : (0 : Int) ≤ (j : Int) := by omega
        have hj2 : (j : Int) < (xs.length : Int) := by omega
        clear x0 x1
        obtain ⟨y0, y1⟩ := CE.out wr HW.out.a.bel
        have hle := HW.out.a.le
        have hmm := HW.out.mm
        have hEND : Hid (∀ (W : World) (F' G' : Nat → Prop) (y : List ByteArray), Bo w W F' p room G' q y → y.length ≤ 10000) := hid fun W F' G' y h => h.a.le
        by_cases hk1 : kd = 1
        case' pos =>
          subst hk1
          have hL := touchX_le x (mst room) k hmm hle
          have hA := touch k HW.out.a.ta hle
          have hB := fun W (h : Tb W G q (mst room) x) => rtouch k h hle
          unfold TouchOut at hA
          unfold RTouch at hB
          generalize touchX x (mst room) k = rr at *
          obtain ⟨y, g, b⟩ := rr
          simp only at hA hB hL
          have HA := hid hA
          have HB := hid hB
          clear hA hB
          go_wp2_with (fail)
          refine Calls.mono HA.out ?_
          rintro e w4 ⟨rfl, F4, hw4, hm4⟩
          have HM4 := hid (And.intro hw4 hm4)
          have HT4 := hid (HW.out.b.upd hm4.upd (fun k hk hf => HW.out.fg k hf hk))
          clear hw4 hm4
          go_wp2_with (fail)
          refine Calls.mono (HB.out _ HT4.out) ?_
          rintro e w5 ⟨rfl, G5, hw5, hm5⟩
          have HW5 := hid (HW.out.moved HM4.out.1 HM4.out.2 hw5 hm5 hL)
          clear hw5 hm5 HM4 HT4 HA HB hL
          go_wp2_with (fail)
        case' neg =>
          have n1 : (kd == 1) = false := by simp [hk1]
          by_cases hk2 : kd = 2
          case' pos =>
            subst hk2
            have hL : (strike x k).length ≤ 10000 := Nat.le_trans (strike_le x k) hle
            have hA := drop k HW.out.a.ta
            have hB := fun W (h : Tb W G q (mst room) x) => rdrop k h (by omega)
            unfold RDrop at hB
            generalize strike x k = y at *
            generalize hasK x k = b at *
            have HA := hid hA
            have HB := hid hB
            clear hA hB n1 hk1
            go_wp2_with (fail)
            refine Calls.mono HA.out ?_
            rintro e w4 ⟨rfl, hw4, hu4⟩
            have HM4 := hid (And.intro hw4 (⟨hu4, fun k hk => .inl hk⟩ : Mv F F wr w4))
            have HT4 := hid (HW.out.b.upd hu4 (fun k hk hf => HW.out.fg k hf hk))
            clear hw4 hu4
            go_wp2_with (fail)
            refine Calls.mono (HB.out _ HT4.out) ?_
            rintro e w5 ⟨rfl, G5, hw5, hm5⟩
            have HW5 := hid (HW.out.moved HM4.out.1 HM4.out.2 hw5 hm5 hL)
            obtain ⟨F4, rfl⟩ : ∃ F4, F4 = F := ⟨_, rfl⟩
            clear hw5 hm5 HM4 HT4 HA HB hL
            go_wp2_with (fail)
          case' neg =>
            have n2 : (kd == 2) = false := by simp [hk2]
            have HA := hid fun W (h : On w W F p room x) => has_ k h.ta
            have HB := hid fun W A' c' (h : Rd W 1 A' x.length (strs x)) => lhas (A := A') (c := c') k h (by omega)
            obtain ⟨v, bq, sq, fq, fv, ltq⟩ := HW.out.b
            obtain ⟨Aq, cq, rfl, hcq1, hcq2⟩ := sq.shape
            have HQ := hid (And.intro bq (Sl.rd sq))
            generalize hasK x k = b at *
            clear bq sq fq fv ltq hk1 hk2
            go_wp2_with (fail)
            refine wp_region_held_drew (S := fun W => Upd No wr W) (by kernel_rfl) (Upd.refl No wr).drew (fun hS => ?_)
            refine rg_at 0 (by decide) (fun oi hoi => ?_)
            have ho2 := hoi; simp only [List.getElem?_toArray, List.getElem?_cons_succ, List.getElem?_cons_zero, Option.some.injEq] at ho2; subst ho2
            refine rg_take (v := ?_) 0 hoi (by kernel_rfl) (by kernel_rfl) (by kernel_rfl) (fun _ _ _ h => h) (by rfl) ?_ hS ?_
            rotate_left
            · intro w _; go_simp; try with_reducible rfl
            clear hoi; try simp only [Act.put, List.setIfInBounds_toArray, List.set_cons_zero, List.set_cons_succ]
            refine rg_at 1 (by decide) (fun oi hoi => ?_)
            have ho2 := hoi; simp only [List.getElem?_toArray, List.getElem?_cons_succ, List.getElem?_cons_zero, Option.some.injEq] at ho2; subst ho2
            refine rg_take (v := ?_) 1 hoi (by kernel_rfl) (by kernel_rfl) (by kernel_rfl) (fun _ _ _ h => h) (by rfl) ?_ hS ?_
            rotate_left
            · intro w _; go_simp; try with_reducible rfl
            clear hoi; try simp only [Act.put, List.setIfInBounds_toArray, List.set_cons_zero, List.set_cons_succ]
            refine rg_at 3 (by decide) (fun oi hoi => ?_)
            have ho2 := hoi; simp only [List.getElem?_toArray, List.getElem?_cons_succ, List.getElem?_cons_zero, Option.some.injEq] at ho2; subst ho2
            refine rg_take (v := ?_) 3 hoi (by kernel_rfl) (by kernel_rfl) (by kernel_rfl) (fun _ _ _ h => h) (by rfl) ?_ hS ?_
            rotate_left
            · intro w _; go_simp; try with_reducible rfl
            clear hoi; try simp only [Act.put, List.setIfInBounds_toArray, List.set_cons_zero, List.set_cons_succ]
            refine rg_at 4 (by decide) (fun oi hoi => ?_)
            have ho2 := hoi; simp only [List.getElem?_toArray, List.getElem?_cons_succ, List.getElem?_cons_zero, Option.some.injEq] at ho2; subst ho2
            refine rg_take (v := ?_) 4 hoi (by kernel_rfl) (by kernel_rfl) (by kernel_rfl) (fun _ _ _ h => h) (by rfl) ?_ hS ?_
            rotate_left
            · intro w _; go_simp; try with_reducible rfl
            clear hoi; try simp only [Act.put, List.setIfInBounds_toArray, List.set_cons_zero, List.set_cons_succ]
            refine rg_at 5 (by decide) (fun oi hoi => ?_)
            have ho2 := hoi; simp only [List.getElem?_toArray, List.getElem?_cons_succ, List.getElem?_cons_zero, Option.some.injEq] at ho2; subst ho2
            refine rg_take (v := ?_) 5 hoi (by kernel_rfl) (by kernel_rfl) (by kernel_rfl) (fun _ _ _ h => h) (by rfl) ?_ hS ?_
            rotate_left
            · intro w _; go_simp; try with_reducible rfl
            clear hoi; try simp only [Act.put, List.setIfInBounds_toArray, List.set_cons_zero, List.set_cons_succ]
            refine rg_at 6 (by decide) (fun oi hoi => ?_)
            have ho2 := hoi; simp only [List.getElem?_toArray, List.getElem?_cons_succ, List.getElem?_cons_zero, Option.some.injEq] at ho2; subst ho2
            refine rg_take (v := ?_) 6 hoi (by kernel_rfl) (by kernel_rfl) (by kernel_rfl) (fun _ _ _ h => h) (by rfl) ?_ hS ?_
            rotate_left
            · intro w hw; have hf := (box2 (HQ.out.1.upd hw (no_ _))).2; clear hw; go_simp; try with_reducible rfl
            clear hoi; try simp only [Act.put, List.setIfInBounds_toArray, List.set_cons_zero, List.set_cons_succ]
            refine rg_at 7 (by decide) (fun oi hoi => ?_)
            have ho2 := hoi; simp only [List.getElem?_toArray, List.getElem?_cons_succ, List.getElem?_cons_zero, Option.some.injEq] at ho2; subst ho2
            refine rg_take (v := ?_) 7 hoi (by kernel_rfl) (by kernel_rfl) (by kernel_rfl) (fun _ _ _ h => h) (by rfl) ?_ hS ?_
            rotate_left
            · intro w _; go_simp; try with_reducible rfl
            clear hoi; try simp only [Act.put, List.setIfInBounds_toArray, List.set_cons_zero, List.set_cons_succ]
            refine rg_at 2 (by decide) (fun oi hoi => ?_)
            have ho2 := hoi; simp only [List.getElem?_toArray, List.getElem?_cons_succ, List.getElem?_cons_zero, Option.some.injEq] at ho2; subst ho2
            refine rg_call 2 (by kernel_rfl) hoi (by rfl) (fun K hK => ?_)
            clear hoi
            go_simp
            refine Calls.mono (HA.out _ (HW.out.a.quiet hS)) ?_
            rintro e w' ⟨rfl, rfl⟩
            go_wp2_with (fail)
            refine hK.out _ _ ((by exact hS)) (fun hS => ?_)
            clear hK K
            try simp only [Act.put, List.setIfInBounds_toArray, List.set_cons_zero, List.set_cons_succ]
            refine rg_at 8 (by decide) (fun oi hoi => ?_)
            have ho2 := hoi; simp only [List.getElem?_toArray, List.getElem?_cons_succ, List.getElem?_cons_zero, Option.some.injEq] at ho2; subst ho2
            refine rg_call 8 (by kernel_rfl) hoi (by rfl) (fun K hK => ?_)
            clear hoi
            go_simp
            refine Calls.mono (HB.out _ _ _ (HQ.out.2.upd (by omega) hS (fun _ _ => no_ _))) ?_
            rintro e w' ⟨rfl, rfl⟩
            go_wp2_with (fail)
            refine hK.out _ _ ((by exact hS)) (fun hS => ?_)
            clear hK K
            try simp only [Act.put, List.setIfInBounds_toArray, List.set_cons_zero, List.set_cons_succ]
            refine rg_at 9 (by decide) (fun oi hoi => ?_)
            have ho2 := hoi; simp only [List.getElem?_toArray, List.getElem?_cons_succ, List.getElem?_cons_zero, Option.some.injEq] at ho2; subst ho2
            refine rg_take (v := ?_) 9 hoi (by kernel_rfl) (by kernel_rfl) (by kernel_rfl) (fun _ _ _ h => h) (by rfl) ?_ hS ?_
            rotate_left
            · intro w _; go_simp; try with_reducible rfl
            clear hoi; try simp only [Act.put, List.setIfInBounds_toArray, List.set_cons_zero, List.set_cons_succ]
            refine wpAnyH_done (by kernel_rfl) ?_ _
            have HW5 := hid (HW.out.quiet hS)
            obtain ⟨F4, rfl⟩ : ∃ F4, F4 = F := ⟨_, rfl⟩
            obtain ⟨G5, rfl⟩ : ∃ G5, G5 = G := ⟨_, rfl⟩
            obtain ⟨y, rfl⟩ : ∃ y, y = x := ⟨_, rfl⟩
            clear hS HA HB HQ
            generalize wr.drew = w5 at *
            go_wp2_with (fail)
        all_goals
          have HL := hid fun W (h : Upd No w5 W) => list_ (HW5.out.quiet h).a.ta (by have := (HW5.out.quiet h).a.le; omega)
          obtain ⟨va, ba, _⟩ := HW5.out.a.ta
          have HBA := hid ba
          have hyl := HW5.out.a.le
          obtain ⟨v, bq, sq, fq, fv, ltq⟩ := HW5.out.b
          obtain ⟨Aq, cq, rfl, hcq1, hcq2⟩ := sq.shape
          have HQ := hid (And.intro bq (Sl.rd sq))
          clear ba bq sq fq fv ltq
          refine wp_region_held_drew (S := fun W => Upd No w5 W) (by kernel_rfl) (Upd.refl No w5).drew (fun hS => ?_)
          refine rg_at 0 (by decide) (fun oi hoi => ?_)
          have ho2 := hoi; simp only [List.getElem?_toArray, List.getElem?_cons_succ, List.getElem?_cons_zero, Option.some.injEq] at ho2; subst ho2
          refine rg_take (v := ?_) 0 hoi (by kernel_rfl) (by kernel_rfl) (by kernel_rfl) (fun _ _ _ h => h) (by rfl) ?_ hS ?_
          rotate_left
          · intro w _; go_simp; try with_reducible rfl
          clear hoi; try simp only [Act.put, List.setIfInBounds_toArray, List.set_cons_zero, List.set_cons_succ]
          refine rg_at 2 (by decide) (fun oi hoi => ?_)
          have ho2 := hoi; simp only [List.getElem?_toArray, List.getElem?_cons_succ, List.getElem?_cons_zero, Option.some.injEq] at ho2; subst ho2
          refine rg_take (v := ?_) 2 hoi (by kernel_rfl) (by kernel_rfl) (by kernel_rfl) (fun _ _ _ h => h) (by rfl) ?_ hS ?_
          rotate_left
          · intro w _; go_simp; try with_reducible rfl
          clear hoi; try simp only [Act.put, List.setIfInBounds_toArray, List.set_cons_zero, List.set_cons_succ]
          refine rg_at 3 (by decide) (fun oi hoi => ?_)
          have ho2 := hoi; simp only [List.getElem?_toArray, List.getElem?_cons_succ, List.getElem?_cons_zero, Option.some.injEq] at ho2; subst ho2
          refine rg_take (v := ?_) 3 hoi (by kernel_rfl) (by kernel_rfl) (by kernel_rfl) (fun _ _ _ h => h) (by rfl) ?_ hS ?_
          rotate_left
          · intro w _; go_simp; try with_reducible rfl
          clear hoi; try simp only [Act.put, List.setIfInBounds_toArray, List.set_cons_zero, List.set_cons_succ]
          refine rg_at 4 (by decide) (fun oi hoi => ?_)
          have ho2 := hoi; simp only [List.getElem?_toArray, List.getElem?_cons_succ, List.getElem?_cons_zero, Option.some.injEq] at ho2; subst ho2
          refine rg_take (v := ?_) 4 hoi (by kernel_rfl) (by kernel_rfl) (by kernel_rfl) (fun _ _ _ h => h) (by rfl) ?_ hS ?_
          rotate_left
          · intro w _; go_simp; try with_reducible rfl
          clear hoi; try simp only [Act.put, List.setIfInBounds_toArray, List.set_cons_zero, List.set_cons_succ]
          refine rg_at 5 (by decide) (fun oi hoi => ?_)
          have ho2 := hoi; simp only [List.getElem?_toArray, List.getElem?_cons_succ, List.getElem?_cons_zero, Option.some.injEq] at ho2; subst ho2
          refine rg_take (v := ?_) 5 hoi (by kernel_rfl) (by kernel_rfl) (by kernel_rfl) (fun _ _ _ h => h) (by rfl) ?_ hS ?_
          rotate_left
          · intro w hw; have hf := (box2 (HQ.out.1.upd hw (no_ _))).2; clear hw; go_simp; try with_reducible rfl
          clear hoi; try simp only [Act.put, List.setIfInBounds_toArray, List.set_cons_zero, List.set_cons_succ]
          refine rg_at 1 (by decide) (fun oi hoi => ?_)
          have ho2 := hoi; simp only [List.getElem?_toArray, List.getElem?_cons_succ, List.getElem?_cons_zero, Option.some.injEq] at ho2; subst ho2
          refine rg_call 1 (by kernel_rfl) hoi (by rfl) (fun K hK => ?_)
          clear hoi
          go_simp
          refine Calls.mono (HL.out _ hS) ?_
          rintro e w6 ⟨A6, c6, rfl, ho6, hu6⟩
          have hS6 := Upd.next hS hu6
          go_wp2_with (fail)
          refine hK.out _ _ ((by exact hS6)) (fun hS => ?_)
          clear hK K
          try simp only [Act.put, List.setIfInBounds_toArray, List.set_cons_zero, List.set_cons_succ]
          refine rg_at 6 (by decide) (fun oi hoi => ?_)
          have ho2 := hoi; simp only [List.getElem?_toArray, List.getElem?_cons_succ, List.getElem?_cons_zero, Option.some.injEq] at ho2; subst ho2
          refine rg_call 6 (by kernel_rfl) hoi (by rfl) (fun K hK => ?_)
          clear hoi
          go_simp
          refine Calls.mono (same03 (c := c6) (d := cq) (Rd.of_own ho6) (HQ.out.2.upd (by omega) hS (fun _ _ => no_ _)) (by omega)) ?_
          rintro e w7 ⟨rfl, hu7⟩
          have hS7 := Upd.next hS hu7
          go_wp2_with (fail)
          refine hK.out _ _ ((by exact hS7)) (fun hS => ?_)
          clear hK K
          try simp only [Act.put, List.setIfInBounds_toArray, List.set_cons_zero, List.set_cons_succ]
          refine rg_at 7 (by decide) (fun oi hoi => ?_)
          have ho2 := hoi; simp only [List.getElem?_toArray, List.getElem?_cons_succ, List.getElem?_cons_zero, Option.some.injEq] at ho2; subst ho2
          refine rg_take (v := ?_) 7 hoi (by kernel_rfl) (by kernel_rfl) (by kernel_rfl) (fun _ _ _ h => h) (by rfl) ?_ hS ?_
          rotate_left
          · intro w _; go_simp; try with_reducible rfl
          clear hoi; try simp only [Act.put, List.setIfInBounds_toArray, List.set_cons_zero, List.set_cons_succ]
          refine rg_at 8 (by decide) (fun oi hoi => ?_)
          have ho2 := hoi; simp only [List.getElem?_toArray, List.getElem?_cons_succ, List.getElem?_cons_zero, Option.some.injEq] at ho2; subst ho2
          refine rg_take (v := ?_) 8 hoi (by kernel_rfl) (by kernel_rfl) (by kernel_rfl) (fun _ _ _ h => h) (by rfl) ?_ hS ?_
          rotate_left
          · intro w _; go_simp; try with_reducible rfl
          clear hoi; try simp only [Act.put, List.setIfInBounds_toArray, List.set_cons_zero, List.set_cons_succ]
          refine rg_at 9 (by decide) (fun oi hoi => ?_)
          have ho2 := hoi; simp only [List.getElem?_toArray, List.getElem?_cons_succ, List.getElem?_cons_zero, Option.some.injEq] at ho2; subst ho2
          refine rg_take (v := ?_) 9 hoi (by kernel_rfl) (by kernel_rfl) (by kernel_rfl) (fun _ _ _ h => h) (by rfl) ?_ hS ?_
          rotate_left
          · intro w _; go_simp; try with_reducible rfl
          clear hoi; try simp only [Act.put, List.setIfInBounds_toArray, List.set_cons_zero, List.set_cons_succ]
          refine rg_at 11 (by decide) (fun oi hoi => ?_)
          have ho2 := hoi; simp only [List.getElem?_toArray, List.getElem?_cons_succ, List.getElem?_cons_zero, Option.some.injEq] at ho2; subst ho2
          refine rg_take (v := ?_) 11 hoi (by kernel_rfl) (by kernel_rfl) (by kernel_rfl) (fun _ _ _ h => h) (by rfl) ?_ hS ?_
          rotate_left
          · intro w _; go_simp; try with_reducible rfl
          clear hoi; try simp only [Act.put, List.setIfInBounds_toArray, List.set_cons_zero, List.set_cons_succ]
          refine rg_at 12 (by decide) (fun oi hoi => ?_)
          have ho2 := hoi; simp only [List.getElem?_toArray, List.getElem?_cons_succ, List.getElem?_cons_zero, Option.some.injEq] at ho2; subst ho2
          refine rg_take (v := ?_) 12 hoi (by kernel_rfl) (by kernel_rfl) (by kernel_rfl) (fun _ _ _ h => h) (by rfl) ?_ hS ?_
          rotate_left
          · intro w _; go_simp; try with_reducible rfl
          clear hoi; try simp only [Act.put, List.setIfInBounds_toArray, List.set_cons_zero, List.set_cons_succ]
          refine rg_at 13 (by decide) (fun oi hoi => ?_)
          have ho2 := hoi; simp only [List.getElem?_toArray, List.getElem?_cons_succ, List.getElem?_cons_zero, Option.some.injEq] at ho2; subst ho2
          refine rg_take (v := ?_) 13 hoi (by kernel_rfl) (by kernel_rfl) (by kernel_rfl) (fun _ _ _ h => h) (by rfl) ?_ hS ?_
          rotate_left
          · intro w _; go_simp; try with_reducible rfl
          clear hoi; try simp only [Act.put, List.setIfInBounds_toArray, List.set_cons_zero, List.set_cons_succ]
          refine rg_at 14 (by decide) (fun oi hoi => ?_)
          have ho2 := hoi; simp only [List.getElem?_toArray, List.getElem?_cons_succ, List.getElem?_cons_zero, Option.some.injEq] at ho2; subst ho2
          refine rg_take (v := ?_) 14 hoi (by kernel_rfl) (by kernel_rfl) (by kernel_rfl) (fun _ _ _ h => h) (by rfl) ?_ hS ?_
          rotate_left
          · intro w hw; have hf := (box2 (HQ.out.1.upd hw (no_ _))).1; clear hw; go_simp; try with_reducible rfl
          clear hoi; try simp only [Act.put, List.setIfInBounds_toArray, List.set_cons_zero, List.set_cons_succ]
          refine rg_at 10 (by decide) (fun oi hoi => ?_)
          have ho2 := hoi; simp only [List.getElem?_toArray, List.getElem?_cons_succ, List.getElem?_cons_zero, Option.some.injEq] at ho2; subst ho2
          refine rg_call 10 (by kernel_rfl) hoi (by rfl) (fun K hK => ?_)
          clear hoi
          go_simp
          refine Calls.mono (most_ (HBA.out.upd hS (no_ _))) ?_
          rintro e w8 ⟨rfl, rfl⟩
          go_wp2_with (fail)
          refine hK.out _ _ ((by exact hS)) (fun hS => ?_)
          clear hK K
          try simp only [Act.put, List.setIfInBounds_toArray, List.set_cons_zero, List.set_cons_succ]
          refine rg_at 15 (by decide) (fun oi hoi => ?_)
          have ho2 := hoi; simp only [List.getElem?_toArray, List.getElem?_cons_succ, List.getElem?_cons_zero, Option.some.injEq] at ho2; subst ho2
          refine rg_take (v := ?_) 15 hoi (by kernel_rfl) (by kernel_rfl) (by kernel_rfl) (fun _ _ _ h => h) (by rfl) ?_ hS ?_
          rotate_left
          · intro w _; go_simp; try with_reducible rfl
          clear hoi; try simp only [Act.put, List.setIfInBounds_toArray, List.set_cons_zero, List.set_cons_succ]
          refine rg_at 16 (by decide) (fun oi hoi => ?_)
          have ho2 := hoi; simp only [List.getElem?_toArray, List.getElem?_cons_succ, List.getElem?_cons_zero, Option.some.injEq] at ho2; subst ho2
          refine rg_take (v := ?_) 16 hoi (by kernel_rfl) (by kernel_rfl) (by kernel_rfl) (fun _ _ _ h => h) (by rfl) ?_ hS ?_
          rotate_left
          · intro w _; go_simp; try with_reducible rfl
          clear hoi; try simp only [Act.put, List.setIfInBounds_toArray, List.set_cons_zero, List.set_cons_succ]
          refine wpAnyH_done (by kernel_rfl) ?_ _
          have HW8 := hid (HW5.out.quiet hS)
          clear hS HL HBA HQ
          go_wp2
          go_roundw
          case rel => exact ⟨j + 1, F4, G5, y, by omega, by go_num, HW8⟩
          case measure => simp [intOf]; omega
      · obtain rfl : j = xs.length := by omega
        have HE := hid HW.out.a.bel
        go_wp2
        go_ret
        exact ⟨rfl, HE.out⟩
end Go.Proofs.Ytdhgeakdfbckeaa.At
