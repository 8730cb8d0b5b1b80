/-
  The walk of reevelaw05.DiskFuses.
-/
import Derived.Test.YtehdobagglondaaDt
set_option linter.unusedVariables false
set_option linter.unusedSimpArgs false
namespace Go.Proofs.Ytehdobagglondaa.Du
open Go.RowKit Go.Proofs.Ytehdobagglondaa.B Go.Proofs.Ytehdobagglondaa.Sm Go.Proofs.Ytehdobagglondaa.Dk Go.Proofs.Ytehdobagglondaa.Dl Go.Proofs.Ytehdobagglondaa.Dt
def Wf (l : List Int) (j : Nat) : List (Nat × List Int) := (List.range j).map fun k => ((gi l k).toNat, blk ((k : Int) % 256) false)
theorem Wf_succ (l : List Int) (j : Nat) : Wf l (j + 1) = Wf l j ++ [((gi l j).toNat, blk ((j : Int) % 256) false)] := by simp [Wf, List.range_succ]
theorem Wf_length (l : List Int) (j : Nat) : (Wf l j).length = j := by simp [Wf]
/-- The disk behind i rounds. -/
def fm (n : Nat) (l : List Int) (i : Nat) : Dm := ⟨256, Wf l (min i n), if i ≤ n then (n : Int) - i else 0, decide (n < i)⟩
theorem fm_ok (n : Nat) (hn : n ≤ 255) (l : List Int) (i : Nat) : (fm n l i).ok := by
  unfold fm Dm.ok
  simp only
  split <;> omega
theorem fm_done (n : Nat) (l : List Int) (i a : Nat) (ha : gi l i = (a : Int)) (ha2 : a < 256) (h : i < n) : (fm n l i).wr a (blk ((i : Int) % 256) false) = (0, fm n l (i + 1)) := by
  have e1 : fm n l i = ⟨256, Wf l i, (n : Int) - i, false⟩ := by
    unfold fm
    rw [if_pos (by omega), show min i n = i from by omega, show decide (n < i) = false from by simp; omega]
  have e2 : fm n l (i + 1) = ⟨256, Wf l (i + 1), (n : Int) - i - 1, false⟩ := by
    unfold fm
    rw [if_pos (by omega), show min (i + 1) n = i + 1 from by omega, show decide (n < i + 1) = false from by simp; omega]
    congr 1
    omega
  rw [e1, e2, wr_ok 256 (Wf l i) _ a _ (by omega) (blk_length _) (by omega), if_pos (by omega), Wf_succ, ha, Int.toNat_natCast]
theorem fm_lost (n : Nat) (l : List Int) (i a : Nat) (ha2 : a < 256) (h : n ≤ i) : (fm n l i).wr a (blk ((i : Int) % 256) false) = (9, fm n l (i + 1)) := by
  have e2 : fm n l (i + 1) = ⟨256, Wf l n, 0, true⟩ := by
    unfold fm
    rw [if_neg (by omega), show min (i + 1) n = n from by omega, show decide (n < i + 1) = true from by simp; omega]
  rw [e2]
  by_cases hi : i = n
  · have e1 : fm n l i = ⟨256, Wf l n, 0, false⟩ := by
      unfold fm
      rw [if_pos (by omega), show min i n = n from by omega, show decide (n < i) = false from by simp; omega, show (n : Int) - (i : Int) = 0 from by omega]
    rw [e1, wr_zero 256 (Wf l n) a _ (by omega) (blk_length _)]
  · have e1 : fm n l i = ⟨256, Wf l n, 0, true⟩ := by
      unfold fm
      rw [if_neg (by omega), show min i n = n from by omega, show decide (n < i) = true from by simp; omega]
    rw [e1]
    rfl
theorem fm_log (n : Nat) (l : List Int) (i : Nat) : (fm n l i).log.length = min i n := Wf_length _ _
theorem fm_down (n : Nat) (l : List Int) (i : Nat) : (fm n l i).down = decide (n < i) := rfl
/-- The reading of block nought. -/
theorem rd_zero (m : Dm) (hm : m.nb = 256) (d : Bool) (hd : m.down = d) : ∃ (o : List Int) (k : Int), m.rd 0 = (o, k) ∧ ((d = false ∧ k = 0) ∨ (d = true ∧ k = 9)) := by
  cases d
  · exact ⟨(last m.log 0).getD (List.replicate 256 0), 0, by unfold Dm.rd; rw [hd, if_neg (by simp), if_neg (by rw [hm]; omega)]; rfl, .inl ⟨rfl, rfl⟩⟩
  · exact ⟨[], 9, by unfold Dm.rd; rw [hd]; rfl, .inr ⟨rfl, rfl⟩⟩
set_option maxHeartbeats 1000000 in
set_option maxRecDepth 100000 in
theorem law (N : Int) (A : Option Addr) (c : Nat) (l : List Int) (w : World) (hN : 0 ≤ N ∧ N ≤ 255) (hr : Rn w .u8 A l) (hb : ∀ x ∈ l, 0 ≤ x ∧ x ≤ 255) (hl : l.length ≤ 9223372036854775807) :
    Calls Try.prog 4 #[.int .u8 N, .slice A l.length c] w fun e w' => e = .returned (.bool true) ∧ Below w.heap.size w w' := by
  by_cases hlong : 300 < l.length
  · go_enter Try.func4, Try.ntmps4
    go_wp2_with (fail)
    refine (awake w).mono ?_
    rintro e w1 ⟨rfl, hb1⟩
    go_wp2_with (fail)
    refine (awake w1).mono ?_
    rintro e w2 ⟨rfl, hb2⟩
    go_wp2
    go_ret
    exact ⟨rfl, hb1.trans (hb2.mono hb1.size)⟩
  · obtain ⟨n, rfl⟩ : ∃ n : Nat, N = (n : Int) := ⟨N.toNat, by omega⟩
    have hn : n ≤ 255 := by omega
    go_enter Try.func4, Try.ntmps4
    go_wp2_with (fail)
    refine (awake w).mono ?_
    rintro e w1 ⟨rfl, hb1⟩
    go_wp2_with (fail)
    refine (new_ 256 w1).mono ?_
    rintro e w2 ⟨p, F, rfl, hD, hb2, hF⟩
    rw [show (min (max (256 : Int) 0) 65536).toNat = 256 from rfl] at hD
    have hF0 : ∀ k, F k → w.heap.size ≤ k := fun k hk => Nat.le_trans hb1.size (hF k hk)
    have hb02 : Below w.heap.size w w2 := hb1.trans (hb2.mono hb1.size)
    have hlt0 : ∀ ad, A = some ad → 0 < l.length → ad.block < w.heap.size := fun ad e h0 => by
      obtain ⟨ad', e', hlt⟩ := hr.lt h0 (by omega)
      rw [e] at e'
      injection e' with e'
      exact e' ▸ hlt
    have hFp : F p := by
      obtain ⟨_, _, _, _, _, _, _, _, h, _⟩ := hD
      exact h
    clear hb1 hb2 hF
    have hwn : IntKind.i64.wrap (n : Int) = (n : Int) := IntWalk.i64_in _ (by omega)
    have HS := hid (setFuse p _ F (n : Int) w2 hD (by omega))
    go_wp2_with (fail)
    refine Calls.mono HS.out ?_
    rintro e w3 ⟨rfl, hD3, hu3⟩
    have hD3' : Dk w3 F p (fm n l 0) := by
      rw [show fm n l 0 = ⟨256, [], max (n : Int) (-1), false⟩ from by
        unfold fm
        rw [if_pos (by omega), show min 0 n = 0 from by omega, show decide (n < 0) = false from by simp, show max (n : Int) (-1) = n from by omega]
        simp [Wf]]
      exact hD3
    have hb03 : Below w.heap.size w w3 := hb02.trans (hu3.below hb02.size (by rintro k rfl; exact hF0 _ hFp))
    clear hD hD3 hu3 hb02 HS hFp
    go_wp2_with (fail)
    go_loopw [27] (fun v27 W => ∃ (j : Nat) (F : Nat → Prop), j ≤ l.length ∧ v27 = .int .i64 j ∧ Dk W F p (fm n l j) ∧ (∀ k, F k → w.heap.size ≤ k) ∧ Below w.heap.size w W) (fun v27 _ => l.length - (intOf v27).toNat)
    case atStart => exact ⟨0, F, by omega, rfl, hD3', hF0, hb03⟩
    case round =>
      clear hD3' hF0 hb03 F
      obtain ⟨j, F, hj, rfl, hD, hF, hbw⟩ := hrel
      by_cases hlt : j < l.length
      · obtain ⟨ad, rfl, _⟩ := hr.2 (by omega)
        have hnF : ¬ F ad.block := fun h => by have := hF _ h; have := hlt0 ad rfl (by omega); omega
        have hrj : Rn wr .u8 (some ad) l := Rd.below hr (by omega) ⟨hbw.os, hbw.tape, hbw.output, hbw.size, hbw.block⟩
        go_wp2_with (fail)
        refine (read p _ F (j : Int) wr hD (fm_ok n hn l j)).mono ?_
        rintro e w5 ⟨A5, c5, rfl, _, hu5⟩
        have hr5 : Rn w5 .u8 (some ad) l := Rd.upd hrj (by omega) hu5 (fun _ _ => no_ _)
        have hx := hr5.cell hlt
        have hby := hb _ (gi_mem l j hlt)
        obtain ⟨a, ha⟩ : ∃ a : Nat, gi l j = (a : Int) := ⟨(gi l j).toNat, by omega⟩
        rw [ha] at hx
        have ha2 : 0 ≤ (a : Int) ∧ (a : Int) ≤ 255 := by omega
        have hj1 : (0 : Int) ≤ (j : Int) := by omega
        have hj2 : (j : Int) < (l.length : Int) := by omega
        have hwa : IntKind.i64.wrap (a : Int) = (a : Int) := IntWalk.i64_in _ (by omega)
        have hxb : (ad.add j).block = ad.block := Addr_add_block _ _
        have hD5 := hD.upd hu5 (fun _ _ => no_ _)
        have hb5 := hbw.trans (hu5.old hbw.size)
        have hlog : (fm n l j).log.length ≤ 1000000 := by rw [fm_log]; omega
        obtain ⟨b, hbe⟩ : ∃ b, b = (j : Int) % 256 := ⟨_, rfl⟩
        have hwb : IntKind.u8.wrap (j : Int) = b := by rw [hbe, IntKind.wrap_u8]
        have hj64 : IntKind.i64.wrap (n : Int) = (n : Int) := IntWalk.i64_in _ (by omega)
        by_cases hin : j < n
        · have HW := hid (fm_done n l j a ha (by omega) hin)
          rw [← hbe] at HW
          have Hdn := hid (show (fm n l (j + 1)).down = false from by rw [fm_down]; simp; omega)
          have Hln := hid (show (fm n l (j + 1)).log.length = j + 1 from by rw [fm_log]; omega)
          have hin1 : (j : Int) < (n : Int) := by omega
          have hin2 : (j : Int) + 1 ≤ (n : Int) := by omega
          clear hbe hby hu5 hD hbw hrj ha
          go_wp2_with (fail)
          refine wp_region_held_drew (S := fun W => W.cell? (ad.add j) = some (.int .u8 a)) (by kernel_rfl) hx (fun hS => ?_)
          refine rg_at 0 (by decide) (fun oi hoi => ?_)
          have ho2 := hoi; simp only [List.getElem?_toArray, List.getElem?_cons_succ, List.getElem?_cons_zero, Option.some.injEq] at ho2; subst ho2
          refine rg_take (v := ?_) 0 hoi (by kernel_rfl) (by kernel_rfl) (by kernel_rfl) (fun _ _ _ h => h) (by rfl) ?_ hS ?_
          rotate_left
          · intro w _; go_simp; try with_reducible rfl
          clear hoi; try simp only [Act.put, List.setIfInBounds_toArray, List.set_cons_zero, List.set_cons_succ]
          refine rg_at 1 (by decide) (fun oi hoi => ?_)
          have ho2 := hoi; simp only [List.getElem?_toArray, List.getElem?_cons_succ, List.getElem?_cons_zero, Option.some.injEq] at ho2; subst ho2
          refine rg_take (v := ?_) 1 hoi (by kernel_rfl) (by kernel_rfl) (by kernel_rfl) (fun _ _ _ h => h) (by rfl) ?_ hS ?_
          rotate_left
          · intro w _; go_simp; try with_reducible rfl
          clear hoi; try simp only [Act.put, List.setIfInBounds_toArray, List.set_cons_zero, List.set_cons_succ]
          refine rg_at 2 (by decide) (fun oi hoi => ?_)
          have ho2 := hoi; simp only [List.getElem?_toArray, List.getElem?_cons_succ, List.getElem?_cons_zero, Option.some.injEq] at ho2; subst ho2
          refine rg_take (v := ?_) 2 hoi (by kernel_rfl) (by kernel_rfl) (by kernel_rfl) (fun _ _ _ h => h) (by rfl) ?_ hS ?_
          rotate_left
          · intro w _; go_simp; try with_reducible rfl
          clear hoi; try simp only [Act.put, List.setIfInBounds_toArray, List.set_cons_zero, List.set_cons_succ]
          refine rg_at 3 (by decide) (fun oi hoi => ?_)
          have ho2 := hoi; simp only [List.getElem?_toArray, List.getElem?_cons_succ, List.getElem?_cons_zero, Option.some.injEq] at ho2; subst ho2
          refine rg_take (v := ?_) 3 hoi (by kernel_rfl) (by kernel_rfl) (by kernel_rfl) (fun _ _ _ h => h) (by rfl) ?_ hS ?_
          rotate_left
          · intro w _; go_simp; try with_reducible rfl
          clear hoi; try simp only [Act.put, List.setIfInBounds_toArray, List.set_cons_zero, List.set_cons_succ]
          refine rg_at 4 (by decide) (fun oi hoi => ?_)
          have ho2 := hoi; simp only [List.getElem?_toArray, List.getElem?_cons_succ, List.getElem?_cons_zero, Option.some.injEq] at ho2; subst ho2
          refine rg_take (v := ?_) 4 hoi (by kernel_rfl) (by kernel_rfl) (by kernel_rfl) (fun _ _ _ h => h) (by rfl) ?_ hS ?_
          rotate_left
          · intro w hw; have hf := hw; clear hw; go_simp; try with_reducible rfl
          clear hoi; try simp only [Act.put, List.setIfInBounds_toArray, List.set_cons_zero, List.set_cons_succ]
          refine rg_at 5 (by decide) (fun oi hoi => ?_)
          have ho2 := hoi; simp only [List.getElem?_toArray, List.getElem?_cons_succ, List.getElem?_cons_zero, Option.some.injEq] at ho2; subst ho2
          refine rg_take (v := ?_) 5 hoi (by kernel_rfl) (by kernel_rfl) (by kernel_rfl) (fun _ _ _ h => h) (by rfl) ?_ hS ?_
          rotate_left
          · intro w _; go_simp; try with_reducible rfl
          clear hoi; try simp only [Act.put, List.setIfInBounds_toArray, List.set_cons_zero, List.set_cons_succ]
          refine rg_at 6 (by decide) (fun oi hoi => ?_)
          have ho2 := hoi; simp only [List.getElem?_toArray, List.getElem?_cons_succ, List.getElem?_cons_zero, Option.some.injEq] at ho2; subst ho2
          refine rg_take (v := ?_) 6 hoi (by kernel_rfl) (by kernel_rfl) (by kernel_rfl) (fun _ _ _ h => h) (by rfl) ?_ hS ?_
          rotate_left
          · intro w _; go_simp; try with_reducible rfl
          clear hoi; try simp only [Act.put, List.setIfInBounds_toArray, List.set_cons_zero, List.set_cons_succ]
          refine rg_at 7 (by decide) (fun oi hoi => ?_)
          have ho2 := hoi; simp only [List.getElem?_toArray, List.getElem?_cons_succ, List.getElem?_cons_zero, Option.some.injEq] at ho2; subst ho2
          refine rg_take (v := ?_) 7 hoi (by kernel_rfl) (by kernel_rfl) (by kernel_rfl) (fun _ _ _ h => h) (by rfl) ?_ hS ?_
          rotate_left
          · intro w _; go_simp; try with_reducible rfl
          clear hoi; try simp only [Act.put, List.setIfInBounds_toArray, List.set_cons_zero, List.set_cons_succ]
          refine rg_at 8 (by decide) (fun oi hoi => ?_)
          have ho2 := hoi; simp only [List.getElem?_toArray, List.getElem?_cons_succ, List.getElem?_cons_zero, Option.some.injEq] at ho2; subst ho2
          refine rg_take (v := ?_) 8 hoi (by kernel_rfl) (by kernel_rfl) (by kernel_rfl) (fun _ _ _ h => h) (by rfl) ?_ hS ?_
          rotate_left
          · intro w _; go_simp; try with_reducible rfl
          clear hoi; try simp only [Act.put, List.setIfInBounds_toArray, List.set_cons_zero, List.set_cons_succ]
          refine rg_at 9 (by decide) (fun oi hoi => ?_)
          have ho2 := hoi; simp only [List.getElem?_toArray, List.getElem?_cons_succ, List.getElem?_cons_zero, Option.some.injEq] at ho2; subst ho2
          refine rg_call 9 (by kernel_rfl) hoi (by rfl) (fun K hK => ?_)
          clear hoi
          go_simp
          refine Calls.mono (block 0 0 b false _) ?_
          rintro e w2 ⟨A2, c2, rfl, hr2, hu2, hfr2⟩
          go_wp2_with (fail)
          refine hK.out _ _ (((hu2.cell (p := ad.add j) (World.block_lt_of_cell? _ _ hx) (no_ _)).trans hx)) (fun hS => ?_)
          clear hK K
          try simp only [Act.put, List.setIfInBounds_toArray, List.set_cons_zero, List.set_cons_succ]
          refine rg_at 10 (by decide) (fun oi hoi => ?_)
          have ho2 := hoi; simp only [List.getElem?_toArray, List.getElem?_cons_succ, List.getElem?_cons_zero, Option.some.injEq] at ho2; subst ho2
          refine rg_call 10 (by kernel_rfl) hoi (by rfl) (fun K hK => ?_)
          clear hoi
          go_simp
          have hwr := write p _ F A2 c2 _ (a : Int) _ ((Dt.Dk.drew hD5).upd hu2 (fun _ _ => no_ _)) hr2 (fun ad e hk => by have := hfr2 ad e; have := (Dt.Dk.drew hD5).lt _ hk; omega) (fm_ok n hn l j) hlog
          rw [HW.out] at hwr
          refine Calls.mono hwr ?_
          rintro e w3 ⟨rfl, F3, hD3, hM3⟩
          go_wp2_with (fail)
          refine hK.out _ _ (((hM3.upd.cell (p := ad.add j) (World.block_lt_of_cell? _ _ ‹_›) (by rw [hxb]; exact hnF)).trans ‹_›)) (fun hS => ?_)
          clear hK K
          try simp only [Act.put, List.setIfInBounds_toArray, List.set_cons_zero, List.set_cons_succ]
          refine rg_at 11 (by decide) (fun oi hoi => ?_)
          have ho2 := hoi; simp only [List.getElem?_toArray, List.getElem?_cons_succ, List.getElem?_cons_zero, Option.some.injEq] at ho2; subst ho2
          refine rg_take (v := ?_) 11 hoi (by kernel_rfl) (by kernel_rfl) (by kernel_rfl) (fun _ _ _ h => h) (by rfl) ?_ hS ?_
          rotate_left
          · intro w _; go_simp; try with_reducible rfl
          clear hoi; try simp only [Act.put, List.setIfInBounds_toArray, List.set_cons_zero, List.set_cons_succ]
          refine wpAnyH_done (by kernel_rfl) ?_ _
          have hsz := hb5.size
          have hM4 : Mv F F3 w5 w3 := Mv.trans (Mv.quiet (Upd.old (Upd.of_drew hu2) (Nat.le_refl _))) hM3
          have hF4 : ∀ k, F3 k → w.heap.size ≤ k := fun k hk => (hM4.sub k hk).elim (hF k) fun h => by omega
          have hb4 := hb5.trans (hM4.upd.below hsz hF)
          have H := hid (And.intro hD3 (And.intro hF4 hb4))
          have hdn := down p _ F3 w3 hD3 (fm_ok n hn l (j + 1))
          have hln := writes p _ F3 w3 hD3 (fm_ok n hn l (j + 1))
          rw [Hdn.out] at hdn
          rw [Hln.out] at hln
          have HD := hid hdn
          have HL := hid hln
          clear hF4 hb4 hM4 hD3 hM3 hu2 hr2 hfr2 hD5 hF hb5 hdn hln
          go_wp2_with (fail)
          refine Calls.mono HD.out ?_
          rintro e w' ⟨rfl, rfl⟩
          go_wp2_with (fail)
          refine Calls.mono HL.out ?_
          rintro e w' ⟨rfl, rfl⟩
          go_wp2
          go_roundw
          case rel => exact ⟨j + 1, F3, by omega, by go_num, H.out.1, H.out.2.1, H.out.2.2⟩
          case measure => simp [intOf]; omega
        · have HW := hid (fm_lost n l j a (by omega) (by omega))
          rw [← hbe] at HW
          have Hdn := hid (show (fm n l (j + 1)).down = true from by rw [fm_down]; simp; omega)
          have Hln := hid (show (fm n l (j + 1)).log.length = n from by rw [fm_log]; omega)
          have hin1 : (n : Int) ≤ (j : Int) := by omega
          have hin2 : ¬ (j : Int) + 1 ≤ (n : Int) := by omega
          clear hbe hby hu5 hD hbw hrj ha
          go_wp2_with (fail)
          refine wp_region_held_drew (S := fun W => W.cell? (ad.add j) = some (.int .u8 a)) (by kernel_rfl) hx (fun hS => ?_)
          refine rg_at 0 (by decide) (fun oi hoi => ?_)
          have ho2 := hoi; simp only [List.getElem?_toArray, List.getElem?_cons_succ, List.getElem?_cons_zero, Option.some.injEq] at ho2; subst ho2
          refine rg_take (v := ?_) 0 hoi (by kernel_rfl) (by kernel_rfl) (by kernel_rfl) (fun _ _ _ h => h) (by rfl) ?_ hS ?_
          rotate_left
          · intro w _; go_simp; try with_reducible rfl
          clear hoi; try simp only [Act.put, List.setIfInBounds_toArray, List.set_cons_zero, List.set_cons_succ]
          refine rg_at 1 (by decide) (fun oi hoi => ?_)
          have ho2 := hoi; simp only [List.getElem?_toArray, List.getElem?_cons_succ, List.getElem?_cons_zero, Option.some.injEq] at ho2; subst ho2
          refine rg_take (v := ?_) 1 hoi (by kernel_rfl) (by kernel_rfl) (by kernel_rfl) (fun _ _ _ h => h) (by rfl) ?_ hS ?_
          rotate_left
          · intro w _; go_simp; try with_reducible rfl
          clear hoi; try simp only [Act.put, List.setIfInBounds_toArray, List.set_cons_zero, List.set_cons_succ]
          refine rg_at 2 (by decide) (fun oi hoi => ?_)
          have ho2 := hoi; simp only [List.getElem?_toArray, List.getElem?_cons_succ, List.getElem?_cons_zero, Option.some.injEq] at ho2; subst ho2
          refine rg_take (v := ?_) 2 hoi (by kernel_rfl) (by kernel_rfl) (by kernel_rfl) (fun _ _ _ h => h) (by rfl) ?_ hS ?_
          rotate_left
          · intro w _; go_simp; try with_reducible rfl
          clear hoi; try simp only [Act.put, List.setIfInBounds_toArray, List.set_cons_zero, List.set_cons_succ]
          refine rg_at 3 (by decide) (fun oi hoi => ?_)
          have ho2 := hoi; simp only [List.getElem?_toArray, List.getElem?_cons_succ, List.getElem?_cons_zero, Option.some.injEq] at ho2; subst ho2
          refine rg_take (v := ?_) 3 hoi (by kernel_rfl) (by kernel_rfl) (by kernel_rfl) (fun _ _ _ h => h) (by rfl) ?_ hS ?_
          rotate_left
          · intro w _; go_simp; try with_reducible rfl
          clear hoi; try simp only [Act.put, List.setIfInBounds_toArray, List.set_cons_zero, List.set_cons_succ]
          refine rg_at 4 (by decide) (fun oi hoi => ?_)
          have ho2 := hoi; simp only [List.getElem?_toArray, List.getElem?_cons_succ, List.getElem?_cons_zero, Option.some.injEq] at ho2; subst ho2
          refine rg_take (v := ?_) 4 hoi (by kernel_rfl) (by kernel_rfl) (by kernel_rfl) (fun _ _ _ h => h) (by rfl) ?_ hS ?_
          rotate_left
          · intro w hw; have hf := hw; clear hw; go_simp; try with_reducible rfl
          clear hoi; try simp only [Act.put, List.setIfInBounds_toArray, List.set_cons_zero, List.set_cons_succ]
          refine rg_at 5 (by decide) (fun oi hoi => ?_)
          have ho2 := hoi; simp only [List.getElem?_toArray, List.getElem?_cons_succ, List.getElem?_cons_zero, Option.some.injEq] at ho2; subst ho2
          refine rg_take (v := ?_) 5 hoi (by kernel_rfl) (by kernel_rfl) (by kernel_rfl) (fun _ _ _ h => h) (by rfl) ?_ hS ?_
          rotate_left
          · intro w _; go_simp; try with_reducible rfl
          clear hoi; try simp only [Act.put, List.setIfInBounds_toArray, List.set_cons_zero, List.set_cons_succ]
          refine rg_at 6 (by decide) (fun oi hoi => ?_)
          have ho2 := hoi; simp only [List.getElem?_toArray, List.getElem?_cons_succ, List.getElem?_cons_zero, Option.some.injEq] at ho2; subst ho2
          refine rg_take (v := ?_) 6 hoi (by kernel_rfl) (by kernel_rfl) (by kernel_rfl) (fun _ _ _ h => h) (by rfl) ?_ hS ?_
          rotate_left
          · intro w _; go_simp; try with_reducible rfl
          clear hoi; try simp only [Act.put, List.setIfInBounds_toArray, List.set_cons_zero, List.set_cons_succ]
          refine rg_at 7 (by decide) (fun oi hoi => ?_)
          have ho2 := hoi; simp only [List.getElem?_toArray, List.getElem?_cons_succ, List.getElem?_cons_zero, Option.some.injEq] at ho2; subst ho2
          refine rg_take (v := ?_) 7 hoi (by kernel_rfl) (by kernel_rfl) (by kernel_rfl) (fun _ _ _ h => h) (by rfl) ?_ hS ?_
          rotate_left
          · intro w _; go_simp; try with_reducible rfl
          clear hoi; try simp only [Act.put, List.setIfInBounds_toArray, List.set_cons_zero, List.set_cons_succ]
          refine rg_at 8 (by decide) (fun oi hoi => ?_)
          have ho2 := hoi; simp only [List.getElem?_toArray, List.getElem?_cons_succ, List.getElem?_cons_zero, Option.some.injEq] at ho2; subst ho2
          refine rg_take (v := ?_) 8 hoi (by kernel_rfl) (by kernel_rfl) (by kernel_rfl) (fun _ _ _ h => h) (by rfl) ?_ hS ?_
          rotate_left
          · intro w _; go_simp; try with_reducible rfl
          clear hoi; try simp only [Act.put, List.setIfInBounds_toArray, List.set_cons_zero, List.set_cons_succ]
          refine rg_at 9 (by decide) (fun oi hoi => ?_)
          have ho2 := hoi; simp only [List.getElem?_toArray, List.getElem?_cons_succ, List.getElem?_cons_zero, Option.some.injEq] at ho2; subst ho2
          refine rg_call 9 (by kernel_rfl) hoi (by rfl) (fun K hK => ?_)
          clear hoi
          go_simp
          refine Calls.mono (block 0 0 b false _) ?_
          rintro e w2 ⟨A2, c2, rfl, hr2, hu2, hfr2⟩
          go_wp2_with (fail)
          refine hK.out _ _ (((hu2.cell (p := ad.add j) (World.block_lt_of_cell? _ _ hx) (no_ _)).trans hx)) (fun hS => ?_)
          clear hK K
          try simp only [Act.put, List.setIfInBounds_toArray, List.set_cons_zero, List.set_cons_succ]
          refine rg_at 10 (by decide) (fun oi hoi => ?_)
          have ho2 := hoi; simp only [List.getElem?_toArray, List.getElem?_cons_succ, List.getElem?_cons_zero, Option.some.injEq] at ho2; subst ho2
          refine rg_call 10 (by kernel_rfl) hoi (by rfl) (fun K hK => ?_)
          clear hoi
          go_simp
          have hwr := write p _ F A2 c2 _ (a : Int) _ ((Dt.Dk.drew hD5).upd hu2 (fun _ _ => no_ _)) hr2 (fun ad e hk => by have := hfr2 ad e; have := (Dt.Dk.drew hD5).lt _ hk; omega) (fm_ok n hn l j) hlog
          rw [HW.out] at hwr
          refine Calls.mono hwr ?_
          rintro e w3 ⟨rfl, F3, hD3, hM3⟩
          go_wp2_with (fail)
          refine hK.out _ _ (((hM3.upd.cell (p := ad.add j) (World.block_lt_of_cell? _ _ ‹_›) (by rw [hxb]; exact hnF)).trans ‹_›)) (fun hS => ?_)
          clear hK K
          try simp only [Act.put, List.setIfInBounds_toArray, List.set_cons_zero, List.set_cons_succ]
          refine rg_at 11 (by decide) (fun oi hoi => ?_)
          have ho2 := hoi; simp only [List.getElem?_toArray, List.getElem?_cons_succ, List.getElem?_cons_zero, Option.some.injEq] at ho2; subst ho2
          refine rg_take (v := ?_) 11 hoi (by kernel_rfl) (by kernel_rfl) (by kernel_rfl) (fun _ _ _ h => h) (by rfl) ?_ hS ?_
          rotate_left
          · intro w _; go_simp; try with_reducible rfl
          clear hoi; try simp only [Act.put, List.setIfInBounds_toArray, List.set_cons_zero, List.set_cons_succ]
          refine wpAnyH_done (by kernel_rfl) ?_ _
          have hsz := hb5.size
          have hM4 : Mv F F3 w5 w3 := Mv.trans (Mv.quiet (Upd.old (Upd.of_drew hu2) (Nat.le_refl _))) hM3
          have hF4 : ∀ k, F3 k → w.heap.size ≤ k := fun k hk => (hM4.sub k hk).elim (hF k) fun h => by omega
          have hb4 := hb5.trans (hM4.upd.below hsz hF)
          have H := hid (And.intro hD3 (And.intro hF4 hb4))
          have hdn := down p _ F3 w3 hD3 (fm_ok n hn l (j + 1))
          have hln := writes p _ F3 w3 hD3 (fm_ok n hn l (j + 1))
          rw [Hdn.out] at hdn
          rw [Hln.out] at hln
          have HD := hid hdn
          have HL := hid hln
          clear hF4 hb4 hM4 hD3 hM3 hu2 hr2 hfr2 hD5 hF hb5 hdn hln
          go_wp2_with (fail)
          refine Calls.mono HD.out ?_
          rintro e w' ⟨rfl, rfl⟩
          go_wp2_with (fail)
          refine Calls.mono HL.out ?_
          rintro e w' ⟨rfl, rfl⟩
          go_wp2
          go_roundw
          case rel => exact ⟨j + 1, F3, by omega, by go_num, H.out.1, H.out.2.1, H.out.2.2⟩
          case measure => simp [intOf]; omega
      · obtain rfl : j = l.length := by omega
        obtain ⟨d, hd⟩ : ∃ d, (fm n l l.length).down = d := ⟨_, rfl⟩
        have hok := fm_ok n hn l l.length
        have hlog : (fm n l l.length).log.length ≤ 1000000 := by rw [fm_log]; omega
        obtain ⟨o, kk, hrd, hkk⟩ := rd_zero (fm n l l.length) rfl d hd
        have hnb : (fm n l l.length).nb = 256 := rfl
        generalize fm n l l.length = m at *
        have hdn := down p _ F wr hD hok
        rw [hd] at hdn
        have HD := hid hdn
        have HK := hid hkk
        clear hdn hkk
        have hFp : F p := by
          obtain ⟨_, _, _, _, _, _, _, _, h, _⟩ := hD
          exact h
        go_wp2_with (fail)
        refine Calls.mono HD.out ?_
        rintro e w' ⟨rfl, rfl⟩
        have hR := read p _ F 0 wr hD hok
        rw [hrd] at hR
        have HR := hid hR
        clear hR hrd
        go_wp2_with (fail)
        refine Calls.mono HR.out ?_
        rintro e w5 ⟨A5, c5, rfl, _, hu5⟩
        have HT := hid (restart p _ F w5 (hD.upd hu5 (fun _ _ => no_ _)))
        have hb5 := hbw.trans (hu5.old hbw.size)
        go_wp2_with (fail)
        refine Calls.mono HT.out ?_
        rintro e w6 ⟨rfl, hD6, hu6⟩
        have hb6 := hb5.trans (hu6.below hb5.size (by rintro k rfl; exact hF _ hFp))
        have hok6 : Dm.ok { m with fuse := -1, down := false } := by
          obtain ⟨_, _, h3⟩ := hok
          simp [Dm.ok, h3]
        have HD6 := hid (down p _ F w6 hD6 hok6)
        have HW := hid (fun (W : World) (A2 : Option Addr) (c2 : Nat) (b : Int) (hu2 : Upd No w6 W) (hr2 : Rn W .u8 A2 (blk b false)) (hfr2 : ∀ ad, A2 = some ad → w6.heap.size ≤ ad.block) => write p _ F A2 c2 _ (0 : Int) _ (hD6.upd hu2 (fun _ _ => no_ _)) hr2 (fun ad e hk => by have := hfr2 ad e; have := hD6.lt _ hk; omega) hok6 hlog)
        obtain ⟨nb, log, fuse, dn⟩ := m
        simp only at hnb hd
        subst hnb
        have hF6 := hF
        have hlt6 := hD6.lt
        clear hD hD6 hu5 hu6 hb5 hbw HD HR HT hd hok hok6 hlog
        rcases HK.out with ⟨rfl, rfl⟩ | ⟨rfl, rfl⟩
        · go_wp2_with (fail)
          refine Calls.mono HD6.out ?_
          rintro e w' ⟨rfl, rfl⟩
          go_wp2_with (fail)
          with_reducible refine Calls.mono (block 0 0 0 false _) ?_
          rintro e w7 ⟨A7, c7, rfl, hr7, hu7, hfr7⟩
          have hwr := HW.out w7 A7 c7 0 hu7 hr7 hfr7
          rw [show Dm.wr ⟨256, log, -1, false⟩ (0 : Int) (blk 0 false) = (0, ⟨256, log ++ [(0, blk 0 false)], -1, false⟩) from wr_ok 256 log (-1) 0 (blk 0 false) (by omega) (blk_length _) (by decide)] at hwr
          go_wp2_with (fail)
          refine Calls.mono hwr ?_
          rintro e w8 ⟨rfl, F8, hD8, hM8⟩
          have hb8 := (hb6.trans (hu7.old hb6.size)).trans (hM8.upd.below (Nat.le_trans hb6.size hu7.size) hF6)
          clear hwr hD8 hM8 hu7 hr7
          go_wp2
          go_ret
          exact ⟨rfl, hb8⟩
        · go_wp2_with (fail)
          refine Calls.mono HD6.out ?_
          rintro e w' ⟨rfl, rfl⟩
          go_wp2_with (fail)
          with_reducible refine Calls.mono (block 0 0 0 false _) ?_
          rintro e w7 ⟨A7, c7, rfl, hr7, hu7, hfr7⟩
          have hwr := HW.out w7 A7 c7 0 hu7 hr7 hfr7
          rw [show Dm.wr ⟨256, log, -1, false⟩ (0 : Int) (blk 0 false) = (0, ⟨256, log ++ [(0, blk 0 false)], -1, false⟩) from wr_ok 256 log (-1) 0 (blk 0 false) (by omega) (blk_length _) (by decide)] at hwr
          go_wp2_with (fail)
          refine Calls.mono hwr ?_
          rintro e w8 ⟨rfl, F8, hD8, hM8⟩
          have hb8 := (hb6.trans (hu7.old hb6.size)).trans (hM8.upd.below (Nat.le_trans hb6.size hu7.size) hF6)
          clear hwr hD8 hM8 hu7 hr7
          go_wp2
          go_ret
          exact ⟨rfl, hb8⟩
end Go.Proofs.Ytehdobagglondaa.Du
