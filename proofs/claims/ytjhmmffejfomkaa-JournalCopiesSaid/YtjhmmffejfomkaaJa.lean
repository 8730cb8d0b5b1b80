/-
  The walks of journal's New, Fold, State, Base, Events, Version.
-/
import Derived.Test.YtjhmmffejfomkaaJo
set_option linter.unusedVariables false
set_option linter.unusedSimpArgs false
namespace Go.Proofs.Ytjhmmffejfomkaa.Jn
open Go.RowKit Go.Proofs.Ytjhmmffejfomkaa.B
theorem jboxA {w : World} {p : Nat} {t : TypeId} {b : List Int} {v : Value} {n : Int} (h : Blk w p t (jc b v n)) : (∀ o, (w.alloc o).cell? ⟨p, 0, none⟩ = some (.int .i64 (gi b 0))) ∧ (∀ o, (w.alloc o).cell? ⟨p, 1, none⟩ = some (.int .i64 (gi b 1))) ∧ (∀ o, (w.alloc o).cell? ⟨p, 2, none⟩ = some (.int .i64 (gi b 2))) ∧
    (∀ o, (w.alloc o).cell? ⟨p, 3, none⟩ = some (.int .i64 (gi b 3))) ∧ (∀ o, (w.alloc o).cell? ⟨p, 4, none⟩ = some (.int .i64 (gi b 4))) ∧ (∀ o, (w.alloc o).cell? ⟨p, 5, none⟩ = some (.int .i64 (gi b 5))) ∧ (∀ o, (w.alloc o).cell? ⟨p, 6, none⟩ = some (.int .i64 (gi b 6))) ∧ (∀ o, (w.alloc o).cell? ⟨p, 7, none⟩ = some (.int .i64 (gi b 7))) :=
  ⟨fun o => (h.alloc o).cell 0, fun o => (h.alloc o).cell 1, fun o => (h.alloc o).cell 2, fun o => (h.alloc o).cell 3, fun o => (h.alloc o).cell 4, fun o => (h.alloc o).cell 5, fun o => (h.alloc o).cell 6, fun o => (h.alloc o).cell 7⟩
theorem jbox8 {w : World} {p : Nat} {t : TypeId} {b : List Int} {v : Value} {n : Int} (h : Blk w p t (jc b v n)) (o o' : Obj) : ((w.alloc o).alloc o').cell? ⟨p, 8, none⟩ = some v := ((h.alloc o).alloc o').cell 8
/-- Eight numbers, laid into a block. -/
def put8 (w : World) (g : Nat) (b : List Int) : World :=
  (((((((w.setCell ⟨g, 0, none⟩ (.int .i64 (gi b 0))).setCell ⟨g, 1, none⟩ (.int .i64 (gi b 1))).setCell ⟨g, 2, none⟩ (.int .i64 (gi b 2))).setCell ⟨g, 3, none⟩ (.int .i64 (gi b 3))).setCell ⟨g, 4, none⟩ (.int .i64 (gi b 4))).setCell ⟨g, 5, none⟩ (.int .i64 (gi b 5))).setCell ⟨g, 6, none⟩ (.int .i64 (gi b 6))).setCell ⟨g, 7, none⟩ (.int .i64 (gi b 7))
theorem put8_blk {w : World} {g : Nat} {t : TypeId} {b c : List Int} (h : Blk w g t (arr c)) : Blk (put8 w g b) g t (arr b) := by
  have := (((((((h.put 0 (.int .i64 (gi b 0))).put 1 (.int .i64 (gi b 1))).put 2 (.int .i64 (gi b 2))).put 3 (.int .i64 (gi b 3))).put 4 (.int .i64 (gi b 4))).put 5 (.int .i64 (gi b 5))).put 6 (.int .i64 (gi b 6))).put 7 (.int .i64 (gi b 7))
  unfold put8
  unfold arr at this ⊢
  simpa using this
theorem put8_upd {F : Nat → Prop} {a w : World} {g : Nat} (h : Upd F a w) (hg : F g ∨ a.heap.size ≤ g) (b : List Int) : Upd F a (put8 w g b) :=
  (((((((h.set (p := ⟨g, 0, none⟩) hg _).set (p := ⟨g, 1, none⟩) hg _).set (p := ⟨g, 2, none⟩) hg _).set (p := ⟨g, 3, none⟩) hg _).set (p := ⟨g, 4, none⟩) hg _).set (p := ⟨g, 5, none⟩) hg _).set (p := ⟨g, 6, none⟩) hg _).set (p := ⟨g, 7, none⟩) hg _
def s0 : S := ([0, 0, 0, 0, 0, 0, 0, 0], [], 0)
theorem Ok.s0 : Ok s0 := ⟨rfl, by simp [Jn.s0], fun e he => by simp [Jn.s0] at he⟩
set_option maxHeartbeats 400000 in
theorem new_ (w : World) : Calls Try.prog 9 #[] w fun e w' => e = .returned (.pointer (some ⟨w.heap.size, 0, none⟩)) ∧ w' = w.alloc (.cells (jc s0.1 (.slice none 0 0) 0) 46) := by
  go_enter Try.func9, Try.ntmps9
  go_wp2
  go_ret
  exact ⟨rfl, rfl⟩
theorem Jd.new {w : World} {o : Obj} (ho : o = .cells (jc s0.1 (.slice none 0 0) 0) 46) : Jd (w.alloc o) (fun k => k = w.heap.size) w.heap.size s0 := by
  subst ho
  exact ⟨.slice none 0 0, Blk.fresh _ _ _, Sl.nil _ _ _ _, rfl, fun k hk => by simp [Value.ownBlock] at hk, fun k hk => by subst hk; simp⟩
set_option maxHeartbeats 1000000 in
theorem version {w : World} {F : Nat → Prop} {p : Nat} {s : S} (h : Jd w F p s) :
    Calls Try.prog 13 #[.pointer (some ⟨p, 0, none⟩)] w fun e w' => e = .returned (.int .u64 s.2.2) ∧ w = w' := by
  obtain ⟨v, h⟩ := h
  obtain ⟨_, c8, c9⟩ := jbox h.blk
  go_enter Try.func13, Try.ntmps13
  go_wp2
  go_ret
  exact ⟨rfl, rfl⟩
def RowOut (w : World) (l : List Ev) (e : Ending) (w' : World) : Prop := ∃ A c, e = .returned (.slice A l.length c) ∧ w'.ownsRow w.heap.size 33 2 (.slice A l.length c) l.length (ecs l) ∧ Upd No w w'
theorem RowOut.of {w : World} {l : List Ev} {e : Ending} {w' : World} (h : ∃ A c, e = .returned (.slice A l.length c) ∧ w'.ownsRow w.heap.size 33 2 (.slice A l.length c) l.length (ecs l) ∧ Upd No w w') : RowOut w l e w' := h
set_option maxHeartbeats 1000000 in
theorem events {w : World} {F : Nat → Prop} {p : Nat} {s : S} (h : Jd w F p s) (hl : s.2.1.length ≤ 1000) :
    Calls Try.prog 14 #[.pointer (some ⟨p, 0, none⟩)] w fun e w' => RowOut w s.2.1 e w' := by
  obtain ⟨v, h⟩ := h
  obtain ⟨A, c, hv, hc1, hc2⟩ := h.row.shape
  subst hv
  obtain ⟨_, c8, c9⟩ := jbox h.blk
  have HC := hid (clone A _ c _ w (Sl.rd h.row) (ecs_one _) (by omega))
  clear h
  generalize s.2.1 = es at *
  go_enter Try.func14, Try.ntmps14
  go_wp2_with (fail)
  refine Calls.mono HC.out ?_
  rintro e w' ⟨A', c', rfl, ho, hu, _⟩
  have HO := hid (And.intro ho hu)
  clear ho hu
  go_wp2
  go_ret
  exact .of ⟨A', c', rfl, HO.out.1, HO.out.2⟩
set_option maxHeartbeats 1000000 in
theorem base {w : World} {F : Nat → Prop} {p : Nat} {s : S} (h : Jd w F p s) :
    Calls Try.prog 21 #[.pointer (some ⟨p, 0, none⟩)] w fun e w' => e = .returned (.agg (arr s.1)) ∧ Upd No w w' := by
  obtain ⟨v, h⟩ := h
  obtain ⟨bs, es, ver⟩ := s
  obtain ⟨z0, z1, z2, z3, z4, z5, z6, z7⟩ := jboxA h.blk
  simp only at z0 z1 z2 z3 z4 z5 z6 z7
  go_enter Try.func21, Try.ntmps21
  go_wp2_with (fail)
  exact bodyPost_ret (v := .agg (arr bs)) (by simp [results, go_sem, arr]) rfl ⟨rfl, (Upd.refl _ _).alloc _⟩
set_option maxHeartbeats 1000000 in
theorem Fold {w : World} {F : Nat → Prop} {p : Nat} {s : S} (h : Jd w F p s) (hok : Ok s) :
    Calls Try.prog 11 #[.pointer (some ⟨p, 0, none⟩)] w fun e w' => e = .returned (.int .i64 s.2.1.length) ∧ ∃ F', Jd w' F' p (foldS s s.2.1.length) ∧ Mv F F' w w' := by
  have HF := hid (fold s.2.1.length h hok (Nat.le_refl _))
  obtain ⟨v, h⟩ := h
  obtain ⟨A, c, hv, hc1, hc2⟩ := h.row.shape
  subst hv
  obtain ⟨_, c8, c9⟩ := jbox h.blk
  have hl := hok.le
  unfold FoldOut at HF
  generalize foldS s s.2.1.length = s' at *
  clear h hok
  generalize s.2.1.length = n at *
  go_enter Try.func11, Try.ntmps11
  go_wp2_with (fail)
  refine Calls.mono HF.out ?_
  rintro e w' ⟨rfl, hw⟩
  have HO := hid hw
  clear hw
  go_wp2
  go_ret
  exact ⟨rfl, HO.out⟩
set_option maxHeartbeats 2000000 in
theorem state {w : World} {F : Nat → Prop} {p : Nat} {s : S} (h : Jd w F p s) (hok : Ok s) :
    Calls Try.prog 12 #[.pointer (some ⟨p, 0, none⟩)] w fun e w' => e = .returned (.agg (arr (sts s.1 s.2.1))) ∧ Upd No w w' := by
  obtain ⟨v, h⟩ := h
  obtain ⟨bs, es, ver⟩ := s
  obtain ⟨z0, z1, z2, z3, z4, z5, z6, z7⟩ := jboxA h.blk
  simp only at z0 z1 z2 z3 z4 z5 z6 z7
  have z8 := jbox8 h.blk
  have hb8 := hok.b8
  have hle := hok.le
  have HEv := hid hok.ev
  simp only at hb8 hle
  obtain ⟨A, c, hv, hc1, hc2⟩ := h.row.shape
  subst hv
  simp only at hc1 z8
  have HX := hid h
  have hpl := h.lt p h.fp
  clear h hok
  go_enter Try.func12, Try.ntmps12
  go_wp2_with (fail)
  have HW0 : Hid (∃ (w2 : World) (g3 : Nat), w2 = (w.alloc (.cells (arr s0.1) 27)).alloc (.cells (arr bs) 27) ∧ g3 = w.heap.size + 1 ∧ Blk w2 w.heap.size 27 (arr s0.1) ∧ Blk w2 g3 27 (arr bs) ∧ Upd No w w2) :=
    hid ⟨_, _, rfl, rfl, (Blk.fresh _ _ _).alloc _, by
      have := Blk.fresh (w.alloc (.cells (arr s0.1) 27)) 27 (arr bs)
      simpa using this, ((Upd.refl _ _).alloc _).alloc _⟩
  obtain ⟨w2, g3, hw2, hg3, hA2, hB2, hU2⟩ := HW0.out
  simp only [arr, s0] at hw2
  change _ = ((w.alloc (.cells #[.int .i64 0, .int .i64 0, .int .i64 0, .int .i64 0, .int .i64 0, .int .i64 0, .int .i64 0, .int .i64 0] 27)).alloc _) at hw2
  rw [← hw2, ← hg3]
  have HA2 := hid (And.intro hA2 hU2)
  have HB2 := hid hB2
  have hgl : w.heap.size < g3 := by omega
  clear z0 z1 z2 z3 z4 z5 z6 z7 z8 hw2 hg3 hA2 hB2 hU2 HW0
  go_loopw [18] (fun v18 W => ∃ j : Nat, j ≤ es.length ∧ v18 = .int .i64 j ∧ Hid (Blk W g3 27 (arr (sts bs (es.take j)))) ∧ Hid (Blk W w.heap.size 27 (arr s0.1)) ∧ Hid (Upd No w W)) (fun v18 _ => es.length - (intOf v18).toNat)
  case atStart => exact ⟨0, by omega, rfl, hid (by simpa [sts] using HB2.out), hid HA2.out.1, hid HA2.out.2⟩
  case round =>
    obtain ⟨j, hj, rfl, HB, HC, HU⟩ := hrel
    by_cases hje : j < es.length
    · obtain ⟨g, off, rfl, d0, d1, _⟩ := ev_at (HX.out.row.upd HU.out fun _ _ => no_ _) hje
      have hev := HEv.out _ (List.getElem_mem hje)
      have HN : Hid (sts bs (es.take (j + 1)) = st1 (sts bs (es.take j)) es[j] ∧ (sts bs (es.take j)).length = 8) := hid ⟨by rw [List.take_succ_eq_append_getElem hje, sts_snoc], by rw [sts_length, hb8]⟩
      have hj2 : (j : Int) < (es.length : Int) := by omega
      generalize es[j] = e0 at *
      obtain ⟨r, y⟩ := e0
      obtain ⟨r, rfl⟩ : ∃ t : Nat, r = t := ⟨r.toNat, by have := hev.1; simp only at this; omega⟩
      have hr8 : r < 8 := by have := hev.2; simp only at this; omega
      have hr8' : (r : Int) < 8 := by omega
      simp only [st1, Int.toNat_natCast] at HN
      simp only at d0 d1
      generalize sts bs (es.take j) = b at *
      have hbr := arr_get b r hr8
      have k0 : ∀ o, (wr.alloc o).cell? ⟨g3, r, none⟩ = some (.int .i64 (gi b r)) := fun o => by rw [(HB.out.alloc o).cell r, hbr]
      have f0 : ∀ o, (wr.alloc o).frozen? ⟨g3, r, none⟩ = false := fun o => (HB.out.alloc o).free r
      have HE : Hid (∀ o, Blk ((wr.alloc o).setCell ⟨g3, r, none⟩ (.int .i64 y)) g3 27 (arr (sts bs (es.take (j + 1)))) ∧ Blk ((wr.alloc o).setCell ⟨g3, r, none⟩ (.int .i64 y)) w.heap.size 27 (arr s0.1) ∧ Upd No w ((wr.alloc o).setCell ⟨g3, r, none⟩ (.int .i64 y))) := hid fun o =>
        ⟨by rw [HN.out.1]; exact aput (HB.out.alloc o) HN.out.2 hr8 y, (HC.out.alloc o).far (by simp; omega) _, (HU.out.alloc o).set (.inr (by simp; omega)) _⟩
      clear hbr
      go_wp2
      go_roundw
      case rel => exact ⟨j + 1, by omega, by go_num, hid (HE.out _).1, hid (HE.out _).2.1, hid (HE.out _).2.2⟩
      case measure => simp [intOf]; omega
    · obtain rfl : j = es.length := by omega
      have HS : Hid (sts bs (es.take es.length) = sts bs es) := hid (by rw [List.take_length])
      rw [HS.out] at HB
      obtain ⟨b, hb⟩ : ∃ b, b = sts bs es := ⟨_, rfl⟩
      rw [← hb] at HB
      have HSB := hid hb
      clear hb HS
      obtain ⟨z0, z1, z2, z3, z4, z5, z6, z7⟩ := abox HB.out
      obtain ⟨y0, y1, y2, y3, y4, y5, y6, y7⟩ := abox HC.out
      have g0 := HC.out.free 0
      have g1 := HC.out.free 1
      have g2 := HC.out.free 2
      have g3' := HC.out.free 3
      have g4 := HC.out.free 4
      have g5 := HC.out.free 5
      have g6 := HC.out.free 6
      have g7 := HC.out.free 7
      have HF := hid (put8_blk (b := b) HC.out)
      have HG := hid (put8_upd HU.out (.inr (Nat.le_refl _)) b)
      go_wp2
      unfold put8 at HF HG
      generalize (((((((wr.setCell ⟨w.heap.size, 0, none⟩ (.int .i64 (gi b 0))).setCell ⟨w.heap.size, 1, none⟩ (.int .i64 (gi b 1))).setCell ⟨w.heap.size, 2, none⟩ (.int .i64 (gi b 2))).setCell ⟨w.heap.size, 3, none⟩ (.int .i64 (gi b 3))).setCell ⟨w.heap.size, 4, none⟩ (.int .i64 (gi b 4))).setCell ⟨w.heap.size, 5, none⟩ (.int .i64 (gi b 5))).setCell ⟨w.heap.size, 6, none⟩ (.int .i64 (gi b 6))).setCell ⟨w.heap.size, 7, none⟩ (.int .i64 (gi b 7)) = wz at *
      obtain ⟨q0, q1, q2, q3, q4, q5, q6, q7⟩ := abox HF.out
      exact bodyPost_ret (v := .agg (arr b)) (by simp [results, go_sem, arr, q0, q1, q2, q3, q4, q5, q6, q7]) rfl ⟨by rw [HSB.out], HG.out⟩
end Go.Proofs.Ytjhmmffejfomkaa.Jn
