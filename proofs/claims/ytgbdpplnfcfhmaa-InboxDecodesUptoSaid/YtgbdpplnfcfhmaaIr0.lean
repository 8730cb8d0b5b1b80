/-
  The reference's Formed and Copy.
-/
import Derived.Test.YtgbdpplnfcfhmaaLs
set_option linter.unusedVariables false
set_option linter.unusedSimpArgs false
namespace Go.Proofs.Ytgbdpplnfcfhmaa.Ir
open Go.RowKit Go.Proofs.Ytgbdpplnfcfhmaa.B Go.Proofs.Ytgbdpplnfcfhmaa.Lt Go.Proofs.Ytgbdpplnfcfhmaa.Ib Go.Proofs.Ytgbdpplnfcfhmaa.Ls
set_option maxHeartbeats 1000000 in
theorem rformed_ (x : L) (v : Value) (w : World) (h : In w x v) :
    Calls Try.prog 28 #[val x v] w fun e w' => e = .returned (.bool (formed x)) ∧ Upd No w w' := by
  obtain ⟨s, n, k, l⟩ := x
  obtain ⟨A, c, rfl, hr, h1, h2⟩ := h
  simp only at h1 h2 hr
  unfold val
  have hu : Upd No w (w.alloc (.cells #[.string s, .int .u64 n, .int .i64 k, .slice A l.length c] 30)) := (Upd.refl _ _).alloc _
  by_cases hs : s.size ≤ 40
  · by_cases hl : l.length ≤ 4
    · rw [show formed (s, n, k, l) = true from by simp [formed, hs, hl]]
      go_enter Try.func28, Try.ntmps28
      go_wp2
      go_ret
      exact ⟨(by show Ending.returned (.bool (decide ((l.length : Int) ≤ 4))) = _; rw [decide_eq_true (by omega)]), hu⟩
    · rw [show formed (s, n, k, l) = false from by simp [formed, hl]]
      go_enter Try.func28, Try.ntmps28
      go_wp2
      go_ret
      exact ⟨(by show Ending.returned (.bool (decide ((l.length : Int) ≤ 4))) = _; rw [decide_eq_false (by omega)]), hu⟩
  · rw [show formed (s, n, k, l) = false from by simp [formed, hs]]
    go_enter Try.func28, Try.ntmps28
    go_wp2
    go_ret
    exact ⟨rfl, hu⟩
set_option maxHeartbeats 1000000 in
theorem rcopy_ (x : L) (v : Value) (w : World) (h : In w x v) (hl : x.2.2.2.length ≤ 1000000) :
    Calls Try.prog 21 #[val x v] w fun e w' => CpOut w x e w' := by
  obtain ⟨s, n, k, l⟩ := x
  obtain ⟨A, c, rfl, hr, h1, h2⟩ := h
  simp only at h1 h2 hr hl
  unfold val
  have hu0 : Upd No w (((w.alloc (.cells #[.string s, .int .u64 n, .int .i64 k, .slice A l.length c] 30)).alloc (.cells #[.string ⟨#[]⟩, .int .u64 0, .int .i64 0, .slice none 0 0] 30))) := (((Upd.refl _ _).alloc _).alloc _)
  have hb1 := (Blk.fresh w 30 #[.string s, .int .u64 n, .int .i64 k, .slice A l.length c]).alloc (.cells #[.string ⟨#[]⟩, .int .u64 0, .int .i64 0, .slice none 0 0] 30)
  have hb2 := Blk.fresh (w.alloc (.cells #[.string s, .int .u64 n, .int .i64 k, .slice A l.length c] 30)) 30 #[.string ⟨#[]⟩, .int .u64 0, .int .i64 0, .slice none 0 0]
  rw [show (w.alloc (.cells #[.string s, .int .u64 n, .int .i64 k, .slice A l.length c] 30)).heap.size = w.heap.size + 1 from by simp] at hb2
  have HSZ : Hid (w.heap.size + 2 = ((w.alloc (.cells #[.string s, .int .u64 n, .int .i64 k, .slice A l.length c] 30)).alloc (.cells #[.string ⟨#[]⟩, .int .u64 0, .int .i64 0, .slice none 0 0] 30)).heap.size) := hid (by simp)
  obtain ⟨y0, y1, y2, y3⟩ := box hb1
  have hr0 := hid (Rd.upd hr (by omega) hu0 (fun _ _ => no_ _))
  go_enter Try.func21, Try.ntmps21
  have HO : Hid (∀ o1 o2, (((w.alloc o1).alloc o2).alloc (.cells #[] 2)).ownsRow (w.heap.size + 2) 2 1 (.slice (some ⟨w.heap.size + 1 + 1, 0, none⟩) 0 0) 0 []) := hid fun o1 o2 => by
    have := World.ownsRow_made (base := w.heap.size + 2) (e := 2) (size := 1) ((w.alloc o1).alloc o2) #[] 0 (by simp) (Nat.zero_le _) rfl
    simpa using this
  have hle1 : 0 + l.length ≤ 9223372036854775807 := by omega
  have hle2 : (0 + l.length) * 8 ≤ 140737488355328 := by omega
  go_wp2_with (at_builtin; go_must (refine ap_row (w.heap.size + 2) rfl (.tmp 3) (.tmp 5) 22 2 (.int .i64 0) 1 8 rfl Try.underlying22 i64_info rfl (by omega) (.slice (some ⟨w.heap.size + 1 + 1, 0, none⟩) 0 0) 0 [] A l.length c (nums .i64 l) rfl rfl (HO.out _ _) (Rd.alloc hr0.out (by omega) _) (nums_one .i64 l) hle1 hle2 (by simp) ?_); intro A' c' w3 ho hg3 hat3; rw [Nat.zero_add, List.nil_append] at ho; rw [Nat.zero_add]; have hb3 := ((hb1.alloc (.cells #[] 2)).grown hg3 (by simp [Value.ownBlock]; omega)); have hb4 := ((hb2.alloc (.cells #[] 2)).grown hg3 (by simp [Value.ownBlock])); obtain ⟨y0, y1, y2, y3⟩ := box hb3; obtain ⟨z0, z1, z2, z3⟩ := box hb4; have f3 := hb3.free 3; have g0 := hb4.free 0; have g1 := hb4.free 1; have g2 := hb4.free 2; have g3 := hb4.free 3)
  have hu4 : Upd No w w3 := (hu0.alloc (.cells #[] 2)).grown hg3 (fun kk hk => by
    have : w.heap.size + 1 + 1 = kk := by simpa [Value.ownBlock] using hk
    exact .inr (by omega))
  have hbF : Blk (((((w3.setCell ⟨w.heap.size, 3, none⟩ (.slice A' l.length c')).setCell ⟨w.heap.size + 1, 0, none⟩ (.string s)).setCell ⟨w.heap.size + 1, 1, none⟩ (.int .u64 n)).setCell ⟨w.heap.size + 1, 2, none⟩ (.int .i64 k)).setCell ⟨w.heap.size + 1, 3, none⟩ (.slice A' l.length c')) (w.heap.size + 1) 30 #[.string s, .int .u64 n, .int .i64 k, .slice A' l.length c'] := by
    have := ((((hb4.far (p := ⟨w.heap.size, 3, none⟩) (by simp) (.slice A' l.length c')).put 0 (.string s)).put 1 (.int .u64 n)).put 2 (.int .i64 k)).put 3 (.slice A' l.length c')
    simpa using this
  have HB := hid hbF
  have HU : Hid (Upd No w (((((w3.setCell ⟨w.heap.size, 3, none⟩ (.slice A' l.length c')).setCell ⟨w.heap.size + 1, 0, none⟩ (.string s)).setCell ⟨w.heap.size + 1, 1, none⟩ (.int .u64 n)).setCell ⟨w.heap.size + 1, 2, none⟩ (.int .i64 k)).setCell ⟨w.heap.size + 1, 3, none⟩ (.slice A' l.length c'))) := hid (((((hu4.set (.inr (by simp)) _).set (.inr (by simp)) _).set (.inr (by simp)) _).set (.inr (by simp)) _).set (.inr (by simp)) _)
  have hrF : Hid (Rn (((((w3.setCell ⟨w.heap.size, 3, none⟩ (.slice A' l.length c')).setCell ⟨w.heap.size + 1, 0, none⟩ (.string s)).setCell ⟨w.heap.size + 1, 1, none⟩ (.int .u64 n)).setCell ⟨w.heap.size + 1, 2, none⟩ (.int .i64 k)).setCell ⟨w.heap.size + 1, 3, none⟩ (.slice A' l.length c')) .i64 A' l) := hid (by
    have hr3 : Rd w3 1 A' l.length (nums .i64 l) := Rd.of_own ho
    have hne : ∀ ad, A' = some ad → ad.block ≠ w.heap.size ∧ ad.block ≠ w.heap.size + 1 := fun ad e => by
      have h1 := (ho.lt ad.block (by rw [e]; rfl)).1
      omega
    refine Rd.upd (F := fun k => k = w.heap.size ∨ k = w.heap.size + 1) hr3 (by omega) (((((((Upd.refl _ _).set (.inl (.inl rfl)) _).set (.inl (.inr rfl)) _).set (.inl (.inr rfl)) _).set (.inl (.inr rfl)) _).set (.inl (.inr rfl)) _)) (fun ad e hk => ?_)
    have := hne ad e
    omega)
  have hfr : Hid (∀ kk, (Value.slice A' l.length c').ownBlock = some kk → w.heap.size ≤ kk ∧ ∃ cs, Blk (((((w3.setCell ⟨w.heap.size, 3, none⟩ (.slice A' l.length c')).setCell ⟨w.heap.size + 1, 0, none⟩ (.string s)).setCell ⟨w.heap.size + 1, 1, none⟩ (.int .u64 n)).setCell ⟨w.heap.size + 1, 2, none⟩ (.int .i64 k)).setCell ⟨w.heap.size + 1, 3, none⟩ (.slice A' l.length c')) kk 2 cs) := hid fun kk hk => by
    have h1 := (ho.lt kk hk).1
    obtain ⟨cs, hB⟩ := own_blk ho hk
    exact ⟨by omega, cs, ((((hB.far (by simp; omega) _).far (by simp; omega) _).far (by simp; omega) _).far (by simp; omega) _).far (by simp; omega) _⟩
  have hcc := own_shape ho
  generalize (((((w3.setCell ⟨w.heap.size, 3, none⟩ (.slice A' l.length c')).setCell ⟨w.heap.size + 1, 0, none⟩ (.string s)).setCell ⟨w.heap.size + 1, 1, none⟩ (.int .u64 n)).setCell ⟨w.heap.size + 1, 2, none⟩ (.int .i64 k)).setCell ⟨w.heap.size + 1, 3, none⟩ (.slice A' l.length c')) = W5 at *
  obtain ⟨q0, q1, q2, q3⟩ := box HB.out
  obtain ⟨A9, c9, e9, h91, h92⟩ := hcc
  simp only [Value.slice.injEq, true_and] at e9
  refine bodyPost_ret (v := val (s, n, k, l) (.slice A' l.length c')) (by simp [results, go_sem, q0, q1, q2, q3, val]) rfl (.of ⟨_, rfl, ⟨A', c', rfl, hrF.out, by rw [e9.2]; exact h91, by rw [e9.2]; exact h92⟩, HU.out, hfr.out⟩)
end Go.Proofs.Ytgbdpplnfcfhmaa.Ir
