/-
  Letters: the walks of package letter's and of the reference's small functions.
-/
import Derived.Test.YtgbdpplnfcfhmaaBase
import Derived.Test.YtgbdpplnfcfhmaaSl
import Derived.Test.YtgbdpplnfcfhmaaRg
import Derived.Test.YtgbdpplnfcfhmaaProg
import Derived.Lib.SliceRun
import Derived.WalkSpells
import Derived.Deep.RegionHeld3
import Derived.Deep.RegionLaw
import Derived.Deep.DrawnRows
set_option linter.unusedVariables false
set_option linter.unusedSimpArgs false
namespace Go.Proofs.Ytgbdpplnfcfhmaa.Lt
open Go.RowKit Go.Proofs.Ytgbdpplnfcfhmaa.B
/-- A letter: from, serial, kind, arguments. -/
abbrev L := ByteArray × Int × Int × List Int
def cells (x : L) (v : Value) : List Value := [.string x.1, .int .u64 x.2.1, .int .i64 x.2.2.1, v]
def val (x : L) (v : Value) : Value := .agg #[.string x.1, .int .u64 x.2.1, .int .i64 x.2.2.1, v]
def zero : L := (⟨#[]⟩, 0, 0, [])
/-- v reads as the letter's arguments. -/
def In (w : World) (x : L) (v : Value) : Prop := ∃ A c, v = .slice A x.2.2.2.length c ∧ Rn w .i64 A x.2.2.2 ∧ x.2.2.2.length ≤ c ∧ c ≤ maxLen
theorem In.upd {F : Nat → Prop} {w w' : World} {x : L} {v : Value} (h : In w x v) (hu : Upd F w w') (hn : ∀ g, v.ownBlock = some g → ¬ F g) : In w' x v := by
  obtain ⟨A, c, rfl, hr, h1⟩ := h
  exact ⟨A, c, rfl, Rd.upd hr (by omega) hu (fun ad e => hn _ (by rw [e]; rfl)), h1⟩
theorem In.nil (w : World) : In w zero (.slice none 0 0) := ⟨none, 0, rfl, Rd.nil_ _ _ _, Nat.le_refl _, Nat.zero_le _⟩
theorem i64_info : (Try.prog.info? 2).map (fun i => (i.zero, i.size, i.bytes)) = some (some (.int .i64 0), 1, 8) := by kernel_rfl
theorem lt_info : (Try.prog.info? 30).map (fun i => (i.zero, i.size, i.bytes)) = some (some (.agg #[.string ⟨#[]⟩, .int .u64 0, .int .i64 0, .slice none 0 0]), 4, 56) := by kernel_rfl
theorem clone_info : (Try.prog.info? 2).map (fun i => (i.zero, i.size, i.bytes)) = some (some (.int .i64 0), 1, 8) := by kernel_rfl
set_option maxHeartbeats 1000000 in
/-- slices.Clone. -/
theorem clone (A : Option Addr) (n c : Nat) (xs : List Value) (w : World) (hr : Rd w 1 A n xs) (h1 : ∀ u ∈ xs, u.oneCell' = true) (hn : n * 8 ≤ 140737488355328) :
    Calls Try.prog 36 #[.slice A n c] w fun e w' => ∃ A' c', e = .returned (.slice A' n c') ∧ w'.ownsRow w.heap.size 2 1 (.slice A' n c') n xs ∧ Upd No w w' ∧ (A = none → A' = none) := by
  have q : ∀ (w : World) (a : Option Addr) (n c n' c' : Nat), (binOp .eql 22 (.slice a n c) (.slice none n' c')).run Try.prog w = .ok (.bool a.isNone) w := fun w a n c n' c' => Go.Lib.run_eql_slice_nil w _ _ a n c n' c' Try.underlying22
  rcases A with _ | ad
  · obtain rfl : n = 0 := by
      rcases Nat.eq_zero_or_pos n with h0 | h0
      · exact h0
      · obtain ⟨ad, h, _⟩ := hr.2 h0
        cases h
    obtain rfl : xs = [] := List.eq_nil_of_length_eq_zero (by simpa using hr.1)
    go_enter Try.func36, Try.ntmps36
    go_wp2
    go_ret
    exact ⟨none, 0, rfl, ⟨by simp, .inl ⟨rfl, rfl⟩⟩, Upd.refl _ _, fun _ => rfl⟩
  · go_enter Try.func36, Try.ntmps36
    go_wp2_with (at_builtin; refine ap_row w.heap.size rfl _ _ 22 2 (.int .i64 0) 1 8 rfl Try.underlying22 clone_info rfl (by omega) (.slice (some ⟨w.heap.size, 0, none⟩) 0 0) 0 [] (some ad) n c xs rfl rfl (World.ownsRow_made w #[] 0 (Nat.le_refl _) (Nat.zero_le _) rfl) (Rd.alloc hr (by omega) _) h1 (by omega) (by omega) (by simp) ?_; intro A1 c1 w1 ho hg hat; rw [Nat.zero_add, List.nil_append] at ho; rw [Nat.zero_add])
    go_wp2
    go_ret
    refine ⟨A1, c1, rfl, ho, ?_, fun h => by cases h⟩
    have h5 : Upd No w (w.alloc (.cells #[] 2)) := (Upd.refl _ _).alloc _
    exact h5.grown hg fun k hk => by
      have : w.heap.size = k := by simpa [Value.ownBlock] using hk
      exact .inr (by omega)
theorem box {W : World} {b : Nat} {t : TypeId} {a0 a1 a2 a3 : Value} (h : Blk W b t #[a0, a1, a2, a3]) : W.cell? ⟨b, 0, none⟩ = some a0 ∧ W.cell? ⟨b, 1, none⟩ = some a1 ∧ W.cell? ⟨b, 2, none⟩ = some a2 ∧ W.cell? ⟨b, 3, none⟩ = some a3 := by
  have h0 := h.cell 0
  have h1 := h.cell 1
  have h2 := h.cell 2
  have h3 := h.cell 3
  simp at h0 h1 h2 h3
  exact ⟨h0, h1, h2, h3⟩
/-- Is a letter formed? -/
def formed (x : L) : Bool := decide (x.1.size ≤ 40) && decide (x.2.2.2.length ≤ 4)
set_option maxHeartbeats 1000000 in
theorem formed_ (x : L) (v : Value) (w : World) (h : In w x v) :
    Calls Try.prog 26 #[val x v] w fun e w' => e = .returned (.bool (formed x)) ∧ Upd No w w' := by
  obtain ⟨s, n, k, l⟩ := x
  obtain ⟨A, c, rfl, hr, h1, h2⟩ := h
  simp only at h1 h2 hr
  unfold val
  have hu : Upd No w (w.alloc (.cells #[.string s, .int .u64 n, .int .i64 k, .slice A l.length c] 30)) := (Upd.refl _ _).alloc _
  by_cases hs : s.size ≤ 40
  · by_cases hl : l.length ≤ 4
    · rw [show formed (s, n, k, l) = true from by simp [formed, hs, hl]]
      go_enter Try.func26, Try.ntmps26
      go_wp2
      go_ret
      exact ⟨(by show Ending.returned (.bool (decide ((l.length : Int) ≤ 4))) = _; rw [decide_eq_true (by omega)]), hu⟩
    · rw [show formed (s, n, k, l) = false from by simp [formed, hl]]
      go_enter Try.func26, Try.ntmps26
      go_wp2
      go_ret
      exact ⟨(by show Ending.returned (.bool (decide ((l.length : Int) ≤ 4))) = _; rw [decide_eq_false (by omega)]), hu⟩
  · rw [show formed (s, n, k, l) = false from by simp [formed, hs]]
    go_enter Try.func26, Try.ntmps26
    go_wp2
    go_ret
    exact ⟨rfl, hu⟩
def CpOut (w : World) (x : L) (e : Ending) (w' : World) : Prop := ∃ v, e = .returned (val x v) ∧ In w' x v ∧ Upd No w w' ∧ ∀ k, v.ownBlock = some k → w.heap.size ≤ k ∧ ∃ cs, Blk w' k 2 cs
theorem CpOut.of {w : World} {x : L} {e : Ending} {w' : World} (h : ∃ v, e = .returned (val x v) ∧ In w' x v ∧ Upd No w w' ∧ ∀ k, v.ownBlock = some k → w.heap.size ≤ k ∧ ∃ cs, Blk w' k 2 cs) : CpOut w x e w' := h
set_option maxHeartbeats 1000000 in
theorem copy_ (x : L) (v : Value) (w : World) (h : In w x v) (hl : x.2.2.2.length ≤ 1000000) :
    Calls Try.prog 27 #[val x v] w fun e w' => CpOut w x e w' := by
  obtain ⟨s, n, k, l⟩ := x
  obtain ⟨A, c, rfl, hr, h1, h2⟩ := h
  simp only at h1 h2 hr hl
  unfold val
  have hu : Hid (∀ o1 o2, Upd No w ((w.alloc o1).alloc o2)) := hid fun o1 o2 => ((Upd.refl _ _).alloc _).alloc _
  have HC := hid (fun W (hu : Upd No w W) => clone A l.length c (nums .i64 l) W (Rd.upd hr (by omega) hu (fun _ _ => no_ _)) (nums_one .i64 l) (by omega))
  go_enter Try.func27, Try.ntmps27
  go_wp2_with (fail)
  have hb1 := (Blk.fresh w 30 #[.string s, .int .u64 n, .int .i64 k, .slice A l.length c]).alloc (.cells #[.string ⟨#[]⟩, .int .u64 0, .int .i64 0, .slice none 0 0] 30)
  have hb2 := Blk.fresh (w.alloc (.cells #[.string s, .int .u64 n, .int .i64 k, .slice A l.length c] 30)) 30 #[.string ⟨#[]⟩, .int .u64 0, .int .i64 0, .slice none 0 0]
  have hu0 := hu.out (.cells #[.string s, .int .u64 n, .int .i64 k, .slice A l.length c] 30) (.cells #[.string ⟨#[]⟩, .int .u64 0, .int .i64 0, .slice none 0 0] 30)
  rw [show (w.alloc (.cells #[.string s, .int .u64 n, .int .i64 k, .slice A l.length c] 30)).heap.size = w.heap.size + 1 from by simp] at hb2
  have HSZ : Hid (w.heap.size + 2 ≤ ((w.alloc (.cells #[.string s, .int .u64 n, .int .i64 k, .slice A l.length c] 30)).alloc (.cells #[.string ⟨#[]⟩, .int .u64 0, .int .i64 0, .slice none 0 0] 30)).heap.size) := hid (by simp)
  refine Calls.mono (HC.out _ hu0) ?_
  rintro e w3 ⟨A', c', rfl, ho, hu3, _⟩
  have hb3 := hb1.upd hu3 (no_ _)
  have hb4 := hb2.upd hu3 (no_ _)
  have hu4 := hu0.next hu3
  generalize (w.alloc (.cells #[.string s, .int .u64 n, .int .i64 k, .slice A l.length c] 30)).alloc (.cells #[.string ⟨#[]⟩, .int .u64 0, .int .i64 0, .slice none 0 0] 30) = w1 at *
  obtain ⟨y0, y1, y2, y3⟩ := box hb3
  obtain ⟨z0, z1, z2, z3⟩ := box hb4
  have f3 := hb3.free 3
  have g0 := hb4.free 0
  have g1 := hb4.free 1
  have g2 := hb4.free 2
  have g3 := hb4.free 3
  have hbF : Blk (((((w3.setCell ⟨w.heap.size, 3, none⟩ (.slice A' l.length c')).setCell ⟨w.heap.size + 1, 0, none⟩ (.string s)).setCell ⟨w.heap.size + 1, 1, none⟩ (.int .u64 n)).setCell ⟨w.heap.size + 1, 2, none⟩ (.int .i64 k)).setCell ⟨w.heap.size + 1, 3, none⟩ (.slice A' l.length c')) (w.heap.size + 1) 30 #[.string s, .int .u64 n, .int .i64 k, .slice A' l.length c'] := by
    have := ((((hb4.far (p := ⟨w.heap.size, 3, none⟩) (by simp) (.slice A' l.length c')).put 0 (.string s)).put 1 (.int .u64 n)).put 2 (.int .i64 k)).put 3 (.slice A' l.length c')
    simpa using this
  have HB := hid hbF
  have HU : Hid (Upd No w (((((w3.setCell ⟨w.heap.size, 3, none⟩ (.slice A' l.length c')).setCell ⟨w.heap.size + 1, 0, none⟩ (.string s)).setCell ⟨w.heap.size + 1, 1, none⟩ (.int .u64 n)).setCell ⟨w.heap.size + 1, 2, none⟩ (.int .i64 k)).setCell ⟨w.heap.size + 1, 3, none⟩ (.slice A' l.length c'))) := hid (((((hu4.set (.inr (by simp)) _).set (.inr (by simp)) _).set (.inr (by simp)) _).set (.inr (by simp)) _).set (.inr (by simp)) _)
  have hrF : Hid (Rn (((((w3.setCell ⟨w.heap.size, 3, none⟩ (.slice A' l.length c')).setCell ⟨w.heap.size + 1, 0, none⟩ (.string s)).setCell ⟨w.heap.size + 1, 1, none⟩ (.int .u64 n)).setCell ⟨w.heap.size + 1, 2, none⟩ (.int .i64 k)).setCell ⟨w.heap.size + 1, 3, none⟩ (.slice A' l.length c')) .i64 A' l) := hid (by
    have hr3 : Rd w3 1 A' l.length (nums .i64 l) := Rd.of_own ho
    have hne : ∀ ad, A' = some ad → ad.block ≠ w.heap.size ∧ ad.block ≠ w.heap.size + 1 := fun ad e => by
      have h1 := (ho.lt ad.block (by rw [e]; rfl)).1
      have h2 := hu0.size
      have h3 := HSZ.out
      omega
    refine Rd.upd (F := fun k => k = w.heap.size ∨ k = w.heap.size + 1) hr3 (by omega) (((((((Upd.refl _ _).set (.inl (.inl rfl)) _).set (.inl (.inr rfl)) _).set (.inl (.inr rfl)) _).set (.inl (.inr rfl)) _).set (.inl (.inr rfl)) _)) (fun ad e hk => ?_)
    have := hne ad e
    omega)
  have hfr : Hid (∀ kk, (Value.slice A' l.length c').ownBlock = some kk → w.heap.size ≤ kk ∧ ∃ cs, Blk (((((w3.setCell ⟨w.heap.size, 3, none⟩ (.slice A' l.length c')).setCell ⟨w.heap.size + 1, 0, none⟩ (.string s)).setCell ⟨w.heap.size + 1, 1, none⟩ (.int .u64 n)).setCell ⟨w.heap.size + 1, 2, none⟩ (.int .i64 k)).setCell ⟨w.heap.size + 1, 3, none⟩ (.slice A' l.length c')) kk 2 cs) := hid fun kk hk => by
    have h1 := (ho.lt kk hk).1
    have h3 := HSZ.out
    obtain ⟨cs, hB⟩ := own_blk ho hk
    exact ⟨by omega, cs, ((((hB.far (by simp; omega) _).far (by simp; omega) _).far (by simp; omega) _).far (by simp; omega) _).far (by simp; omega) _⟩
  have hcc := own_shape ho
  clear hb1 hb2 hb3 hb4 hbF
  go_wp2
  generalize (((((w3.setCell ⟨w.heap.size, 3, none⟩ (.slice A' l.length c')).setCell ⟨w.heap.size + 1, 0, none⟩ (.string s)).setCell ⟨w.heap.size + 1, 1, none⟩ (.int .u64 n)).setCell ⟨w.heap.size + 1, 2, none⟩ (.int .i64 k)).setCell ⟨w.heap.size + 1, 3, none⟩ (.slice A' l.length c')) = W5 at *
  obtain ⟨q0, q1, q2, q3⟩ := box HB.out
  obtain ⟨A9, c9, e9, h91, h92⟩ := hcc
  simp only [Value.slice.injEq, true_and] at e9
  refine bodyPost_ret (v := val (s, n, k, l) (.slice A' l.length c')) (by simp [results, go_sem, q0, q1, q2, q3, val]) rfl (.of ⟨_, rfl, ⟨A', c', rfl, hrF.out, by rw [e9.2]; exact h91, by rw [e9.2]; exact h92⟩, HU.out, hfr.out⟩)
end Go.Proofs.Ytgbdpplnfcfhmaa.Lt
