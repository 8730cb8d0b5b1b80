/-
  The walks of package codec's Writer.
-/
import Derived.Test.YtlicimkpgnemeaaBase
import Derived.Test.YtlicimkpgnemeaaCm
import Derived.Test.YtlicimkpgnemeaaLen
import Derived.Test.YtlicimkpgnemeaaProg
import Derived.Deep.RegionHeld3
import Derived.Deep.RegionLaw
import Derived.Deep.DrawnRows
set_option linter.unusedVariables false
set_option linter.unusedSimpArgs false
namespace Go.Proofs.Ytlicimkpgnemeaa.Cw
open Go.RowKit Go.Proofs.Ytlicimkpgnemeaa.B Go.Proofs.Ytlicimkpgnemeaa.Cm Go.Proofs.Ytlicimkpgnemeaa.Len
theorem u8_info : (Try.prog.info? 5).map (fun i => (i.zero, i.size, i.bytes)) = some (some (.int .u8 0), 1, 1) := by kernel_rfl

/-- A writer at block p that has written bs; F: its blocks. -/
def Wr (w : World) (F : Nat → Prop) (p : Nat) (bs : List Int) : Prop :=
  ∃ v, Blk w p 96 #[v] ∧ w.ownsRow 0 5 1 v bs.length (nums .u8 bs) ∧ ∀ k, F k ↔ k = p ∨ v.ownBlock = some k
theorem Wr.keep {w w' : World} {F : Nat → Prop} {p : Nat} {bs : List Int} (h : Wr w F p bs) {G : Nat → Prop} (hu : Upd G w w') (hn : ∀ k, F k → ¬ G k) : Wr w' F p bs := by
  obtain ⟨v, hb, ho, hF⟩ := h
  exact ⟨v, hb.upd hu (hn p ((hF p).2 (.inl rfl))), own_upd ho hu fun g hg => hn g ((hF g).2 (.inr hg)), hF⟩
theorem Wr.lt {w : World} {F : Nat → Prop} {p : Nat} {bs : List Int} (h : Wr w F p bs) : ∀ k, F k → k < w.heap.size := by
  obtain ⟨v, hb, ho, hF⟩ := h
  intro k hk
  rcases (hF k).1 hk with rfl | hk
  · exact hb.lt
  · exact (ho.lt k hk).2
/-- Behind 'w.b = append(w.b, ..)'. -/
theorem Wr.pushed' {w w1 : World} {F : Nat → Prop} {p c : Nat} {A : Option Addr} {v : Value} {bs cs : List Int} (hb : Blk w p 96 #[v]) (ho : w.ownsRow 0 5 1 v bs.length (nums .u8 bs)) (hF : ∀ k, F k ↔ k = p ∨ v.ownBlock = some k)
    (ho1 : w1.ownsRow 0 5 1 (.slice A (bs.length + cs.length) c) (bs.length + cs.length) (nums .u8 bs ++ nums .u8 cs)) {W : World} (hW : Upd No w W) (hg1 : W.grownBy w1 v.ownBlock)
    (hat : ∀ g, (Value.slice A (bs.length + cs.length) c).ownBlock = some g → v.ownBlock = some g ∨ W.heap.size ≤ g) (hb1 : Blk w1 p 96 #[v]) :
    ∃ F', Wr (w1.setCell ⟨p, 0, none⟩ (.slice A (bs.length + cs.length) c)) F' p (bs ++ cs) ∧ Mv F F' w (w1.setCell ⟨p, 0, none⟩ (.slice A (bs.length + cs.length) c)) := by
  have hne := own_blk_ne ho1 hb1 (by decide)
  refine ⟨fun k => k = p ∨ (Value.slice A (bs.length + cs.length) c).ownBlock = some k, ⟨_, hb1.put 0 _, ?_, fun k => Iff.rfl⟩, ⟨?_, ?_⟩⟩
  · rw [nums_append, List.length_append]
    exact own_keep ho1 fun k hk => Below.heap_setCell _ _ _ _ (by rintro rfl; exact hne hk)
  · exact ((hW.mono fun _ _ h => h.elim).grown hg1 fun k hk => .inl ((hF k).2 (.inr hk))).set (.inl ((hF p).2 (.inl rfl))) _
  · rintro k (rfl | hk)
    · exact .inl ((hF _).2 (.inl rfl))
    · rcases hat k hk with h | h
      · exact .inl ((hF _).2 (.inr h))
      · exact .inr (Nat.le_trans hW.size h)
theorem Wr.pushed {w w1 : World} {F : Nat → Prop} {p g c : Nat} {v : Value} {bs cs : List Int} (hb : Blk w p 96 #[v]) (ho : w.ownsRow 0 5 1 v bs.length (nums .u8 bs)) (hF : ∀ k, F k ↔ k = p ∨ v.ownBlock = some k)
    (ho1 : w1.ownsRow 0 5 1 (.slice (some ⟨g, 0, none⟩) (bs.length + cs.length) c) (bs.length + cs.length) (nums .u8 bs ++ nums .u8 cs)) {W : World} (hW : Upd No w W) (hg1 : W.grownBy w1 v.ownBlock) (hat : v.ownBlock = some g ∨ W.heap.size ≤ g) (hb1 : Blk w1 p 96 #[v]) :
    ∃ F', Wr (w1.setCell ⟨p, 0, none⟩ (.slice (some ⟨g, 0, none⟩) (bs.length + cs.length) c)) F' p (bs ++ cs) ∧ Mv F F' w (w1.setCell ⟨p, 0, none⟩ (.slice (some ⟨g, 0, none⟩) (bs.length + cs.length) c)) :=
  Wr.pushed' hb ho hF ho1 hW hg1 (fun k hk => by
    have : g = k := by simpa [Value.ownBlock] using hk
    subst this
    exact hat) hb1

set_option maxHeartbeats 400000 in
theorem newWriter (w : World) : Calls Try.prog 35 #[] w fun e w' => e = .returned (.pointer (some ⟨w.heap.size, 0, none⟩)) ∧ w.alloc (.cells #[.slice none 0 0] 96) = w' := by
  go_enter Try.func35, Try.ntmps35
  go_wp2
  go_ret
  exact ⟨rfl, rfl⟩
theorem Wr.new (w : World) : Wr (w.alloc (.cells #[.slice none 0 0] 96)) (fun k => k = w.heap.size) w.heap.size [] :=
  ⟨_, Blk.fresh w _ _, World.ownsRow_nil _ _ _ _, fun k => by simp [Value.ownBlock]⟩

set_option maxHeartbeats 400000 in
theorem number_nil (n : Int) (w : World) : Calls Try.prog 36 #[.pointer none, .int .u64 n] w fun e w' => e = .returned (.tuple #[]) ∧ w = w' := by
  go_enter Try.func36, Try.ntmps36
  go_wp2
  exact bodyPost_ret (results_none rfl _ _ _) rfl ⟨rfl, rfl⟩

set_option maxHeartbeats 400000 in
theorem number_small (p : Nat) (bs : List Int) (n : Int) (F : Nat → Prop) (w : World) (hw : Wr w F p bs) (h0 : 0 ≤ n) (h1 : n < 248) (hl : bs.length ≤ 140737488355327) :
    Calls Try.prog 36 #[.pointer (some ⟨p, 0, none⟩), .int .u64 n] w fun e w' => e = .returned (.tuple #[]) ∧ ∃ F', Wr w' F' p (bs ++ [n]) ∧ Mv F F' w w' := by
  obtain ⟨v, hb, ho, hF⟩ := hw
  have hc := hb.cell 0
  have hf := hb.free 0
  simp at hc
  go_enter Try.func36, Try.ntmps36
  go_wp2_with (at_builtin; go_must (refine ap_one rfl (.tmp 14) (.tmp 17) 50 5 (.int .u8 0) 1 rfl Try.underlying50 u8_info rfl v bs.length (nums .u8 bs) _ rfl rfl (Blk.fresh _ _ _) rfl (ho.alloc _) (by omega) (by omega) ?_); intro g1 c1 w1 ho1 hg1 hat1; have hb1 := (hb.alloc _).grown hg1 (own_blk_ne ho hb (by decide)).symm; have hc1 := hb1.cell 0; have hf1 := hb1.free 0; simp at hc1)
  exact bodyPost_ret (results_none rfl _ _ _) rfl ⟨rfl, Wr.pushed (cs := [n]) hb ho hF ho1 ((Upd.refl _ _).alloc _) hg1 hat1 hb1⟩

/-- The byte that a round lays. -/
theorem shift_byte (n : Int) (k j : Nat) (hj : j < k) (hk : k ≤ 8) : Op.shift .shr .u64 n .i64 (IntKind.i64.wrap (8 * ((k : Int) - 1 - j))) = pure (.int .u64 (n / 256 ^ (k - 1 - j))) := by
  have e : IntKind.i64.wrap (8 * ((k : Int) - 1 - j)) = 8 * ((k : Int) - 1 - j) := IntWalk.i64_in _ (by omega)
  have e2 : (8 * ((k : Int) - 1 - j)).toNat = 8 * (k - 1 - j) := by omega
  rw [e, shift_shr_u64 _ _ _ (by omega) (by omega), e2, Int.pow_mul]
  rfl
set_option maxHeartbeats 1000000 in
set_option maxRecDepth 100000 in
theorem number_big (p : Nat) (bs : List Int) (n : Int) (F : Nat → Prop) (w : World) (hw : Wr w F p bs) (h0 : 248 ≤ n) (h1 : n ≤ 18446744073709551615) (hl : bs.length ≤ 140737488355000) :
    Calls Try.prog 36 #[.pointer (some ⟨p, 0, none⟩), .int .u64 n] w fun e w' => e = .returned (.tuple #[]) ∧ ∃ F', Wr w' F' p (bs ++ (247 + nb n : Int) :: be n (nb n) (nb n)) ∧ Mv F F' w w' := by
  obtain ⟨v, hb, ho, hF⟩ := hw
  have hc := hb.cell 0
  have hf := hb.free 0
  simp at hc
  have hnb := nb_pos n
  go_enter Try.func36, Try.ntmps36
  go_wp2_with (fail)
  refine (len64 n w (by omega) h1).mono ?_
  rintro e w' ⟨L, rfl, ⟨hL0, hL1, hL⟩, rfl⟩
  have hk := hL h0
  clear hL
  go_wp2_with (at_builtin; go_must (refine ap_one rfl (.tmp 29) (.tmp 33) 50 5 (.int .u8 0) 1 rfl Try.underlying50 u8_info rfl v bs.length (nums .u8 bs) _ rfl rfl (Blk.fresh _ _ _) rfl (ho.alloc _) (by omega) (by omega) ?_); intro g1 c1 w1 ho1 hg1 hat1; have hb1 := (hb.alloc _).grown hg1 (own_blk_ne ho hb (by decide)).symm; have hc1 := hb1.cell 0; have hf1 := hb1.free 0; simp at hc1)
  obtain ⟨F1, hw1, hm1⟩ := Wr.pushed (cs := [247 + (nb n : Int)]) hb ho hF ho1 ((Upd.refl _ _).alloc _) hg1 hat1 hb1
  generalize hg : (w1.setCell ⟨p, 0, none⟩ (.slice (some ⟨g1, 0, none⟩) (bs.length + 1) c1)) = w2 at *
  clear hg ho1 hg1 hat1 hb1 hc1 hf1 hb ho hF hc hf hk hL0 hL1
  have h0' := h0
  go_loopw [5] (fun v5 wr => ∃ (j : Nat) (F' : Nat → Prop) (cs : List Int), j ≤ nb n ∧ v5 = .int .i64 ((nb n : Int) - 1 - j) ∧ Hid (cs = bs ++ (247 + nb n : Int) :: be n (nb n) j) ∧ Wr wr F' p cs ∧ Mv F F' w wr) (fun v5 _ => (intOf v5 + 1).toNat)
  case atStart => exact ⟨0, F1, _, by omega, by simp, hid (by simp [be]), hw1, hm1⟩
  case round =>
    obtain ⟨j, F2, cs, hj, rfl, hcs, hw2, hm2⟩ := hrel
    have hlen : cs.length ≤ 140737488355100 := by rw [hcs.out]; simp [be_length]; omega
    obtain ⟨v2, hb, ho, hF⟩ := hw2
    have hc := hb.cell 0
    have hf := hb.free 0
    simp at hc
    by_cases hlt : j < nb n
    · have hg1 : (0 : Int) ≤ (nb n : Int) - 1 - j := by omega
      have k1 : cs.length + 1 ≤ 9223372036854775807 := by omega
      have k2 : (cs.length + 1) * 1 ≤ 140737488355328 := by omega
      have hca : ∀ o, (wr.alloc o).cell? ⟨p, 0, none⟩ = some v2 := fun o => by simpa using (hb.alloc o).cell 0
      have hsh := shift_byte n (nb n) j hlt (by omega)
      go_wp2
      go_region_law ((refine step_ap_one (by rfl) (.tmp 47) (.tmp 53) 50 5 (.int .u8 0) 1 (by rfl) Try.underlying50 u8_info rfl v2 _ _ (.int .u8 (IntKind.u8.wrap (n / 256 ^ (nb n - 1 - j)))) (by rfl) (b := wr.heap.size) (by rfl) (Blk.fresh wr _ _).drew rfl (own_drew (ho.alloc _)) k1 k2 ?_; intro g1 c1 w1 ho1 hg1 hat1; have hb1 := ((hb.alloc _).drew).grown hg1 (own_blk_ne ho hb (by decide)).symm; have hf1 := hb1.free 0; have hc1 := hb1.cell 0; simp at hc1))
      all_goals
        obtain ⟨F3, hw3, hm3⟩ := Wr.pushed (cs := [n / 256 ^ (nb n - 1 - j) % 256]) hb ho hF (by simpa [nums, IntKind.wrap_u8] using ho1) ((Upd.refl _ _).alloc _).drew hg1 hat1 hb1
        go_wp2
        go_roundw
        case rel => exact ⟨j + 1, F3, _, by omega, by go_num, hid (by rw [hcs.out, be_succ]; simp), hw3, hm2.trans hm3⟩
        case measure => simp [intOf]; omega
    · have hg1 : ¬ (0 : Int) ≤ (nb n : Int) - 1 - j := by omega
      go_wp2
      obtain rfl : j = nb n := by omega
      go_end0
      exact ⟨rfl, F2, hcs.out ▸ ⟨v2, hb, ho, hF⟩, hm2⟩

/-- Number lays a number's bytes. -/
theorem number (p : Nat) (bs : List Int) (n : Int) (F : Nat → Prop) (w : World) (hw : Wr w F p bs) (h0 : 0 ≤ n) (h1 : n ≤ 18446744073709551615) (hl : bs.length ≤ 140737488355000) :
    Calls Try.prog 36 #[.pointer (some ⟨p, 0, none⟩), .int .u64 n] w fun e w' => e = .returned (.tuple #[]) ∧ ∃ F', Wr w' F' p (bs ++ num n) ∧ Mv F F' w w' := by
  unfold num
  by_cases h : n < 248
  · rw [if_pos h]
    exact number_small p bs n F w hw h0 h (by omega)
  · rw [if_neg h]
    exact number_big p bs n F w hw (by omega) h1 hl
end Go.Proofs.Ytlicimkpgnemeaa.Cw
