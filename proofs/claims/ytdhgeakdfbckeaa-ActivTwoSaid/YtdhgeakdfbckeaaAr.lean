/-
  The reference's table; reeveref03.Same; reevelaw21.has.
-/
import Derived.Test.YtdhgeakdfbckeaaAt
set_option linter.unusedVariables false
set_option linter.unusedSimpArgs false
namespace Go.Proofs.Ytdhgeakdfbckeaa.At
open Go.RowKit Go.Proofs.Ytdhgeakdfbckeaa.B Go.Proofs.Ytdhgeakdfbckeaa.Df
def clip (r : Int) : Int := if r < 1 then 1 else if 10000 < r then 10000 else r
theorem clip_le (r : Int) : 1 ≤ clip r ∧ clip r ≤ 10000 := by
  unfold clip
  split
  · omega
  · split <;> omega
theorem mst_clip (r : Int) : mst (clip r) = clip r := by
  have := clip_le r
  unfold mst
  rw [if_neg (by omega)]
theorem strike_len (x : List ByteArray) (k : ByteArray) : decide ((strike x k).length < x.length) = hasK x k := by
  rcases h : hasK x k with _ | _
  · rw [strike_self h]
    exact decide_eq_false (by omega)
  · refine decide_eq_true ?_
    unfold hasK at h
    rw [List.any_eq_true] at h
    obtain ⟨y, hy, he⟩ := h
    have he' : k = y := by simpa using he
    exact List.length_filter_lt_length_iff_exists.2 ⟨y, hy, by simp [he']⟩
set_option maxHeartbeats 1000000 in
theorem new_ (r : Int) (w : World) : Calls Try.prog 8 #[.int .i64 r] w fun e w' => e = .returned (.pointer (some ⟨w.heap.size, 0, none⟩)) ∧ Ta w' (fun k => k = w.heap.size) w.heap.size (clip r) [] ∧ Upd No w w' := by
  have hT := fun o => Ta.new (w := w) (room := clip r) (o := o)
  have hU := fun o => (Upd.refl No w).alloc o
  unfold clip at hT ⊢
  by_cases h1 : r < 1
  · simp only [if_pos h1] at hT ⊢
    go_enter Try.func8, Try.ntmps8
    go_wp2
    go_ret
    exact ⟨rfl, hT _ rfl, hU _⟩
  · simp only [if_neg h1] at hT ⊢
    by_cases h2 : 10000 < r
    · simp only [if_pos h2] at hT ⊢
      have h3 : ¬ r ≤ 10000 := by omega
      go_enter Try.func8, Try.ntmps8
      go_wp2
      go_ret
      exact ⟨rfl, hT _ rfl, hU _⟩
    · simp only [if_neg h2] at hT ⊢
      have h3 : r ≤ 10000 := by omega
      go_enter Try.func8, Try.ntmps8
      go_wp2
      go_ret
      exact ⟨rfl, hT _ rfl, hU _⟩
/-! the reference's -/
def Tb (w : World) (F : Nat → Prop) (p : Nat) (most : Int) (x : List ByteArray) : Prop :=
  ∃ v, Blk w p 38 #[.int .i64 most, v] ∧ Sl w 0 9 1 v x.length (strs x) ∧ F p ∧ (∀ k, v.ownBlock = some k → F k) ∧ ∀ k, F k → k < w.heap.size
section
variable {w w' : World} {F H : Nat → Prop} {p : Nat} {most : Int} {x : List ByteArray}
theorem Tb.upd (h : Tb w F p most x) (hu : Upd H w w') (hn : ∀ k, F k → ¬ H k) : Tb w' F p most x := by
  obtain ⟨v, h1, h2, h3, h4, h5⟩ := h
  exact ⟨v, h1.upd hu (hn _ h3), h2.upd hu fun g hg => hn _ (h4 g hg), h3, h4, fun k hk => Nat.lt_of_lt_of_le (h5 k hk) hu.size⟩
theorem Tb.lt (h : Tb w F p most x) : ∀ k, F k → k < w.heap.size := by
  obtain ⟨v, h1, h2, h3, h4, h5⟩ := h
  exact h5
theorem Tb.new {o : Obj} (ho : o = .cells #[.int .i64 most, .slice none 0 0] 38) : Tb (w.alloc o) (fun k => k = w.heap.size) w.heap.size most [] := by
  subst ho
  exact ⟨_, Blk.fresh _ _ _, Sl.nil _ _ _ _, rfl, fun k hk => by simp [Value.ownBlock] at hk, fun k hk => by subst hk; simp⟩
/-- Behind a store of the list. -/
theorem Tb.fin {wz : World} {vz : Value} {y : List ByteArray} (h : Tb w F p most x) (hu : Upd F w wz) (hB : Blk wz p 38 #[.int .i64 most, vz]) (hO : Sl wz 0 9 1 vz y.length (strs y)) (hv : ∀ k, vz.ownBlock = some k → F k ∨ w.heap.size ≤ k) :
    ∃ F', Tb wz F' p most y ∧ Mv F F' w wz := by
  obtain ⟨v, h1, h2, h3, h4, h5⟩ := h
  refine ⟨fun k => F k ∨ vz.ownBlock = some k, ⟨vz, hB, hO, .inl h3, fun k hk => .inr hk, fun k hk => ?_⟩, ⟨hu, fun k hk => ?_⟩⟩
  · rcases hk with hk | hk
    · exact Nat.lt_of_lt_of_le (h5 k hk) hu.size
    · exact (hO.lt k hk).2
  · rcases hk with hk | hk
    · exact .inl hk
    · exact hv k hk
end
set_option maxHeartbeats 1000000 in
theorem rnew_ (r : Int) (w : World) : Calls Try.prog 9 #[.int .i64 r] w fun e w' => e = .returned (.pointer (some ⟨w.heap.size, 0, none⟩)) ∧ Tb w' (fun k => k = w.heap.size) w.heap.size (clip r) [] ∧ Upd No w w' := by
  have hT := fun o => Tb.new (w := w) (most := clip r) (o := o)
  have hU := fun o => (Upd.refl No w).alloc o
  unfold clip at hT ⊢
  by_cases h1 : r < 1
  · simp only [if_pos h1] at hT ⊢
    go_enter Try.func9, Try.ntmps9
    go_wp2
    go_ret
    exact ⟨rfl, hT _ rfl, hU _⟩
  · simp only [if_neg h1] at hT ⊢
    by_cases h2 : 10000 < r
    · simp only [if_pos h2] at hT ⊢
      have h3 : ¬ r ≤ 10000 := by omega
      go_enter Try.func9, Try.ntmps9
      go_wp2
      go_ret
      exact ⟨rfl, hT _ rfl, hU _⟩
    · simp only [if_neg h2] at hT ⊢
      have h3 : r ≤ 10000 := by omega
      go_enter Try.func9, Try.ntmps9
      go_wp2
      go_ret
      exact ⟨rfl, hT _ rfl, hU _⟩
theorem strike_keep {x : List ByteArray} {k : ByteArray} {j : Nat} (hj : j < x.length) (h : ¬ x[j] = k) : strike (x.take (j + 1)) k = strike (x.take j) k ++ [x[j]] := by
  unfold strike
  rw [List.take_succ_eq_append_getElem hj, List.filter_append]
  simp [h]
theorem strike_skip {x : List ByteArray} {k : ByteArray} {j : Nat} (hj : j < x.length) (h : x[j] = k) : strike (x.take (j + 1)) k = strike (x.take j) k := by
  unfold strike
  rw [List.take_succ_eq_append_getElem hj, List.filter_append]
  simp [h]
def RDrop (w : World) (F : Nat → Prop) (p : Nat) (most : Int) (x : List ByteArray) (k : ByteArray) (e : Ending) (w' : World) : Prop := e = .returned (.bool (hasK x k)) ∧ ∃ F', Tb w' F' p most (strike x k) ∧ Mv F F' w w'
theorem RDrop.of {w : World} {F : Nat → Prop} {p : Nat} {most : Int} {x : List ByteArray} {k : ByteArray} {e : Ending} {w' : World} (h : e = .returned (.bool (hasK x k)) ∧ ∃ F', Tb w' F' p most (strike x k) ∧ Mv F F' w w') : RDrop w F p most x k e w' := h
set_option maxHeartbeats 2000000 in
theorem rdrop {w : World} {F : Nat → Prop} {p : Nat} {most : Int} {x : List ByteArray} (k : ByteArray) (h : Tb w F p most x) (hl : x.length ≤ 20000) :
    Calls Try.prog 13 #[.pointer (some ⟨p, 0, none⟩), .string k] w fun e w' => RDrop w F p most x k e w' := by
  have HT := hid h
  obtain ⟨v, b0, s0, fp, fv, lt0⟩ := h
  obtain ⟨A, c, rfl, hc1, hc2⟩ := s0.shape
  obtain ⟨c0, c1⟩ := box2 b0
  have HS := hid (And.intro b0 (And.intro (Sl.rd s0) (And.intro fp lt0)))
  clear s0 fv lt0
  go_enter Try.func13, Try.ntmps13
  go_wp2_with (fail)
  go_loopw [5, 13] (fun v5 v13 W => ∃ (j : Nat) (m : List ByteArray) (A' : Option Addr) (k' : Nat), j ≤ x.length ∧ v13 = .int .i64 j ∧ v5 = .slice A' m.length k' ∧ Hid (m = strike (x.take j) k) ∧ m.length ≤ j ∧ Hid (W.ownsRow w.heap.size 9 1 (.slice A' m.length k') m.length (strs m)) ∧ Hid (Upd No w W)) (fun _ v13 _ => x.length - (intOf v13).toNat)
  case atStart => exact ⟨0, [], none, 0, by omega, rfl, rfl, hid (by simp [strike]), by simp, hid (World.ownsRow_nil _ _ _ _), hid (Upd.refl _ _)⟩
  case round =>
    obtain ⟨j, m, A', k', hj, rfl, rfl, HM, hmj, HO, HU⟩ := hrel
    have hb := HS.out.1.upd HU.out (no_ _)
    have hr := HS.out.2.1.upd (by omega) HU.out (fun _ _ => no_ _)
    obtain ⟨c0, c1⟩ := box2 hb
    have hbase := HU.out.size
    by_cases hlt : j < x.length
    · obtain ⟨ad, u, rfl, hu, hc⟩ := hr.at_ hlt
      rw [strs, List.getElem?_map, List.getElem?_eq_getElem hlt] at hu
      simp only [Option.map_some, Option.some.injEq] at hu
      subst hu
      have hj2 : (j : Int) < (x.length : Int) := by omega
      clear hr
      by_cases hy : x[j] = k
      · have HN : Hid (m = strike (x.take (j + 1)) k) := hid (by rw [strike_skip hlt hy, HM.out])
        rw [hy] at hc
        clear hy hb
        go_wp2
        go_roundw
        case rel => exact ⟨j + 1, m, A', k', by omega, by go_num, rfl, HN, by omega, HO, HU⟩
        case measure => simp [intOf]; omega
      · have HN : Hid (m ++ [x[j]] = strike (x.take (j + 1)) k) := hid (by rw [strike_keep hlt hy, HM.out])
        obtain ⟨n1, n2⟩ := ba_ne hy
        have hbl := World.block_lt_of_cell? _ _ hc
        generalize x[j] = y at *
        clear hy
        go_wp2_with (at_builtin; go_must (refine ap_one rfl (.tmp 25) (.tmp 33) 28 9 (.string ⟨#[]⟩) 16 rfl Try.underlying28 s_info rfl (.slice A' m.length k') m.length (strs m) (.string y) rfl rfl (Blk.fresh _ _ _) rfl (HO.out.alloc _) (by omega) (by omega) ?_ (by simp; omega)); intro g4 k4 w4 ho4 hg4 hat4)
        have hu4 : Upd No w w4 := (HU.out.alloc _).grown hg4 fun k hk => .inr (HO.out.lt k hk).1
        have HO4 := hid ho4
        have HU4 := hid hu4
        clear ho4 hu4 hg4 hat4
        go_wp2
        go_roundw
        case rel => exact ⟨j + 1, m ++ [y], _, _, by omega, by go_num, by rw [List.length_append]; rfl, HN, by simp; omega, hid (by rw [List.length_append, strs_append]; exact HO4.out), HU4⟩
        case measure => simp [intOf]; omega
    · obtain rfl : j = x.length := by omega
      have HE : Hid (m = strike x k) := hid (by rw [HM.out, List.take_of_length_le (Nat.le_refl _)])
      have hf1 := hb.free 1
      have HD : Hid (decide (m.length < x.length) = hasK x k) := hid (by rw [HE.out]; exact strike_len x k)
      clear hr
      go_wp2_with (fail)
      have HF : Hid (∃ F', Tb (wr.setCell ⟨p, 1, none⟩ (.slice A' m.length k')) F' p most (strike x k) ∧ Mv F F' w (wr.setCell ⟨p, 1, none⟩ (.slice A' m.length k'))) := hid (by
        rw [← HE.out]
        refine HT.out.fin ((HU.out.mono fun _ _ h => h.elim).set (p := ⟨p, 1, none⟩) (.inl HS.out.2.2.1) _) (by simpa using hb.put 1 (.slice A' m.length k')) ?_ (fun k' hk' => .inr (HO.out.lt k' hk').1)
        refine (Sl.of_own (own_base HO.out (Nat.zero_le _))).upd ((Upd.refl _ _).set1 1 _) fun g hg e => ?_
        have h1 := (HO.out.lt g hg).1
        have h2 := HS.out.2.2.2 p HS.out.2.2.1
        omega)
      go_ret
      exact .of ⟨(show Ending.returned (.bool (decide (m.length < x.length))) = _ from by rw [HD.out]), HF.out⟩
end Go.Proofs.Ytdhgeakdfbckeaa.At
