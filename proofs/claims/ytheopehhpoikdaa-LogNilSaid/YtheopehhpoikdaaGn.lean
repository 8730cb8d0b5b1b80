/-
  The walk of LogNil.
-/
import Derived.Test.YtheopehhpoikdaaGv
set_option linter.unusedVariables false
set_option linter.unusedSimpArgs false
namespace Go.Proofs.Ytheopehhpoikdaa.Gl
open Go.RowKit Go.Proofs.Ytheopehhpoikdaa Go.Proofs.Ytheopehhpoikdaa.B Go.Proofs.Ytheopehhpoikdaa.Cm Go.Proofs.Ytheopehhpoikdaa.Sm Go.Proofs.Ytheopehhpoikdaa.Dk Go.Proofs.Ytheopehhpoikdaa.Gp
/-- Append of an empty slice. -/
theorem append_zero (q p : Nat) (m : Lm) (F : Nat → Prop) (A : Option Addr) (c : Nat) (w : World) (h : Lg w F q p m) (hov : m.over = false) :
    Calls Try.prog 11 #[.pointer (some ⟨q, 0, none⟩), .slice A 0 c] w fun e w' => e = .returned (.int .i64 1) ∧ Upd No w w' := by
  obtain ⟨vu, h1, h2, h3, h4⟩ := h
  obtain ⟨_, _, _, _, _, _, c6⟩ := Lg.cells h1
  rw [hov] at c6
  clear h1 h2 h3 h4 hov
  go_enter Try.func11, Try.ntmps11
  go_wp2
  go_ret
  exact ⟨rfl, Upd.refl _ _⟩
/-- Units, of a log of one unit: new memory that may be written. -/
structure U1 (b : List Int) (W W' : World) (g gb cb : Nat) (cs : Array Value) : Prop where
  cell : W'.cell? ⟨g, 0, none⟩ = some (.slice (some ⟨gb, 0, none⟩) b.length cb)
  lg : W.heap.size ≤ g
  lgb : W.heap.size ≤ gb
  ne : g ≠ gb
  ltg : g < W'.heap.size
  rn : Rn W' .u8 (some ⟨gb, 0, none⟩) b
  blk : Blk W' gb 5 cs
  num : ∀ i, i < b.length → ∃ x, cs[i]? = some (.int .u8 x)
  upd : Upd No W W'
def U1Out (b : List Int) (W : World) (e : Ending) (W' : World) : Prop := ∃ g cg gb cb cs, e = .returned (.slice (some ⟨g, 0, none⟩) 1 cg) ∧ U1 b W W' g gb cb cs
theorem units1 (q p : Nat) (m : Lm) (F : Nat → Prop) (b : List Int) (w : World) (h : Lg w F q p m) (hok : m.ok) (hus : m.us = [b]) (hb : b ≠ []) :
    Calls Try.prog 15 #[.pointer (some ⟨q, 0, none⟩)] w fun e w' => U1Out b w e w' := by
  refine (units q p m F w h hok).mono ?_
  rintro e w' ⟨A, c, rfl, ⟨vs, h1, h2, h3, h4⟩, hu⟩
  rw [hus] at *
  have hpos := List.length_pos_iff.2 hb
  match vs, h1 with
  | [x], h1 =>
    simp only [List.map_cons, List.map_nil, List.cons.injEq, and_true] at h1
    obtain ⟨x1, x2⟩ := x
    simp only at h1
    subst h1
    obtain ⟨_, ⟨_, h0⟩ | ⟨g, cap, cur, hv, _, hh, hle, hmx, hsz, htk⟩⟩ := h2
    · simp at h0
    · simp only [List.length_singleton, Value.slice.injEq] at hv
      obtain ⟨rfl, _, rfl⟩ := hv
      obtain ⟨hx1, hx2⟩ := h3 _ (List.mem_singleton.2 rfl)
      have hrn := hx1
      obtain ⟨_, ⟨_, h0⟩ | ⟨gb, cb, cs, hvb, _, hhb, hleb, hmxb, hszb, htkb⟩⟩ := hx1
      · simp only at h0; omega
      · simp only at hvb hx2 hrn htkb hleb
        subst hvb
        refine ⟨g, c, gb, cb, cs, rfl, ?_, h4 g rfl, hx2 gb rfl, Blk.ne_type (t := 31) hh (t' := 5) hhb (by decide), Blk.lt (t := 31) hh, Rd.of_own hrn, hhb, fun i hi => ?_, hu⟩
        · have hb2 : Blk w' g 31 cur := hh
          have h5 := hb2.cell 0
          rw [h5]
          have h6 : (cur.toList.take 1)[0]? = some (Value.slice (some ⟨gb, 0, none⟩) x1.length cb) := by
            simp only [List.length_singleton, Nat.mul_one] at htk
            rw [htk]
            rfl
          rw [List.getElem?_take_of_lt (by omega)] at h6
          simpa using h6
        · have h6 : (cs.toList.take x1.length)[i]? = some (.int .u8 (gi x1 i)) := by
            rw [Nat.mul_one] at htkb
            rw [htkb]
            exact nums_get .u8 x1 i hi
          rw [List.getElem?_take_of_lt hi] at h6
          exact ⟨gi x1 i, by simpa using h6⟩
/-- While the bytes of a slice that Units gave are changed. -/
structure Sc (b : List Int) (w6 W : World) (gb : Nat) : Prop where
  upd : Upd (fun k => k = gb) w6 W
  ex : ∃ cs, Blk W gb 5 cs ∧ ∀ i, i < b.length → ∃ x, cs[i]? = some (.int .u8 x)
theorem Sc.set {b : List Int} {w6 W : World} {gb : Nat} (h : Sc b w6 W gb) (k : Nat) (y : Int) : Sc b w6 (W.setCell ⟨gb, k, none⟩ (.int .u8 y)) gb := by
  obtain ⟨hu, cs, hb, hn⟩ := h
  refine ⟨hu.set (.inl rfl) _, _, hb.put k _, fun i hi => ?_⟩
  obtain ⟨x, hx⟩ := hn i hi
  by_cases hk : k = i
  · subst hk
    have : k < cs.size := by
      rcases Nat.lt_or_ge k cs.size with h | h
      · exact h
      · rw [Array.getElem?_eq_none h] at hx; cases hx
    exact ⟨y, by simp [Array.getElem?_setIfInBounds, this]⟩
  · exact ⟨x, by rw [Array.getElem?_setIfInBounds, if_neg hk]; exact hx⟩
set_option maxHeartbeats 8000000 in
set_option maxRecDepth 100000 in
theorem nil_law (fr count : Int) (A : Option Addr) (c : Nat) (b : List Int) (w : World) (hfr : -9223372036854775808 ≤ fr ∧ fr ≤ 9223372036854775807) (hco : -9223372036854775808 ≤ count ∧ count ≤ 9223372036854775807) (hr : Rn w .u8 A b) (hbc : b.length ≤ c ∧ c ≤ maxLen) (hby : Byte b) :
    Calls Try.prog 5 #[.int .i64 fr, .int .i64 count, .slice A b.length c] w fun e w' => e = .returned (.bool true) ∧ Below w.heap.size w w' := by
  have hl1 : c ≤ 9223372036854775807 := by have := hbc.2; simp only [maxLen] at this; omega
  have hl2 := hbc.1
  have HR := hid hr
  have HBy := hid hby
  obtain ⟨hfr1, hfr2⟩ := hfr
  obtain ⟨hco1, hco2⟩ := hco
  clear hbc hr hby
  by_cases h20 : (2000 : Int) < (b.length : Int)
  · go_enter Try.func5, Try.ntmps5
    go_wp2_with (fail)
    refine Calls.mono (awake w) ?_
    rintro e w1 ⟨rfl, hb1⟩
    have HB1 := hid hb1
    clear hb1
    go_wp2_with (fail)
    refine Calls.mono (awake w1) ?_
    rintro e w2 ⟨rfl, hb2⟩
    have HB2 := hid (HB1.out.trans (hb2.mono HB1.out.size))
    clear hb2
    go_wp2
    go_ret
    exact ⟨rfl, HB2.out⟩
  have hbn : b.length ≤ 2000 := by omega
  have HAr : Hid (areaB 10 fr count = decide (1 ≤ count ∧ 0 ≤ fr ∧ fr ≤ 10 ∧ count ≤ 10 - fr)) := hid rfl
  go_enter Try.func5, Try.ntmps5
  go_wp2_with (fail)
  refine Calls.mono (awake w) ?_
  rintro e w1 ⟨rfl, hb1⟩
  have HND := hid (new_disk 10 w w1 hb1 (by omega))
  clear hb1
  go_wp2_with (fail)
  refine HND.out.mono ?_
  rintro e w2 ⟨p, D0, rfl, hd2⟩
  have hO := open_ p ⟨10, [], -1, false⟩ D0 fr count 1 w2 hd2.dk ⟨by simp, by simp, by decide⟩ (fun x hx => by cases hx) (by omega)
  have hdis : ¬ (1 : Int) ≤ count ∨ ((1 : Int) ≤ count ∧ ¬ count ≤ 10) ∨ ((1 : Int) ≤ count ∧ count ≤ 10 ∧ ¬ (0 : Int) ≤ fr) ∨ ((1 : Int) ≤ count ∧ count ≤ 10 ∧ (0 : Int) ≤ fr ∧ ¬ fr ≤ 10 - count) ∨ ((1 : Int) ≤ count ∧ count ≤ 10 ∧ (0 : Int) ≤ fr ∧ fr ≤ 10 - count) := by omega
  have HD2 := hid hd2
  clear hd2 HND
  rcases hdis with h1 | ⟨h1, h2⟩ | ⟨h1, h2, h3⟩ | ⟨h1, h2, h3, h4⟩ | ⟨h1, h2, h3, h4⟩
  case' inr.inr.inr.inr =>
    have hop : opL ⟨10, [], -1, false⟩ fr count 1 = (0, some ⟨fr.toNat, count.toNat, 1, (scan 1 (bsOf ⟨10, [], -1, false⟩ fr.toNat) count.toNat 0 [] 0).1, (scan 1 (bsOf ⟨10, [], -1, false⟩ fr.toNat) count.toNat 0 [] 0).2, false⟩) := by
      unfold opL
      simp only
      rw [HAr.out, decide_eq_true ⟨h1, h3, by omega, by omega⟩, if_neg (by simp), if_neg (by simp)]
    rw [hop] at hO
    have HO := hid hO
    clear hO hop
    go_wp2_with (fail)
    refine HO.out.mono ?_
    rintro e w3 ⟨q3, F3, rfl, _, _, _, hu3⟩
  case' inl =>
    have hop : opL ⟨10, [], -1, false⟩ fr count 1 = (1, none) := by
      unfold opL
      simp only
      rw [HAr.out, decide_eq_false (by omega), if_pos rfl]
    rw [hop] at hO
    have HO := hid hO
    clear hO hop
    go_wp2_with (fail)
    refine HO.out.mono ?_
    rintro e w3 ⟨rfl, hu3⟩
  case' inr.inl =>
    have hop : opL ⟨10, [], -1, false⟩ fr count 1 = (1, none) := by
      unfold opL
      simp only
      rw [HAr.out, decide_eq_false (by omega), if_pos rfl]
    rw [hop] at hO
    have HO := hid hO
    clear hO hop
    go_wp2_with (fail)
    refine HO.out.mono ?_
    rintro e w3 ⟨rfl, hu3⟩
  case' inr.inr.inl =>
    have hop : opL ⟨10, [], -1, false⟩ fr count 1 = (1, none) := by
      unfold opL
      simp only
      rw [HAr.out, decide_eq_false (by omega), if_pos rfl]
    rw [hop] at hO
    have HO := hid hO
    clear hO hop
    go_wp2_with (fail)
    refine HO.out.mono ?_
    rintro e w3 ⟨rfl, hu3⟩
  case' inr.inr.inr.inl =>
    have hop : opL ⟨10, [], -1, false⟩ fr count 1 = (1, none) := by
      unfold opL
      simp only
      rw [HAr.out, decide_eq_false (by omega), if_pos rfl]
    rw [hop] at hO
    have HO := hid hO
    clear hO hop
    go_wp2_with (fail)
    refine HO.out.mono ?_
    rintro e w3 ⟨rfl, hu3⟩
  all_goals
    have HD3 : Hid (Pd w w3 D0 p ⟨10, [], -1, false⟩) := hid ⟨HD2.out.dk.upd hu3 fun _ _ => no_ _, HD2.out.own, HD2.out.bel.trans (hu3.old HD2.out.bel.size)⟩
    clear hu3 HO HD2 HAr
    go_wp2_with (fail)
    refine Calls.mono (open_nil 0 1 1 w3) ?_
    rintro e w4 ⟨rfl, rfl⟩
    go_wp2_with (fail)
    refine Calls.mono (append_nil A b.length c w3) ?_
    rintro e w4 ⟨rfl, rfl⟩
    go_wp2_with (fail)
    refine Calls.mono (room_nil w3) ?_
    rintro e w4 ⟨rfl, rfl⟩
    go_wp2_with (fail)
    refine Calls.mono (units_nil w3) ?_
    rintro e w4 ⟨rfl, rfl⟩
    go_wp2_with (fail)
    refine Calls.mono (reset_nil 5 w3) ?_
    rintro e w4 ⟨rfl, rfl⟩
    have HO := hid (open_new (fr := 0) (count := 10) (ep := 3) HD3.out (by omega) (by omega) (by omega) (by omega))
    clear h1
    try clear h2
    try clear h3
    try clear h4
    go_wp2_with (fail)
    refine HO.out.mono ?_
    rintro e w4 ⟨q, F, rfl, hp4⟩
    have HP4 := hid hp4
    clear hp4 HO HD3
    by_cases hb0 : b = []
    · subst hb0
      have HA := hid (append_zero q p _ F A c w4 HP4.out.lg rfl)
      go_wp2_with (fail)
      refine HA.out.mono ?_
      rintro e w5 ⟨rfl, hu5⟩
      have HP5 := hid (HP4.out.quiet hu5)
      have hUn := units q p _ F w5 HP5.out.lg (Snd.new (nb := 10) (fr := 0) (count := 10) (ep := 3) (by omega) (by omega) (by omega)).ok
      unfold UnOut at hUn
      simp only [Lm.new, List.length_nil] at hUn
      have HUn := hid hUn
      clear hu5 HA hUn HP4
      go_wp2_with (fail)
      refine HUn.out.mono ?_
      rintro e w6 ⟨A6, c6, rfl, _, hu6⟩
      have HB := hid (HP5.out.quiet hu6).bel
      clear hu6 HUn HP5
      go_wp2_with (fail)
      go_loopw [113] (fun v113 W => v113 = .int .i64 0 ∧ W = w6) (fun _ _ => 0)
      case atStart => exact ⟨rfl, rfl⟩
      case round =>
        obtain ⟨rfl, rfl⟩ := hrel
        go_wp2_with (fail)
        refine wp_region_held_drew (S := fun W => Below w.heap.size w W) (by kernel_rfl) ⟨HB.out.os, HB.out.tape, HB.out.output, HB.out.size, HB.out.block⟩ (fun hS => ?_)
        refine rg_at 0 (by decide) (fun oi hoi => ?_)
        have ho2 := hoi; simp only [List.getElem?_toArray, List.getElem?_cons_succ, List.getElem?_cons_zero, Option.some.injEq] at ho2; subst ho2
        refine rg_take (v := ?_) 0 hoi (by kernel_rfl) (by kernel_rfl) (by kernel_rfl) (fun _ _ _ h => h) (by rfl) ?_ hS ?_
        rotate_left
        · intro w _; go_simp; try with_reducible rfl
        clear hoi; try simp only [Act.put, List.setIfInBounds_toArray, List.set_cons_zero, List.set_cons_succ]
        refine rg_at 1 (by decide) (fun oi hoi => ?_)
        have ho2 := hoi; simp only [List.getElem?_toArray, List.getElem?_cons_succ, List.getElem?_cons_zero, Option.some.injEq] at ho2; subst ho2
        refine rg_take (v := ?_) 1 hoi (by kernel_rfl) (by kernel_rfl) (by kernel_rfl) (fun _ _ _ h => h) (by rfl) ?_ hS ?_
        rotate_left
        · intro w _; go_simp; try with_reducible rfl
        clear hoi; try simp only [Act.put, List.setIfInBounds_toArray, List.set_cons_zero, List.set_cons_succ]
        refine rg_at 2 (by decide) (fun oi hoi => ?_)
        have ho2 := hoi; simp only [List.getElem?_toArray, List.getElem?_cons_succ, List.getElem?_cons_zero, Option.some.injEq] at ho2; subst ho2
        refine rg_take (v := ?_) 2 hoi (by kernel_rfl) (by kernel_rfl) (by kernel_rfl) (fun _ _ _ h => h) (by rfl) ?_ hS ?_
        rotate_left
        · intro w _; go_simp; try with_reducible rfl
        clear hoi; try simp only [Act.put, List.setIfInBounds_toArray, List.set_cons_zero, List.set_cons_succ]
        refine rg_at 3 (by decide) (fun oi hoi => ?_)
        have ho2 := hoi; simp only [List.getElem?_toArray, List.getElem?_cons_succ, List.getElem?_cons_zero, Option.some.injEq] at ho2; subst ho2
        refine rg_take (v := ?_) 3 hoi (by kernel_rfl) (by kernel_rfl) (by kernel_rfl) (fun _ _ _ h => h) (by rfl) ?_ hS ?_
        rotate_left
        · intro w _; go_simp; try with_reducible rfl
        clear hoi; try simp only [Act.put, List.setIfInBounds_toArray, List.set_cons_zero, List.set_cons_succ]
        refine rg_at 4 (by decide) (fun oi hoi => ?_)
        have ho2 := hoi; simp only [List.getElem?_toArray, List.getElem?_cons_succ, List.getElem?_cons_zero, Option.some.injEq] at ho2; subst ho2
        refine rg_skip 4 hoi (by kernel_rfl) (by kernel_rfl) (by kernel_rfl) (fun _ _ _ h => h) (by rfl) hS ?_
        clear hoi; try simp only [Act.put, List.setIfInBounds_toArray, List.set_cons_zero, List.set_cons_succ]
        refine rg_at 5 (by decide) (fun oi hoi => ?_)
        have ho2 := hoi; simp only [List.getElem?_toArray, List.getElem?_cons_succ, List.getElem?_cons_zero, Option.some.injEq] at ho2; subst ho2
        refine rg_skip 5 hoi (by kernel_rfl) (by kernel_rfl) (by kernel_rfl) (fun _ _ _ h => h) (by rfl) hS ?_
        clear hoi; try simp only [Act.put, List.setIfInBounds_toArray, List.set_cons_zero, List.set_cons_succ]
        refine rg_at 6 (by decide) (fun oi hoi => ?_)
        have ho2 := hoi; simp only [List.getElem?_toArray, List.getElem?_cons_succ, List.getElem?_cons_zero, Option.some.injEq] at ho2; subst ho2
        refine rg_skip 6 hoi (by kernel_rfl) (by kernel_rfl) (by kernel_rfl) (fun _ _ _ h => h) (by rfl) hS ?_
        clear hoi; try simp only [Act.put, List.setIfInBounds_toArray, List.set_cons_zero, List.set_cons_succ]
        refine rg_at 7 (by decide) (fun oi hoi => ?_)
        have ho2 := hoi; simp only [List.getElem?_toArray, List.getElem?_cons_succ, List.getElem?_cons_zero, Option.some.injEq] at ho2; subst ho2
        refine rg_skip 7 hoi (by kernel_rfl) (by kernel_rfl) (by kernel_rfl) (fun _ _ _ h => h) (by rfl) hS ?_
        clear hoi; try simp only [Act.put, List.setIfInBounds_toArray, List.set_cons_zero, List.set_cons_succ]
        refine rg_at 8 (by decide) (fun oi hoi => ?_)
        have ho2 := hoi; simp only [List.getElem?_toArray, List.getElem?_cons_succ, List.getElem?_cons_zero, Option.some.injEq] at ho2; subst ho2
        refine rg_skip 8 hoi (by kernel_rfl) (by kernel_rfl) (by kernel_rfl) (fun _ _ _ h => h) (by rfl) hS ?_
        clear hoi; try simp only [Act.put, List.setIfInBounds_toArray, List.set_cons_zero, List.set_cons_succ]
        refine rg_at 9 (by decide) (fun oi hoi => ?_)
        have ho2 := hoi; simp only [List.getElem?_toArray, List.getElem?_cons_succ, List.getElem?_cons_zero, Option.some.injEq] at ho2; subst ho2
        refine rg_skip 9 hoi (by kernel_rfl) (by kernel_rfl) (by kernel_rfl) (fun _ _ _ h => h) (by rfl) hS ?_
        clear hoi; try simp only [Act.put, List.setIfInBounds_toArray, List.set_cons_zero, List.set_cons_succ]
        refine rg_at 10 (by decide) (fun oi hoi => ?_)
        have ho2 := hoi; simp only [List.getElem?_toArray, List.getElem?_cons_succ, List.getElem?_cons_zero, Option.some.injEq] at ho2; subst ho2
        refine rg_skip 10 hoi (by kernel_rfl) (by kernel_rfl) (by kernel_rfl) (fun _ _ _ h => h) (by rfl) hS ?_
        clear hoi; try simp only [Act.put, List.setIfInBounds_toArray, List.set_cons_zero, List.set_cons_succ]
        refine rg_at 11 (by decide) (fun oi hoi => ?_)
        have ho2 := hoi; simp only [List.getElem?_toArray, List.getElem?_cons_succ, List.getElem?_cons_zero, Option.some.injEq] at ho2; subst ho2
        refine rg_skip 11 hoi (by kernel_rfl) (by kernel_rfl) (by kernel_rfl) (fun _ _ _ h => h) (by rfl) hS ?_
        clear hoi; try simp only [Act.put, List.setIfInBounds_toArray, List.set_cons_zero, List.set_cons_succ]
        refine rg_at 12 (by decide) (fun oi hoi => ?_)
        have ho2 := hoi; simp only [List.getElem?_toArray, List.getElem?_cons_succ, List.getElem?_cons_zero, Option.some.injEq] at ho2; subst ho2
        refine rg_skip 12 hoi (by kernel_rfl) (by kernel_rfl) (by kernel_rfl) (fun _ _ _ h => h) (by rfl) hS ?_
        clear hoi; try simp only [Act.put, List.setIfInBounds_toArray, List.set_cons_zero, List.set_cons_succ]
        refine rg_at 13 (by decide) (fun oi hoi => ?_)
        have ho2 := hoi; simp only [List.getElem?_toArray, List.getElem?_cons_succ, List.getElem?_cons_zero, Option.some.injEq] at ho2; subst ho2
        refine rg_skip 13 hoi (by kernel_rfl) (by kernel_rfl) (by kernel_rfl) (fun _ _ _ h => h) (by rfl) hS ?_
        clear hoi; try simp only [Act.put, List.setIfInBounds_toArray, List.set_cons_zero, List.set_cons_succ]
        refine rg_at 14 (by decide) (fun oi hoi => ?_)
        have ho2 := hoi; simp only [List.getElem?_toArray, List.getElem?_cons_succ, List.getElem?_cons_zero, Option.some.injEq] at ho2; subst ho2
        refine rg_skip 14 hoi (by kernel_rfl) (by kernel_rfl) (by kernel_rfl) (fun _ _ _ h => h) (by rfl) hS ?_
        clear hoi; try simp only [Act.put, List.setIfInBounds_toArray, List.set_cons_zero, List.set_cons_succ]
        refine rg_at 15 (by decide) (fun oi hoi => ?_)
        have ho2 := hoi; simp only [List.getElem?_toArray, List.getElem?_cons_succ, List.getElem?_cons_zero, Option.some.injEq] at ho2; subst ho2
        refine rg_skip 15 hoi (by kernel_rfl) (by kernel_rfl) (by kernel_rfl) (fun _ _ _ h => h) (by rfl) hS ?_
        clear hoi; try simp only [Act.put, List.setIfInBounds_toArray, List.set_cons_zero, List.set_cons_succ]
        refine rg_at 16 (by decide) (fun oi hoi => ?_)
        have ho2 := hoi; simp only [List.getElem?_toArray, List.getElem?_cons_succ, List.getElem?_cons_zero, Option.some.injEq] at ho2; subst ho2
        refine rg_skip 16 hoi (by kernel_rfl) (by kernel_rfl) (by kernel_rfl) (fun _ _ _ h => h) (by rfl) hS ?_
        clear hoi; try simp only [Act.put, List.setIfInBounds_toArray, List.set_cons_zero, List.set_cons_succ]
        refine rg_at 17 (by decide) (fun oi hoi => ?_)
        have ho2 := hoi; simp only [List.getElem?_toArray, List.getElem?_cons_succ, List.getElem?_cons_zero, Option.some.injEq] at ho2; subst ho2
        refine rg_skip 17 hoi (by kernel_rfl) (by kernel_rfl) (by kernel_rfl) (fun _ _ _ h => h) (by rfl) hS ?_
        clear hoi; try simp only [Act.put, List.setIfInBounds_toArray, List.set_cons_zero, List.set_cons_succ]
        refine rg_at 18 (by decide) (fun oi hoi => ?_)
        have ho2 := hoi; simp only [List.getElem?_toArray, List.getElem?_cons_succ, List.getElem?_cons_zero, Option.some.injEq] at ho2; subst ho2
        refine rg_take (v := ?_) 18 hoi (by kernel_rfl) (by kernel_rfl) (by kernel_rfl) (fun _ _ _ h => h) (by rfl) ?_ hS ?_
        rotate_left
        · intro w _; go_simp; try with_reducible rfl
        clear hoi; try simp only [Act.put, List.setIfInBounds_toArray, List.set_cons_zero, List.set_cons_succ]
        refine rg_at 19 (by decide) (fun oi hoi => ?_)
        have ho2 := hoi; simp only [List.getElem?_toArray, List.getElem?_cons_succ, List.getElem?_cons_zero, Option.some.injEq] at ho2; subst ho2
        refine rg_take (v := ?_) 19 hoi (by kernel_rfl) (by kernel_rfl) (by kernel_rfl) (fun _ _ _ h => h) (by rfl) ?_ hS ?_
        rotate_left
        · intro w _; go_simp; try with_reducible rfl
        clear hoi; try simp only [Act.put, List.setIfInBounds_toArray, List.set_cons_zero, List.set_cons_succ]
        refine wpAnyH_done (by kernel_rfl) ?_ _
        go_wp2
        go_ret
        exact ⟨rfl, hS⟩
    · have hpos := List.length_pos_iff.2 hb0
      have hac : apC (Lm.new 0 10 3) b = 0 := by
        unfold apC
        rw [if_neg (by omega), if_neg (by omega), if_neg (by unfold nbl; simp only [Lm.new]; omega)]
      have hbc := ap_alive (m := Lm.new 0 10 3) (d := ⟨10, [], -1, false⟩) (u := b) rfl rfl (by decide) hac
      have HS0 := hid (Snd.new (nb := 10) (fr := 0) (count := 10) (ep := 3) (by omega) (by omega) (by omega))
      have HS1 := hid (HS0.out.add (u := b) hac HBy.out (.inl (by decide)) (by unfold nbl; simp only [List.length_nil]; omega))
      have hA := append_pl HP4.out HS0.out (Rd.below HR.out (by omega) HP4.out.bel) hl2 hl1 (fun ad e => by
        obtain ⟨ad', e', hlt⟩ := Rd.lt HR.out hpos (by omega)
        rw [e] at e'
        injection e' with e'
        subst e'
        exact ⟨fun h => by have := HP4.out.own _ (.inr h); omega, fun h => by have := HP4.out.own _ (.inl h); omega⟩) HBy.out
      rw [hbc] at hA
      have HA := hid hA
      have HUs := hid (show ((Lm.new 0 10 3).add b).us = [b] from rfl)
      clear hac hbc hA HS0
      generalize wrs ⟨10, [], -1, false⟩ ((Lm.new 0 10 3).fr + (Lm.new 0 10 3).used) (blk (Lm.new 0 10 3).ep (Lm.new 0 10 3).used b) (nbl b) = d1 at *
      generalize (Lm.new 0 10 3).add b = m1 at *
      go_wp2_with (fail)
      refine HA.out.mono ?_
      rintro e w5 ⟨rfl, F5, D5, hp5, _, _⟩
      have HP5 := hid hp5
      have HUn := hid (units1 q p m1 F5 b w5 hp5.lg HS1.out.ok HUs.out hb0)
      unfold U1Out at HUn
      clear hp5 HA HP4
      go_wp2_with (fail)
      refine HUn.out.mono ?_
      rintro e w6 ⟨g, cg, gb, cb, cs, rfl, hU6⟩
      have HU6 := hid hU6
      have HC6 : Hid (Sc b w6 w6 gb) := hid ⟨Upd.refl _ _, cs, hU6.blk, hU6.num⟩
      clear hU6 HUn
      go_wp2_with (fail)
      go_loopw [113] (fun v113 W => (v113 = .int .i64 0 ∨ v113 = .int .i64 1) ∧ Hid (Sc b w6 W gb)) (fun v113 _ => 1 - (intOf v113).toNat)
      case atStart => exact ⟨.inl rfl, HC6⟩
      case round =>
        clear HC6
        obtain ⟨rfl | rfl, HW⟩ := hrel
        · have hcg : wr.cell? ⟨g, 0, none⟩ = some (.slice (some ⟨gb, 0, none⟩) b.length cb) := (HW.out.upd.cell (p := ⟨g, 0, none⟩) HU6.out.ltg HU6.out.ne).trans HU6.out.cell
          go_wp2_with (fail)
          clear hcg
          go_loopw [121] (fun v121 W => ∃ k : Nat, k ≤ b.length ∧ v121 = .int .i64 k ∧ Hid (Sc b w6 W gb)) (fun v121 _ => b.length - (intOf v121).toNat)
          case atStart => exact ⟨0, by omega, rfl, HW⟩
          case round =>
            clear HW
            obtain ⟨k, hk, rfl, HW⟩ := hrel
            by_cases hlt : k < b.length
            · have hcg : wr.cell? ⟨g, 0, none⟩ = some (.slice (some ⟨gb, 0, none⟩) b.length cb) := (HW.out.upd.cell (p := ⟨g, 0, none⟩) HU6.out.ltg HU6.out.ne).trans HU6.out.cell
              obtain ⟨cs2, hbk, hnum⟩ := HW.out.ex
              obtain ⟨x, hx⟩ := hnum k hlt
              have hcx := (hbk.cell k).trans hx
              have hfx := hbk.free k
              have HW2 := hid fun y => HW.out.set k y
              have hk1 : (0 : Int) ≤ (k : Int) := by omega
              have hk2 : (k : Int) < (b.length : Int) := by omega
              clear hbk hnum hx
              go_wp2
              go_roundw
              case rel => exact ⟨k + 1, by omega, by go_num, hid (HW2.out _)⟩
              case measure => simp [intOf]; omega
            · obtain rfl : k = b.length := by omega
              go_wp2
              go_roundw
              case rel => exact ⟨.inr rfl, HW⟩
              case measure => simp [intOf]
        · have hgl := HU6.out.lgb
          have HLf : Hid (∀ W, Upd No wr W → Lg W F5 q p m1) := hid fun W hu => ((HP5.out.quiet HU6.out.upd).lg.upd HW.out.upd fun k hk e => by have := HP5.out.lg.lt k hk; omega).upd hu fun _ _ => no_ _
          have HBf : Hid (Below w.heap.size w wr) := hid ((HP5.out.quiet HU6.out.upd).bel.trans (HW.out.upd.below (HP5.out.quiet HU6.out.upd).bel.size fun k hk => by have := HP5.out.bel.size; omega))
          have HCb := hid (conv_all (Rd.below HR.out (by omega) HBf.out : Rn wr .u8 A b) c)
          have hne0 : ((b.length : Int) == 0) = false := by simp; omega
          unfold st at HCb
          clear hgl
          go_wp2_with (fail)
          refine wp_region_held_drew (S := fun W => Upd No wr W) (by kernel_rfl) (Upd.refl _ _).drew (fun hS => ?_)
          refine rg_at 0 (by decide) (fun oi hoi => ?_)
          have ho2 := hoi; simp only [List.getElem?_toArray, List.getElem?_cons_succ, List.getElem?_cons_zero, Option.some.injEq] at ho2; subst ho2
          refine rg_take (v := ?_) 0 hoi (by kernel_rfl) (by kernel_rfl) (by kernel_rfl) (fun _ _ _ h => h) (by rfl) ?_ hS ?_
          rotate_left
          · intro w _; go_simp; try with_reducible rfl
          clear hoi; try simp only [Act.put, List.setIfInBounds_toArray, List.set_cons_zero, List.set_cons_succ]
          refine rg_at 1 (by decide) (fun oi hoi => ?_)
          have ho2 := hoi; simp only [List.getElem?_toArray, List.getElem?_cons_succ, List.getElem?_cons_zero, Option.some.injEq] at ho2; subst ho2
          refine rg_take (v := ?_) 1 hoi (by kernel_rfl) (by kernel_rfl) (by kernel_rfl) (fun _ _ _ h => h) (by rfl) ?_ hS ?_
          rotate_left
          · intro w _; go_simp; try with_reducible rfl
          clear hoi; try simp only [Act.put, List.setIfInBounds_toArray, List.set_cons_zero, List.set_cons_succ]
          refine rg_at 2 (by decide) (fun oi hoi => ?_)
          have ho2 := hoi; simp only [List.getElem?_toArray, List.getElem?_cons_succ, List.getElem?_cons_zero, Option.some.injEq] at ho2; subst ho2
          refine rg_take (v := ?_) 2 hoi (by kernel_rfl) (by kernel_rfl) (by kernel_rfl) (fun _ _ _ h => h) (by rfl) ?_ hS ?_
          rotate_left
          · intro w hw; have hf := hne0; clear hw; go_simp; try with_reducible rfl
          clear hoi; try simp only [Act.put, List.setIfInBounds_toArray, List.set_cons_zero, List.set_cons_succ]
          refine rg_at 3 (by decide) (fun oi hoi => ?_)
          have ho2 := hoi; simp only [List.getElem?_toArray, List.getElem?_cons_succ, List.getElem?_cons_zero, Option.some.injEq] at ho2; subst ho2
          refine rg_take (v := ?_) 3 hoi (by kernel_rfl) (by kernel_rfl) (by kernel_rfl) (fun _ _ _ h => h) (by rfl) ?_ hS ?_
          rotate_left
          · intro w _; go_simp; try with_reducible rfl
          clear hoi; try simp only [Act.put, List.setIfInBounds_toArray, List.set_cons_zero, List.set_cons_succ]
          refine rg_at 4 (by decide) (fun oi hoi => ?_)
          have ho2 := hoi; simp only [List.getElem?_toArray, List.getElem?_cons_succ, List.getElem?_cons_zero, Option.some.injEq] at ho2; subst ho2
          refine rg_take (v := ?_) 4 hoi (by kernel_rfl) (by kernel_rfl) (by kernel_rfl) (fun _ _ _ h => h) (by rfl) ?_ hS ?_
          rotate_left
          · intro w _; go_simp; try with_reducible rfl
          clear hoi; try simp only [Act.put, List.setIfInBounds_toArray, List.set_cons_zero, List.set_cons_succ]
          refine rg_at 5 (by decide) (fun oi hoi => ?_)
          have ho2 := hoi; simp only [List.getElem?_toArray, List.getElem?_cons_succ, List.getElem?_cons_zero, Option.some.injEq] at ho2; subst ho2
          refine rg_call 5 (by kernel_rfl) hoi (by rfl) (fun K hK => ?_)
          clear hoi
          go_simp
          refine Calls.mono (units1 q p m1 F5 b _ (HLf.out _ hS) HS1.out.ok HUs.out hb0) ?_
          rintro e w7 ⟨g7, cg7, gb7, cb7, cs7, rfl, h7⟩
          have hS7 := Upd.next hS h7.upd
          go_wp2_with (fail)
          refine hK.out _ _ ((by exact hS7)) (fun hS => ?_)
          clear hK K
          try simp only [Act.put, List.setIfInBounds_toArray, List.set_cons_zero, List.set_cons_succ]
          refine rg_at 6 (by decide) (fun oi hoi => ?_)
          have ho2 := hoi; simp only [List.getElem?_toArray, List.getElem?_cons_succ, List.getElem?_cons_zero, Option.some.injEq] at ho2; subst ho2
          refine rg_take (v := ?_) 6 hoi (by kernel_rfl) (by kernel_rfl) (by kernel_rfl) (fun _ _ _ h => h) (by rfl) ?_ hS ?_
          rotate_left
          · intro w _; go_simp; try with_reducible rfl
          clear hoi; try simp only [Act.put, List.setIfInBounds_toArray, List.set_cons_zero, List.set_cons_succ]
          refine rg_at 7 (by decide) (fun oi hoi => ?_)
          have ho2 := hoi; simp only [List.getElem?_toArray, List.getElem?_cons_succ, List.getElem?_cons_zero, Option.some.injEq] at ho2; subst ho2
          refine rg_take (v := ?_) 7 hoi (by kernel_rfl) (by kernel_rfl) (by kernel_rfl) (fun _ _ _ h => h) (by rfl) ?_ hS ?_
          rotate_left
          · intro w _; go_simp; try with_reducible rfl
          clear hoi; try simp only [Act.put, List.setIfInBounds_toArray, List.set_cons_zero, List.set_cons_succ]
          refine rg_at 8 (by decide) (fun oi hoi => ?_)
          have ho2 := hoi; simp only [List.getElem?_toArray, List.getElem?_cons_succ, List.getElem?_cons_zero, Option.some.injEq] at ho2; subst ho2
          refine rg_take (v := ?_) 8 hoi (by kernel_rfl) (by kernel_rfl) (by kernel_rfl) (fun _ _ _ h => h) (by rfl) ?_ hS ?_
          rotate_left
          · intro w _; go_simp; try with_reducible rfl
          clear hoi; try simp only [Act.put, List.setIfInBounds_toArray, List.set_cons_zero, List.set_cons_succ]
          refine rg_at 9 (by decide) (fun oi hoi => ?_)
          have ho2 := hoi; simp only [List.getElem?_toArray, List.getElem?_cons_succ, List.getElem?_cons_zero, Option.some.injEq] at ho2; subst ho2
          refine rg_take (v := ?_) 9 hoi (by kernel_rfl) (by kernel_rfl) (by kernel_rfl) (fun _ _ _ h => h) (by rfl) ?_ hS ?_
          rotate_left
          · intro w _; go_simp; try with_reducible rfl
          clear hoi; try simp only [Act.put, List.setIfInBounds_toArray, List.set_cons_zero, List.set_cons_succ]
          refine rg_at 14 (by decide) (fun oi hoi => ?_)
          have ho2 := hoi; simp only [List.getElem?_toArray, List.getElem?_cons_succ, List.getElem?_cons_zero, Option.some.injEq] at ho2; subst ho2
          refine rg_take (v := ?_) 14 hoi (by kernel_rfl) (by kernel_rfl) (by kernel_rfl) (fun _ _ _ h => h) (by rfl) ?_ hS ?_
          rotate_left
          · intro w _; go_simp; try with_reducible rfl
          clear hoi; try simp only [Act.put, List.setIfInBounds_toArray, List.set_cons_zero, List.set_cons_succ]
          refine rg_at 15 (by decide) (fun oi hoi => ?_)
          have ho2 := hoi; simp only [List.getElem?_toArray, List.getElem?_cons_succ, List.getElem?_cons_zero, Option.some.injEq] at ho2; subst ho2
          refine rg_take (v := ?_) 15 hoi (by kernel_rfl) (by kernel_rfl) (by kernel_rfl) (fun _ _ _ h => h) (by rfl) ?_ hS ?_
          rotate_left
          · intro w hw; have hf := HCb.out w hw; clear hw; go_simp; try with_reducible rfl
          clear hoi; try simp only [Act.put, List.setIfInBounds_toArray, List.set_cons_zero, List.set_cons_succ]
          refine rg_at 10 (by decide) (fun oi hoi => ?_)
          have ho2 := hoi; simp only [List.getElem?_toArray, List.getElem?_cons_succ, List.getElem?_cons_zero, Option.some.injEq] at ho2; subst ho2
          refine rg_call 10 (by kernel_rfl) hoi (by rfl) (fun K hK => ?_)
          clear hoi
          go_simp
          refine Calls.mono (units1 q p m1 F5 b _ (HLf.out _ hS) HS1.out.ok HUs.out hb0) ?_
          rintro e w8 ⟨g8, cg8, gb8, cb8, cs8, rfl, h8⟩
          have hS8 := Upd.next hS h8.upd
          go_wp2_with (fail)
          refine hK.out _ _ ((by exact hS8)) (fun hS => ?_)
          clear hK K
          try simp only [Act.put, List.setIfInBounds_toArray, List.set_cons_zero, List.set_cons_succ]
          refine rg_at 11 (by decide) (fun oi hoi => ?_)
          have ho2 := hoi; simp only [List.getElem?_toArray, List.getElem?_cons_succ, List.getElem?_cons_zero, Option.some.injEq] at ho2; subst ho2
          refine rg_take (v := ?_) 11 hoi (by kernel_rfl) (by kernel_rfl) (by kernel_rfl) (fun _ _ _ h => h) (by rfl) ?_ hS ?_
          rotate_left
          · intro w _; go_simp; try with_reducible rfl
          clear hoi; try simp only [Act.put, List.setIfInBounds_toArray, List.set_cons_zero, List.set_cons_succ]
          refine rg_at 12 (by decide) (fun oi hoi => ?_)
          have ho2 := hoi; simp only [List.getElem?_toArray, List.getElem?_cons_succ, List.getElem?_cons_zero, Option.some.injEq] at ho2; subst ho2
          refine rg_call 12 (by kernel_rfl) hoi (by rfl) (fun K hK => ?_)
          clear hoi
          have hf := h8.cell
          go_simp
          refine hK.out _ _ ((by exact hS8)) (fun hS => ?_)
          clear hK K
          try simp only [Act.put, List.setIfInBounds_toArray, List.set_cons_zero, List.set_cons_succ]
          refine rg_at 13 (by decide) (fun oi hoi => ?_)
          have ho2 := hoi; simp only [List.getElem?_toArray, List.getElem?_cons_succ, List.getElem?_cons_zero, Option.some.injEq] at ho2; subst ho2
          refine rg_call 13 (by kernel_rfl) hoi (by rfl) (fun K hK => ?_)
          clear hoi
          have hf := conv_all h8.rn cb8 w8 (Upd.refl _ _); unfold st at hf
          go_simp
          refine hK.out _ _ ((by exact hS8)) (fun hS => ?_)
          clear hK K
          try simp only [Act.put, List.setIfInBounds_toArray, List.set_cons_zero, List.set_cons_succ]
          refine rg_at 16 (by decide) (fun oi hoi => ?_)
          have ho2 := hoi; simp only [List.getElem?_toArray, List.getElem?_cons_succ, List.getElem?_cons_zero, Option.some.injEq] at ho2; subst ho2
          refine rg_take (v := ?_) 16 hoi (by kernel_rfl) (by kernel_rfl) (by kernel_rfl) (fun _ _ _ h => h) (by rfl) ?_ hS ?_
          rotate_left
          · intro w _; go_simp; try with_reducible rfl
          clear hoi; try simp only [Act.put, List.setIfInBounds_toArray, List.set_cons_zero, List.set_cons_succ]
          refine rg_at 17 (by decide) (fun oi hoi => ?_)
          have ho2 := hoi; simp only [List.getElem?_toArray, List.getElem?_cons_succ, List.getElem?_cons_zero, Option.some.injEq] at ho2; subst ho2
          refine rg_take (v := ?_) 17 hoi (by kernel_rfl) (by kernel_rfl) (by kernel_rfl) (fun _ _ _ h => h) (by rfl) ?_ hS ?_
          rotate_left
          · intro w _; go_simp; try with_reducible rfl
          clear hoi; try simp only [Act.put, List.setIfInBounds_toArray, List.set_cons_zero, List.set_cons_succ]
          refine rg_at 18 (by decide) (fun oi hoi => ?_)
          have ho2 := hoi; simp only [List.getElem?_toArray, List.getElem?_cons_succ, List.getElem?_cons_zero, Option.some.injEq] at ho2; subst ho2
          refine rg_take (v := ?_) 18 hoi (by kernel_rfl) (by kernel_rfl) (by kernel_rfl) (fun _ _ _ h => h) (by rfl) ?_ hS ?_
          rotate_left
          · intro w _; go_simp; try with_reducible rfl
          clear hoi; try simp only [Act.put, List.setIfInBounds_toArray, List.set_cons_zero, List.set_cons_succ]
          refine rg_at 19 (by decide) (fun oi hoi => ?_)
          have ho2 := hoi; simp only [List.getElem?_toArray, List.getElem?_cons_succ, List.getElem?_cons_zero, Option.some.injEq] at ho2; subst ho2
          refine rg_take (v := ?_) 19 hoi (by kernel_rfl) (by kernel_rfl) (by kernel_rfl) (fun _ _ _ h => h) (by rfl) ?_ hS ?_
          rotate_left
          · intro w _; go_simp; try with_reducible rfl
          clear hoi; try simp only [Act.put, List.setIfInBounds_toArray, List.set_cons_zero, List.set_cons_succ]
          refine wpAnyH_done (by kernel_rfl) ?_ _
          have HE := hid (HBf.out.trans ((hS.old (Nat.le_refl _)).mono HBf.out.size))
          clear h7 hS7 h8 hS8 hS
          go_wp2
          go_ret
          exact ⟨rfl, HE.out⟩
end Go.Proofs.Ytheopehhpoikdaa.Gl
