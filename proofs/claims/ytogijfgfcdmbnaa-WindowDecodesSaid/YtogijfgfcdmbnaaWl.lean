/-
  A window of the call's own; reevelaw13.awake; the walk of WindowLast.
-/
import Derived.Test.YtogijfgfcdmbnaaWt
set_option linter.unusedVariables false
set_option linter.unusedSimpArgs false
namespace Go.Proofs.Ytogijfgfcdmbnaa.Ww
open Go.RowKit Go.Proofs.Ytogijfgfcdmbnaa.B Go.Proofs.Ytogijfgfcdmbnaa.Df Go.Proofs.Ytogijfgfcdmbnaa.Ws Go.Proofs.Ytogijfgfcdmbnaa.Mp Go.Proofs.Ytogijfgfcdmbnaa.Wp
/-- The window at p is new since w, and holds x. -/
structure On (w W : World) (F : Nat → Prop) (p n : Nat) (x : St) : Prop where
  wd : Wd W F p x n
  own : ∀ k, F k → w.heap.size ≤ k
  bel : Below w.heap.size w W
  ok : Ok x
section
variable {w W W' : World} {F F' H : Nat → Prop} {p n : Nat} {x y : St}
theorem On.moved (h : On w W F p n x) (hw : Wd W' F' p y (n + 1)) (hm : Mv F F' W W') (ok : Ok y) : On w W' F' p (n + 1) y where
  wd := hw
  own := fun k hk => (hm.sub k hk).elim (h.own k) fun hs => Nat.le_trans h.bel.size hs
  bel := h.bel.trans (hm.upd.below h.bel.size h.own)
  ok := ok
theorem On.quiet (h : On w W F p n x) (hu : Upd No W W') : On w W' F p n x where
  wd := h.wd.upd hu fun _ _ => no_ _
  own := h.own
  bel := h.bel.trans (hu.old h.bel.size)
  ok := h.ok
theorem On.upd (h : On w W F p n x) (hu : Upd H W W') (hb : Below w.heap.size w W') (hn : ∀ k, F k → ¬ H k) : On w W' F p n x where
  wd := h.wd.upd hu hn
  own := h.own
  bel := hb
  ok := h.ok
end
theorem new2 (w W : World) (hb : Below w.heap.size w W) : Calls Try.prog 10 #[] W fun e w' => e = .returned (.pointer (some ⟨W.heap.size, 0, none⟩)) ∧ On w w' (fun k => k = W.heap.size) W.heap.size 0 [] ∧ Upd No W w' := by
  refine (new_ W).mono ?_
  rintro e w' ⟨h1, rfl⟩
  have hu : Upd No W (W.alloc (.cells #[.map none, .slice none 0 0] 41)) := (Upd.refl _ _).alloc _
  exact ⟨h1, ⟨⟨_, _, _, _, Wx.new rfl⟩, fun k hk => by rw [hk]; exact hb.size, hb.trans (hu.old hb.size), Ok.nil⟩, hu⟩
theorem below_drew {B : Nat} {w w' : World} (h : Below B w w') : Below B w w'.drew := ⟨h.os, h.tape, h.output, h.size, h.block⟩
theorem key_nat {j : Nat} (h : j ≤ 1000000) : Wp.Key (j : Int) := ⟨by omega, by omega⟩
set_option maxHeartbeats 1000000 in
theorem awake (w : World) : Calls Try.prog 9 #[] w fun e w' => e = .returned (.bool true) ∧ Below w.heap.size w w' := by
  have k1 : Wp.Key 1 := ⟨by omega, by omega⟩
  have k5 : Wp.Key 5 := ⟨by omega, by omega⟩
  have E1 : Hid (addX [] 1 5 = (true, [(1, [5])])) := hid (by decide)
  have E2 : Hid (addX [(1, [5])] 1 5 = (false, [(1, [5])])) := hid (by decide)
  have E3 : Hid (decide ((5 : Int) ∈ sr [(1, [5])] 1) = true) := hid (by decide)
  go_enter Try.func9, Try.ntmps9
  go_wp2_with (fail)
  refine Calls.mono (new2 w w (Below.refl _ _)) ?_
  rintro e w1 ⟨rfl, hO1, _⟩
  have HO1 := hid hO1
  clear hO1
  go_wp2_with (fail)
  refine Calls.mono (add 1 5 HO1.out.wd k1 k5 HO1.out.ok (by omega)) ?_
  rintro e w2 ⟨he, F2, hw2, hm2⟩
  have ok2 := HO1.out.ok.add k1 k5
  rw [E1.out] at he hw2 ok2
  subst he
  have HO2 := hid (HO1.out.moved hw2 hm2 ok2)
  clear hw2 hm2 ok2
  go_wp2_with (fail)
  refine Calls.mono (add 1 5 HO2.out.wd k1 k5 HO2.out.ok (by omega)) ?_
  rintro e w3 ⟨he, F3, hw3, hm3⟩
  have ok3 := HO2.out.ok.add k1 k5
  rw [E2.out] at he hw3 ok3
  subst he
  have HO3 := hid (HO2.out.moved hw3 hm3 ok3)
  clear hw3 hm3 ok3
  have HS := hid (seen 1 5 HO3.out.wd k1)
  rw [E3.out] at HS
  go_wp2_with (fail)
  refine Calls.mono HS.out ?_
  rintro e w4 ⟨rfl, rfl⟩
  go_wp2
  go_ret
  exact ⟨rfl, HO3.out.bel⟩
def l4 (j : Nat) : List Int := ((List.range j).map fun i : Nat => (i : Int)).drop (j - 4)
theorem l4_mem (j i : Nat) : (i : Int) ∈ l4 j ↔ i < j ∧ j - 4 ≤ i := by
  unfold l4
  rw [List.mem_drop_iff_getElem]
  simp only [List.getElem_map, List.getElem_range, List.length_map, List.length_range]
  constructor
  · rintro ⟨k, hk, e⟩
    omega
  · rintro ⟨h1, h2⟩
    exact ⟨i - (j - 4), by omega, by omega⟩
theorem l4_len (j : Nat) : (l4 j).length = min j 4 := by simp [l4]; omega
theorem l4_succ (j : Nat) : cut4 (l4 j ++ [(j : Int)]) = l4 (j + 1) := by
  have e : (l4 j ++ [(j : Int)]) = ((List.range (j + 1)).map fun i : Nat => (i : Int)).drop (j - 4) := by
    unfold l4
    rw [List.range_succ, List.map_append, List.drop_append_of_le_length (by simp)]
    rfl
  rw [cut4, e, List.drop_drop, l4]
  congr 1
  simp
  omega
def xl (client : Int) (j : Nat) : St := if j = 0 then [] else [(client, l4 j)]
theorem xl_sr (client : Int) (j : Nat) : sr (xl client j) client = l4 j := by
  unfold xl
  split
  · rename_i h
    subst h
    rfl
  · rw [sr_cons, if_pos rfl]
theorem xl_other (client c : Int) (j : Nat) (h : c ≠ client) : sr (xl client j) c = [] := by
  unfold xl
  split
  · rfl
  · rw [sr_cons, if_neg (Ne.symm h)]
    rfl
theorem xl_add (client : Int) (j : Nat) : addX (xl client j) client j = (true, xl client (j + 1)) := by
  have h1 : (j : Int) ∉ sr (xl client j) client := by
    rw [xl_sr, l4_mem]
    omega
  have h2 : rest (xl client j) client = [] := by
    unfold xl rest
    split <;> simp
  unfold addX
  rw [if_neg h1, laid, h2, xl_sr, l4_succ, List.nil_append]
  rfl
set_option maxHeartbeats 2000000 in
theorem law_last (N : Nat) (client : Int) (w : World) (hN : N ≤ 255) (hc : Wp.Key client) :
    Calls Try.prog 3 #[.int .u8 N, .int .u64 client] w fun e w' => e = .returned (.bool true) ∧ Below w.heap.size w w' := by
  go_enter Try.func3, Try.ntmps3
  go_wp2_with (fail)
  refine Calls.mono (awake w) ?_
  rintro e w1 ⟨rfl, hb1⟩
  have HB1 := hid hb1
  clear hb1
  go_wp2_with (fail)
  refine Calls.mono (new2 w w1 HB1.out) ?_
  rintro e w2 ⟨rfl, hO2, _⟩
  have HO2 := hid hO2
  clear hO2
  obtain ⟨p, hp⟩ : ∃ p, p = w1.heap.size := ⟨_, rfl⟩
  rw [← hp] at HO2 ⊢
  clear hp
  go_wp2_with (fail)
  go_loopw [13] (fun v13 W => ∃ (j : Nat) (F : Nat → Prop), j ≤ N ∧ v13 = .int .i64 j ∧ Hid (On w W F p j (xl client j))) (fun v13 _ => N - (intOf v13).toNat)
  case atStart => exact ⟨0, _, by omega, rfl, HO2⟩
  case round =>
    obtain ⟨j, F, hj, rfl, HO⟩ := hrel
    by_cases hlt : j < N
    · have hj2 : (j : Int) < (N : Int) := by omega
      have HA := hid (add client (j : Int) HO.out.wd hc (key_nat (by omega)) HO.out.ok (by omega))
      rw [xl_add] at HA
      have HK := hid (HO.out.ok.add hc (key_nat (j := j) (by omega)))
      rw [xl_add] at HK
      go_wp2_with (fail)
      refine Calls.mono HA.out ?_
      rintro e w3 ⟨rfl, F3, hw3, hm3⟩
      have HO3 := hid (HO.out.moved hw3 hm3 HK.out)
      clear hw3 hm3
      go_wp2
      go_roundw
      case rel => exact ⟨j + 1, F3, by omega, by go_num, HO3⟩
      case measure => simp [intOf]; omega
    · obtain rfl : j = N := by omega
      go_wp2_with (fail)
      go_loop [25] (fun v25 => ∃ i : Nat, i ≤ j ∧ v25 = .int .i64 i) (fun v25 => j - (intOf v25).toNat)
      case atStart => exact ⟨0, by omega, rfl⟩
      case round =>
        obtain ⟨i, hi, rfl⟩ := hrel
        by_cases hlt : i < j
        · have hi2 : (i : Int) < (j : Int) := by omega
          have HS := hid (seen client (i : Int) HO.out.wd hc)
          rw [xl_sr] at HS
          by_cases h4 : j - 4 ≤ i
          · have e1 : decide ((i : Int) ∈ l4 j) = true := decide_eq_true ((l4_mem j i).2 ⟨by omega, h4⟩)
            rw [e1] at HS
            have e2 : decide ((j : Int) - 4 ≤ (i : Int)) = true := decide_eq_true (by omega)
            clear e1 h4
            go_wp2_with (fail)
            refine Calls.mono HS.out ?_
            rintro e w4 ⟨rfl, rfl⟩
            go_wp2
            go_round
            case rel => exact ⟨i + 1, by omega, by go_num⟩
            case measure => simp [intOf]; omega
          · have e1 : decide ((i : Int) ∈ l4 j) = false := decide_eq_false (fun h => h4 ((l4_mem j i).1 h).2)
            rw [e1] at HS
            have e2 : decide ((j : Int) - 4 ≤ (i : Int)) = false := decide_eq_false (by omega)
            clear e1 h4
            go_wp2_with (fail)
            refine Calls.mono HS.out ?_
            rintro e w4 ⟨rfl, rfl⟩
            go_wp2
            go_round
            case rel => exact ⟨i + 1, by omega, by go_num⟩
            case measure => simp [intOf]; omega
        · obtain rfl : i = j := by omega
          have HS := hid (serials client HO.out.wd hc (by rw [xl_sr, l4_len]; omega))
          rw [xl_sr] at HS
          go_wp2_with (fail)
          refine Calls.mono HS.out ?_
          rintro e w4 ⟨A4, c4, rfl, ho4, hu4⟩
          have HO4 := hid (HO.out.quiet hu4)
          clear ho4 hu4
          have hsk : Wp.Key (IntKind.u64.wrap (client + 1)) ∧ IntKind.u64.wrap (client + 1) ≠ client := by
            have := hc.1
            have := hc.2
            rw [show IntKind.u64.wrap (client + 1) = (client + 1) % 18446744073709551616 from rfl]
            constructor
            · constructor <;> omega
            · omega
          have HSN := hid (seen (IntKind.u64.wrap (client + 1)) 0 HO4.out.wd hsk.1)
          rw [xl_other _ _ _ hsk.2] at HSN
          clear hsk
          have hl := l4_len i
          by_cases hi4 : i ≤ 4
          · rw [show min i 4 = i from by omega] at hl
            rw [hl]
            have h4 : (i : Int) ≤ 4 := by omega
            clear hl
            go_wp2_with (fail)
            refine Calls.mono HSN.out ?_
            rintro e w5 ⟨rfl, rfl⟩
            go_wp2
            go_ret
            exact ⟨rfl, HO4.out.bel⟩
          · rw [show min i 4 = 4 from by omega] at hl
            rw [hl]
            have h4 : ¬ (i : Int) ≤ 4 := by omega
            clear hl
            go_wp2_with (fail)
            refine Calls.mono HSN.out ?_
            rintro e w5 ⟨rfl, rfl⟩
            go_wp2
            go_ret
            exact ⟨rfl, HO4.out.bel⟩
theorem last (n client : Int) (w : World) (hn : 0 ≤ n ∧ n ≤ 255) (hc : 0 ≤ client ∧ client ≤ 18446744073709551615) :
    Calls Try.prog 3 #[.int .u8 n, .int .u64 client] w fun e w' => e = .returned (.bool true) ∧ Below w.heap.size w w' := by
  obtain ⟨N, rfl⟩ : ∃ N : Nat, n = N := ⟨n.toNat, by omega⟩
  exact law_last N client w (by omega) hc
end Go.Proofs.Ytogijfgfcdmbnaa.Ww
