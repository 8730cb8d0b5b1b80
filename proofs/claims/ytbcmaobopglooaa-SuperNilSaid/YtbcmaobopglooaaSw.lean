/-
  The walks of package sum, and of its reference.
-/
import Derived.Test.YtbcmaobopglooaaSm
import Derived.Test.YtbcmaobopglooaaProg
set_option linter.unusedVariables false
set_option linter.unusedSimpArgs false
namespace Go.Proofs.Ytbcmaobopglooaa.Sw
open Go.RowKit Go.Proofs.Ytbcmaobopglooaa.B Go.Proofs.Ytbcmaobopglooaa.Cm Go.Proofs.Ytbcmaobopglooaa.Sm
theorem u8_info : (Try.prog.info? 5).map (fun i => (i.zero, i.size, i.bytes)) = some (some (.int .u8 0), 1, 1) := by kernel_rfl
theorem u8_size : (Try.prog.info? 5).map (·.size) = some 1 := by kernel_rfl

set_option maxHeartbeats 400000 in
theorem sum (A : Option Addr) (c : Nat) (l : List Int) (w : World) (hr : Rn w .u8 A l) (hl : l.length ≤ 9223372036854775807) (hb : Byte l) :
    Calls Try.prog 34 #[.slice A l.length c] w fun e w' => e = .returned (.int .u64 (fnv l)) ∧ w = w' := by
  go_enter Try.func34, Try.ntmps34
  go_wp2
  go_loop [3, 8] (fun v3 v8 => ∃ j : Nat, j ≤ l.length ∧ v8 = .int .i64 j ∧ v3 = .int .u64 (fnv (l.take j))) (fun _ v8 => l.length - (intOf v8).toNat)
  case atStart => exact ⟨0, by omega, rfl, rfl⟩
  case round =>
    obtain ⟨j, hj, rfl, rfl⟩ := hrel
    by_cases hlt : j < l.length
    · obtain ⟨ad, rfl, hx⟩ := hr.at_ hlt
      have hby := hb _ (gi_mem l j hlt)
      have hf := hid (fnv_step l j hlt)
      go_wp2
      go_round
      case rel => exact ⟨j + 1, by omega, by go_num, by rw [hf.out]; rfl⟩
      case measure => simp [intOf]; omega
    · go_wp2
      go_ret
      exact ⟨by rw [List.take_of_length_le (by omega)]; rfl, rfl⟩
set_option maxHeartbeats 400000 in
theorem seal_long (A : Option Addr) (c : Nat) (l : List Int) (kind place : Int) (w : World) (hl : 242 < l.length) :
    Calls Try.prog 27 #[.int .u8 kind, .int .u32 place, .slice A l.length c] w fun e w' => e = .returned (.tuple #[.slice none 0 0, .int .i64 4]) ∧ w = w' := by
  go_enter Try.func27, Try.ntmps27
  go_wp2
  go_ret2
  exact ⟨rfl, rfl⟩
set_option maxHeartbeats 1000000 in
set_option maxRecDepth 100000 in
theorem seal_ (A : Option Addr) (c : Nat) (l : List Int) (kind place : Int) (w : World) (hr : Rn w .u8 A l) (hl : l.length ≤ 242) (hb : Byte l) (hk : 0 ≤ kind ∧ kind ≤ 255) (hp : 0 ≤ place ∧ place ≤ 4294967295) :
    Calls Try.prog 27 #[.int .u8 kind, .int .u32 place, .slice A l.length c] w fun e w' => ∃ g, e = .returned (.tuple #[.slice (some ⟨g, 0, none⟩) 256 256, .int .i64 0]) ∧ Nb w' 5 g (sealed kind place l) ∧ w.heap.size ≤ g ∧ Upd No w w' := by
  go_enter Try.func27, Try.ntmps27
  go_wp2_with (at_make; go_must (refine mk_nb rfl _ _ 22 5 rfl Try.underlying22 u8_info 256 256 rfl rfl rfl (by omega) ?_); intro w1 g hg1 hn1 hu1; have hg := Nat.le_of_eq hg1.symm; clear hg1; have hc8 := hn1.cell (i := 8) (by simp); have hf8 := Blk.free hn1 8)
  have hn2 := hn1.put 8 kind
  rw [st1_zero kind place] at hn2
  have hb2 := (hu1.old (Nat.le_refl _)).setCell (p := ⟨g, 8, none⟩) hg (.int .u8 kind)
  generalize w1.setCell ⟨g, 8, none⟩ (.int .u8 kind) = w2 at *
  clear hc8 hf8 hn1 hu1
  go_loopw [19] (fun v19 wr => ∃ j : Nat, j ≤ 4 ∧ v19 = .int .i64 j ∧ Nb wr 5 g (st1 kind place j) ∧ Below w.heap.size w wr) (fun v19 _ => 4 - (intOf v19).toNat)
  case atStart => exact ⟨0, by omega, rfl, hn2, hb2⟩
  case round =>
    obtain ⟨j, hj, rfl, hn3, hb3⟩ := hrel
    clear hn2 hb2
    by_cases hlt : j < 4
    · have hlen : (st1 kind place j).length = 256 := by simp [st1, be_length]; omega
      have hcj := hn3.cell (i := 9 + j) (by omega)
      have hfj := Blk.free hn3 (9 + j)
      clear hlen
      go_wp2
      go_roundw
      case rel =>
        refine ⟨j + 1, by omega, by go_num, ?_, hb3.setCell (p := ⟨g, 9 + j, none⟩) hg _⟩
        have := hn3.put (9 + j) (place / 256 ^ (4 - 1 - j) % 256)
        rw [st1_succ kind place j hlt] at this
        rw [pow4 j hlt]
        exact this
      case measure => simp [intOf]; omega
    · obtain rfl : j = 4 := by omega
      have hc13 := hn3.cell (i := 13) (by simp [st1, be_length])
      have hf13 := Blk.free hn3 13
      have hl0 : 0 ≤ (l.length : Int) := by omega
      have hn4 := hn3.put 13 l.length
      have hb4 := hb3.setCell (p := ⟨g, 13, none⟩) hg (.int .u8 l.length)
      have hr4 := Rd.below hr (by omega) hb4
      have hlen4 : (nums .u8 ((st1 kind place 4).set 13 l.length)).length = 256 := by simp [nums, st1, be_length]
      have hmin : (nums .u8 l).length = Nat.min l.length 242 := by rw [nums_length]; show _ = min l.length 242; omega
      have hfit : 14 + (nums .u8 l).length ≤ (nums .u8 ((st1 kind place 4).set 13 l.length)).length := by rw [hlen4, nums_length]; omega
      have hpos : 0 < (nums .u8 l).length → ∃ ad, A = some ad ∧ ∀ j v, (nums .u8 l)[j]? = some v → (wr.setCell ⟨g, 13, none⟩ (.int .u8 l.length)).cell? (ad.add j) = some v := fun h0 => hr4.2 (by rw [nums_length] at h0; exact h0)
      have HN := hid (show (wr.setCell ⟨g, 13, none⟩ (.int .u8 l.length)).heap[g]? = some (.cells (nums .u8 ((st1 kind place 4).set 13 l.length)).toArray 5 (0, 0)) from hn4)
      have HM := hid hmin
      have HF := hid hfit
      have HP := hid hpos
      clear hlen4 hmin hfit hpos hr4 hn3
      go_wp2_with (with_reducible refine wpList_copy_splice rfl (.tmp 39) (.tmp 40) 22 22 rfl 5 Try.underlying22 u8_size (some ⟨g, 14, none⟩) A 242 242 l.length c rfl rfl g 14 (nums .u8 ((st1 kind place 4).set 13 l.length)) 5 HN.out (nums .u8 l) HM.out (fun h0 => ⟨rfl, HP.out h0⟩) HF.out (nums_one _ _) w.heap.size w hb4 hg ?_; intro w5 hh5 hb5; have hn5 := Nb.spliced hh5; clear hh5)
      rw [st1_len kind place l hl] at hn5
      have hrl := rest_length kind place l hl
      have hs := sum (some ⟨g, 8, none⟩) 248 (rest kind place l) w5 (by have := hn5.tail 8; simpa [stage] using this) (by omega) (rest_bytes kind place l hk hl hb)
      have hsr := fnv_range (rest kind place l)
      rw [hrl] at hs
      unfold stage at hn5
      have hfin : sealed kind place l = st2 (fnv (rest kind place l)) (rest kind place l) 8 := (st2_end _ _).symm
      have HFIN := hid hfin
      clear hfin
      rw [st2_zero (fnv (rest kind place l))] at hn5
      generalize fnv (rest kind place l) = s at *
      generalize rest kind place l = r at *
      have HS := hid hs
      clear hs HM HF HP HN hn4 hb4 hb3 hc13 hf13
      refine Calls.mono HS.out ?_
      rintro e w6 ⟨rfl, rfl⟩
      clear HS
      go_wp2
      go_loopw [45] (fun v45 wr => ∃ j : Nat, j ≤ 8 ∧ v45 = .int .i64 j ∧ Nb wr 5 g (st2 s r j) ∧ Below w.heap.size w wr) (fun v45 _ => 8 - (intOf v45).toNat)
      case atStart => exact ⟨0, by omega, rfl, hn5, hb5⟩
      case round =>
        obtain ⟨j, hj, rfl, hn6, hb6⟩ := hrel
        clear hn5 hb5
        by_cases hlt : j < 8
        · have hcj := hn6.cell (i := j) (by simp [st2, be_length]; omega)
          have hfj := Blk.free hn6 j
          go_wp2
          go_roundw
          case rel =>
            refine ⟨j + 1, by omega, by go_num, ?_, hb6.setCell (p := ⟨g, j, none⟩) hg _⟩
            have := hn6.put j (s / 256 ^ (8 - 1 - j) % 256)
            rw [st2_succ s r j hlt] at this
            rw [pow8 j hlt]
            exact this
          case measure => simp [intOf]; omega
        · obtain rfl : j = 8 := by omega
          go_wp2
          go_ret2
          exact ⟨g, rfl, HFIN.out ▸ hn6, hg, Upd.of_below No hb6⟩
end Go.Proofs.Ytbcmaobopglooaa.Sw
