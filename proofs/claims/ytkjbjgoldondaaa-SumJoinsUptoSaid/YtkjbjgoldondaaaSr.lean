/-
  The walk of the reference's Seal.
-/
import Derived.Test.YtkjbjgoldondaaaSw
set_option linter.unusedVariables false
set_option linter.unusedSimpArgs false
namespace Go.Proofs.Ytkjbjgoldondaaa.Sw
open Go.RowKit Go.Proofs.Ytkjbjgoldondaaa.B Go.Proofs.Ytkjbjgoldondaaa.Cm Go.Proofs.Ytkjbjgoldondaaa.Sm
set_option maxHeartbeats 400000 in
theorem rseal_long (A : Option Addr) (c : Nat) (l : List Int) (kind place : Int) (w : World) (hl : 242 < l.length) :
    Calls Try.prog 12 #[.int .u8 kind, .int .u32 place, .slice A l.length c] w fun e w' => e = .returned (.tuple #[.slice none 0 0, .int .i64 4]) ∧ w = w' := by
  go_enter Try.func12, Try.ntmps12
  go_wp2
  go_ret2
  exact ⟨rfl, rfl⟩
set_option maxHeartbeats 1000000 in
set_option maxRecDepth 100000 in
theorem rseal (A : Option Addr) (c : Nat) (l : List Int) (kind place : Int) (w : World) (hr : Rn w .u8 A l) (hl : l.length ≤ 242) (hb : Byte l) (hk0 : 0 ≤ kind ∧ kind ≤ 255) (hp : 0 ≤ place ∧ place ≤ 4294967295) :
    Calls Try.prog 12 #[.int .u8 kind, .int .u32 place, .slice A l.length c] w fun e w' => ∃ A' c', e = .returned (.tuple #[.slice A' 256 c', .int .i64 0]) ∧ w'.ownsRow w.heap.size 5 1 (.slice A' 256 c') 256 (nums .u8 (sealed kind place l)) ∧ Upd No w w' := by
  go_enter Try.func12, Try.ntmps12
  go_wp2_with (at_builtin; go_must (refine ap_row w.heap.size rfl (.tmp 31) (.tmp 32) 22 5 (.int .u8 0) 1 1 rfl Try.underlying22 u8_info rfl (by omega) (.slice (some ⟨w.heap.size, 0, none⟩) 6 6) 6 (nums .u8 [kind, place / 16777216, place / 65536 % 256, place / 256 % 256, place % 256, (l.length : Int)]) A l.length c (nums .u8 l) rfl rfl (Nb.own (xs := [kind, place / 16777216, place / 65536 % 256, place / 256 % 256, place % 256, (l.length : Int)]) (Blk.fresh w _ _) (Nat.le_refl _) (by simp)) (Rd.alloc hr (by omega) _) (nums_one _ _) (by omega) (by omega) (by simp) ?_); intro A1 c1 w1 ho1 hg1 hat1)
  have hw1 : Below w.heap.size w w1 := ((Below.refl _ _).alloc (Nat.le_refl _) _).grown hg1 (by simp) fun k hk => by
    have : w.heap.size = k := by simpa [Value.ownBlock] using hk
    omega
  rw [← nums_append, ← spart_zero kind place l hp] at ho1
  clear hg1 hat1
  go_loopw [8] (fun v8 wr => ∃ (k m c : Nat) (A : Option Addr), v8 = .slice A m c ∧ m ≤ 248 ∧ 6 + l.length + k ≤ m ∧ m ≤ 6 + l.length + k ∧ wr.ownsRow w.heap.size 5 1 (.slice A m c) m (nums .u8 (spart kind place l k)) ∧ Below w.heap.size w wr) (fun v8 _ => match v8 with | .slice _ m _ => 248 - m | _ => 0)
  case atStart => exact ⟨0, _, _, _, rfl, by omega, by omega, by omega, ho1, hw1⟩
  case round =>
    obtain ⟨k, m, c2, A2, rfl, hm, hk1, hk2, ho2, hw2⟩ := hrel
    clear ho1 hw1
    by_cases hlt : m < 248
    · have hbs := hw2.size
      go_wp2_with (at_builtin; go_must (refine ap_one rfl (.tmp 37) (.tmp 38) 22 5 (.int .u8 0) 1 rfl Try.underlying22 u8_info rfl (.slice A2 m c2) m (nums .u8 (spart kind place l k)) (.int .u8 0) rfl rfl (Blk.fresh _ _ _) rfl (ho2.alloc _) (by omega) (by omega) ?_ (by simp; omega)); intro g3 c3 w3 ho3 hg3 hat3)
      have hw3 : Below w.heap.size w w3 := (hw2.alloc hw2.size _).grown hg3 (by simp; omega) fun k hk => (ho2.lt k hk).1
      go_roundw
      case rel => exact ⟨k + 1, m + 1, c3, _, rfl, by omega, by omega, by omega, by rw [spart_succ, nums_append]; exact ho3, hw3⟩
      case measure => simp; omega
    · have hfull : m = 248 := by omega
      have hk : k = 242 - l.length := by omega
      subst hfull
      have hpr : spart kind place l k = rest kind place l := by unfold spart rest; rw [hk]
      rw [hpr] at ho2
      have hrl := rest_length kind place l hl
      have hs := hid (rsum A2 c2 (rest kind place l) wr (by unfold Rn; rw [hrl]; exact Rd.of_own ho2) (by omega) (rest_bytes kind place l hk0 hl hb))
      rw [hrl] at hs
      have hsr := fnv_range (rest kind place l)
      have hfin : sealed kind place l = be (fnv (rest kind place l)) 8 8 ++ rest kind place l := rfl
      have HFIN := hid hfin
      clear hfin
      generalize fnv (rest kind place l) = s at *
      generalize rest kind place l = r at *
      clear hpr hk1 hk2 hk
      go_wp2_with (fail)
      refine Calls.mono hs.out ?_
      rintro e w6 ⟨rfl, rfl⟩
      clear hs
      obtain ⟨wo, rfl⟩ : ∃ wo : World, wo = wr := ⟨_, rfl⟩
      have ho2' : wo.ownsRow w.heap.size 5 1 (.slice A2 248 c2) 248 (nums .u8 r) := ho2
      have hlt2 : ∀ g, (Value.slice A2 248 c2).ownBlock = some g → g < wo.heap.size := fun g hg => (ho2.lt g hg).2
      have hrd2 := Rd.of_own ho2
      have H2 := hid hrd2
      clear ho2 ho2' hrd2 hlt2
      go_wp2
      have hown0 := World.ownsRow_nil wo wo.heap.size 5 1
      go_loopw [10, 42] (fun v10 v42 wq => ∃ (j c : Nat) (A : Option Addr), v10 = .slice A j c ∧ v42 = .int .i64 j ∧ j ≤ 8 ∧ wq.ownsRow wo.heap.size 5 1 (.slice A j c) j (nums .u8 (be s 8 j)) ∧ Below wo.heap.size wo wq) (fun _ v42 _ => 8 - (intOf v42).toNat)
      case atStart => exact ⟨0, 0, none, rfl, rfl, by omega, by simpa [be, nums] using hown0, Below.refl _ _⟩
      case round =>
        obtain ⟨j, c4, A4, rfl, rfl, hj, ho4, hw4⟩ := hrel
        clear hown0
        by_cases hlt : j < 8
        · have hbs := hw4.size
          go_wp2_with (at_builtin; go_must (refine ap_one rfl (.tmp 45) (.tmp 53) 22 5 (.int .u8 0) 1 rfl Try.underlying22 u8_info rfl (.slice A4 j c4) j (nums .u8 (be s 8 j)) (.int .u8 (s / 2 ^ (56 - 8 * j) % 256)) rfl rfl (Blk.fresh _ _ _) rfl (ho4.alloc _) (by omega) (by omega) ?_ (by simp; omega)); intro g5 c5 w5 ho5 hg5 hat5)
          have hw5 : Below wo.heap.size wo w5 := (hw4.alloc hw4.size _).grown hg5 (by simp; omega) fun k hk => (ho4.lt k hk).1
          go_roundw
          case rel => exact ⟨j + 1, c5, _, rfl, by go_num, by omega, by rw [be_succ, nums_append, ← pow8 j hlt]; exact ho5, hw5⟩
          case measure => simp [intOf]; omega
        · obtain rfl : j = 8 := by omega
          have hrd4 := Rd.below H2.out (by omega) hw4
          have hbs := hw4.size
          go_wp2_with (at_builtin; go_must (refine ap_row wo.heap.size rfl (.tmp 56) (.tmp 57) 22 5 (.int .u8 0) 1 1 rfl Try.underlying22 u8_info rfl (by omega) (.slice A4 8 c4) 8 (nums .u8 (be s 8 8)) A2 248 c2 (nums .u8 r) rfl rfl ho4 hrd4 (nums_one _ _) (by omega) (by omega) hbs ?_); intro A6 c6 w6 ho6 hg6 hat6)
          have hw6 : Below wo.heap.size wo w6 := hw4.grown hg6 hbs fun k hk => (ho4.lt k hk).1
          go_ret2
          exact ⟨A6, c6, rfl, by rw [HFIN.out, nums_append]; exact own_base ho6 hw2.size, Upd.of_below No (hw2.trans (hw6.mono hw2.size))⟩
end Go.Proofs.Ytkjbjgoldondaaa.Sw
