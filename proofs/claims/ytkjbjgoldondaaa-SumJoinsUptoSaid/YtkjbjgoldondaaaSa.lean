/-
  The walks of reevelaw02.awake, and of the laws of layer 2.
-/
import Derived.Test.YtkjbjgoldondaaaSo
set_option linter.unusedVariables false
set_option linter.unusedSimpArgs false
namespace Go.Proofs.Ytkjbjgoldondaaa.Sa
open Go.RowKit Go.Proofs.Ytkjbjgoldondaaa.B Go.Proofs.Ytkjbjgoldondaaa.Cm Go.Proofs.Ytkjbjgoldondaaa.Sm Go.Proofs.Ytkjbjgoldondaaa.Sw
theorem fnv97 : fnv [97] = 12638187200555641996 := by decide +kernel
set_option maxHeartbeats 1000000 in
theorem awake (w : World) : Calls Try.prog 8 #[] w fun e w' => e = .returned (.bool true) ∧ Upd No w w' := by
  have kc := fun (w : World) (C : Array Value) (n c : Nat) => Lib.run_convert_bytes_const (P := Try.prog) w 22 5 C n c Try.underlying22 Try.underlying5
  go_enter Try.func8, Try.ntmps8
  go_wp2_with (fail)
  have hb120 : Byte [120] := by intro c hc; simp at hc; omega
  refine (seal_ (some ⟨w.heap.size, 0, none⟩) 1 [120] 1 2 _ (Rn.litm w .u8 5 (1, 2) _) (by simp) hb120 (by omega) (by omega)).mono ?_
  rintro e w1 ⟨g, rfl, hn1, hg1, hu1⟩
  have hu2 := Upd.next ((Upd.refl No w).alloc (.cells (nums .u8 [120]).toArray 5 (1, 2))) hu1
  have hsl := sealed_length 1 2 [120] (by simp)
  have hsb := sealed_bytes 1 2 [120] (by omega) (by simp) hb120
  have ho := open_ (some ⟨g, 0, none⟩) 256 (sealed 1 2 [120]) 1 2 w1 hn1.rn (by omega) (by omega) hsb (by omega) (by omega)
  rw [hsl, okOf_sealed 1 2 [120] (by simp), outOf_sealed 1 2 [120] (by simp)] at ho
  have HO := hid ho
  clear ho hsl hsb hn1 hg1 hu1
  go_wp2_with (fail)
  refine Calls.mono HO.out ?_
  rintro e w2 ⟨A2, c2, rfl, ho2, hu3⟩
  have hcv : (convert 22 9 (.slice A2 1 c2)).run Try.prog w2 = .ok (.string ⟨#[120]⟩) w2 := conv_str (P := Try.prog) (l := [120]) (Rn_of_own ho2) 22 9 5 c2 Try.underlying22 Try.underlying5 Try.underlying9
  have hu4 := hu2.next hu3
  clear HO ho2 hu2 hu3
  go_wp2_with (fail)
  have hs := sum (some ⟨w2.heap.size, 0, none⟩) 1 [97] _ (Rn.litm w2 .u8 5 (1, 2) _) (by simp) (by intro c hc; simp at hc; omega)
  rw [fnv97] at hs
  refine hs.mono ?_
  rintro e w3 ⟨rfl, rfl⟩
  go_wp2
  go_ret
  exact ⟨rfl, hu4.alloc _⟩
theorem byte_of {l : List Int} (h : ∀ x ∈ l, (Lit.int .u8 x).wf = true) : Byte l := fun x hx => by
  simpa [Lit.wf, IntKind.min, IntKind.max, IntKind.signed, IntKind.bits] using h x hx
set_option maxHeartbeats 1000000 in
theorem sums (A : Option Addr) (c : Nat) (l : List Int) (w : World) (hr : Rn w .u8 A l) (hc : l.length ≤ c) (hm : c ≤ 9223372036854775807) (hb : Byte l) :
    Calls Try.prog 3 #[.slice A l.length c] w fun e w' => e = .returned (.bool true) ∧ Below w.heap.size w w' := by
  go_enter Try.func3, Try.ntmps3
  go_wp2_with (fail)
  refine (awake w).mono ?_
  rintro e w1 ⟨rfl, hu⟩
  have hr1 := Rd.upd hr (by omega) hu fun _ _ => no_ _
  go_wp2_with (fail)
  refine (sum A c l w1 hr1 (by omega) hb).mono ?_
  rintro e w2 ⟨rfl, rfl⟩
  go_wp2_with (fail)
  refine (rsum A c l w1 hr1 (by omega) hb).mono ?_
  rintro e w2 ⟨rfl, rfl⟩
  go_wp2
  go_ret
  exact ⟨by simp, hu.old (Nat.le_refl _)⟩
set_option maxHeartbeats 1000000 in
theorem seals (A : Option Addr) (c : Nat) (l : List Int) (kind place : Int) (w : World) (hr : Rn w .u8 A l) (hc : l.length ≤ c) (hm : c ≤ 9223372036854775807) (hb : Byte l) (hk : 0 ≤ kind ∧ kind ≤ 255) (hp : 0 ≤ place ∧ place ≤ 4294967295) :
    Calls Try.prog 4 #[.int .u8 kind, .int .u32 place, .slice A l.length c] w fun e w' => e = .returned (.bool true) ∧ Below w.heap.size w w' := by
  by_cases hl : l.length ≤ 242
  · have hsl := sealed_length kind place l hl
    have HSL := hid hsl
    clear hsl
    go_enter Try.func4, Try.ntmps4
    go_wp2_with (fail)
    refine (awake w).mono ?_
    rintro e w1 ⟨rfl, hu1⟩
    have hr1 := Rd.upd hr (by omega) hu1 fun _ _ => no_ _
    go_wp2_with (fail)
    refine (seal_ A c l kind place w1 hr1 hl hb hk hp).mono ?_
    rintro e w2 ⟨g, rfl, hn2, hg2, hu2⟩
    have hr2 : Rn w2 .u8 A l := Rd.upd hr1 (by omega) hu2 fun _ _ => no_ _
    go_wp2_with (fail)
    refine (rseal A c l kind place w2 hr2 hl hb hk hp).mono ?_
    rintro e w3 ⟨A3, c3, rfl, ho3, hu3⟩
    have hcv1 := conv_str (P := Try.prog) (Rd.upd hn2.rn (by omega) hu3 fun _ _ => no_ _) 22 9 5 256 Try.underlying22 Try.underlying5 Try.underlying9
    have ho3' : w3.ownsRow w2.heap.size 5 1 (.slice A3 (sealed kind place l).length c3) (sealed kind place l).length (nums .u8 (sealed kind place l)) := by rw [HSL.out]; exact ho3
    have hcv2 := conv_str (P := Try.prog) (Rn_of_own ho3') 22 9 5 c3 Try.underlying22 Try.underlying5 Try.underlying9
    rw [HSL.out] at hcv1 hcv2
    have hu4 := (hu1.next hu2).next hu3
    clear ho3 ho3' hn2 hr2 hr1 hu1 hu2 hu3
    go_wp2
    go_ret
    exact ⟨by simp, hu4.old (Nat.le_refl _)⟩
  · have hcn := fun W => run_convert_bytes_nil (P := Try.prog) W 22 5 Try.underlying22 Try.underlying5 0 0 9 Try.underlying9
    go_enter Try.func4, Try.ntmps4
    go_wp2_with (fail)
    refine (awake w).mono ?_
    rintro e w1 ⟨rfl, hu1⟩
    go_wp2_with (fail)
    refine (seal_long A c l kind place w1 (by omega)).mono ?_
    rintro e w2 ⟨rfl, rfl⟩
    go_wp2_with (fail)
    refine (rseal_long A c l kind place w1 (by omega)).mono ?_
    rintro e w3 ⟨rfl, rfl⟩
    go_wp2
    go_ret
    exact ⟨by simp, hu1.old (Nat.le_refl _)⟩
set_option maxHeartbeats 1000000 in
theorem opens (A : Option Addr) (c : Nat) (l : List Int) (kind place : Int) (w : World) (hr : Rn w .u8 A l) (hc : l.length ≤ c) (hm : c ≤ 9223372036854775807) (hb : Byte l) (hk : 0 ≤ kind ∧ kind ≤ 255) (hp : 0 ≤ place ∧ place ≤ 4294967295) :
    Calls Try.prog 5 #[.int .u8 kind, .int .u32 place, .slice A l.length c] w fun e w' => e = .returned (.bool true) ∧ Below w.heap.size w w' := by
  go_enter Try.func5, Try.ntmps5
  go_wp2_with (fail)
  refine (awake w).mono ?_
  rintro e w1 ⟨rfl, hu1⟩
  have hr1 : Rn w1 .u8 A l := Rd.upd hr (by omega) hu1 fun _ _ => no_ _
  go_wp2_with (fail)
  refine (open_ A c l kind place w1 hr1 hc hm hb hk hp).mono ?_
  rintro e w2 ⟨A2, c2, rfl, ho2, hu2⟩
  have hr2 : Rn w2 .u8 A l := Rd.upd hr1 (by omega) hu2 fun _ _ => no_ _
  go_wp2_with (fail)
  refine (ropen_ A c l kind place w2 hr2 hc hm hb hk hp).mono ?_
  rintro e w3 ⟨A3, c3, rfl, ho3, hu3⟩
  have hcv1 := conv_str (P := Try.prog) (Rd.upd (Rn_of_own ho2) (by omega) hu3 fun _ _ => no_ _) 22 9 5 c2 Try.underlying22 Try.underlying5 Try.underlying9
  have hcv2 := conv_str (P := Try.prog) (Rn_of_own ho3) 22 9 5 c3 Try.underlying22 Try.underlying5 Try.underlying9
  have hu4 := (hu1.next hu2).next hu3
  clear ho3 ho2 hr2 hr1 hu1 hu2 hu3
  generalize okOf kind place l = ok at *
  generalize outOf kind place l = q at *
  go_wp2
  go_ret
  exact ⟨by simp, hu4.old (Nat.le_refl _)⟩
end Go.Proofs.Ytkjbjgoldondaaa.Sa
