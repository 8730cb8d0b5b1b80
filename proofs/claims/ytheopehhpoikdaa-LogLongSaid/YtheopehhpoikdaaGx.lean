/-
  The walk of LogLong.
-/
import Derived.Test.YtheopehhpoikdaaGw
set_option linter.unusedVariables false
set_option linter.unusedSimpArgs false
namespace Go.Proofs.Ytheopehhpoikdaa.Gl
open Go.RowKit Go.Proofs.Ytheopehhpoikdaa.B Go.Proofs.Ytheopehhpoikdaa.Cm Go.Proofs.Ytheopehhpoikdaa.Sm Go.Proofs.Ytheopehhpoikdaa.Dk Go.Proofs.Ytheopehhpoikdaa.Gp
theorem noughts (n : Nat) : Byte (List.replicate n 0) := fun c hc => by
  have := List.eq_of_mem_replicate hc
  omega
set_option maxHeartbeats 2000000 in
set_option maxRecDepth 100000 in
theorem long_ (N : Nat) (w : World) (hN : N ≤ 255) :
    Calls Try.prog 3 #[.int .u8 N] w fun e w' => e = .returned (.bool true) ∧ Below w.heap.size w w' := by
  obtain ⟨S, hS⟩ : ∃ S, S = 59900 + N := ⟨_, rfl⟩
  obtain ⟨u, hu⟩ : ∃ u : List Int, u = List.replicate S 0 := ⟨_, rfl⟩
  have hul : u.length = S := by rw [hu, List.length_replicate]
  have hub : Byte u := by rw [hu]; exact noughts S
  have HU := hid (And.intro hu (And.intro hul hub))
  have HS := hid hS
  have HSi := hid (show (59900 : Int) + (N : Int) = (S : Int) by omega)
  have hS1 : S ≤ 60155 := by omega
  have hC : (S ≤ 60000 → apC (Lm.new 0 300 1) u = 0) ∧ (60000 < S → apC (Lm.new 0 300 1) u = 4) := by
    unfold apC nbl
    simp only [hul, Lm.new]
    refine ⟨fun h => ?_, fun h => ?_⟩
    · rw [if_neg (by omega), if_neg (by omega), if_neg (by omega)]
    · rw [if_neg (by omega), if_pos (by omega)]
  have HC := hid hC
  have HS0 := hid (Snd.new (nb := 300) (fr := 0) (count := 300) (ep := 1) (by omega) (by omega) (by omega))
  clear hu hul hub hC hS
  go_enter Try.func3, Try.ntmps3
  go_wp2_with (fail)
  refine Calls.mono (awake w) ?_
  rintro e w1 ⟨rfl, hb1⟩
  have HND := hid (new_disk 300 w w1 hb1 (by omega))
  clear hb1
  go_wp2_with (fail)
  refine HND.out.mono ?_
  rintro e w2 ⟨p, D, rfl, hd2⟩
  have HO := hid (open_new (fr := 0) (count := 300) (ep := 1) hd2 (by omega) (by omega) (by omega) (by omega))
  clear hd2 HND
  go_wp2_with (fail)
  refine HO.out.mono ?_
  rintro e w3 ⟨q, F, rfl, hp3⟩
  have HP3 := hid hp3
  clear hp3 HO
  go_wp2_with (at_make; go_must (refine mk_nb rfl _ _ 31 5 rfl Try.underlying31 Sw.u8_info (59900 + (N : Int)) S rfl rfl (by have := HSi.out; omega) (by omega) ?_); intro w4 g hgA hn4 hu4; have HG := hid hgA; clear hgA)
  have hn4' : Nb w4 5 g u := by rw [HU.out.1]; exact hn4
  have hA := append_pl (HP3.out.quiet hu4) HS0.out (A := some ⟨g, 0, none⟩) (c := S) hn4'.rn (by rw [HU.out.2.1]; omega) (by omega) (fun ad e => by
    injection e with e
    subst e
    exact ⟨fun h => by have := HP3.out.dk.lt _ h; simp only at this; have := HG.out; omega, fun h => by have := HP3.out.lg.lt _ h; simp only at this; have := HG.out; omega⟩) HU.out.2.2
  rw [HU.out.2.1] at hA
  clear hn4 hn4' hu4
  by_cases h6 : 60000 < S
  · have h6' : (60000 : Int) < 59900 + (N : Int) := by have := HSi.out; omega
    have hc := HC.out.2 h6
    rw [ap_stop (m := Lm.new 0 300 1) rfl _ (by rw [hc]; omega), hc] at hA
    have HA := hid hA
    clear hA hc
    refine HA.out.mono ?_
    rintro e w5 ⟨rfl, F5, D5, hp5, _⟩
    have HB := hid hp5.bel
    clear hp5
    go_wp2
    go_ret
    exact ⟨rfl, HB.out⟩
  · have h6' : ¬ (60000 : Int) < 59900 + (N : Int) := by have := HSi.out; omega
    have hc := HC.out.1 (by omega)
    rw [ap_alive (m := Lm.new 0 300 1) rfl rfl (by decide) hc] at hA
    have hnl : nbl u = (S + 232) / 233 := by unfold nbl; rw [HU.out.2.1]
    have HS1 := hid (HS0.out.add hc HU.out.2.2 (.inl (by decide)) (by
      simp only [List.length_nil]
      omega))
    have hr1 : ((Lm.new 0 300 1).add u).count - ((Lm.new 0 300 1).add u).used = 300 - (S + 232) / 233 := by
      simp only [Lm.new, Lm.add]
      omega
    have HR1 := hid hr1
    generalize (Lm.new 0 300 1).add u = m1 at *
    have HA := hid hA
    have HBk := hid fun W => unitBlocks S W (by omega)
    have hb9 : (S + 232) / 233 ≤ 300 := by omega
    have hsub : (300 : Int) - (((S + 232) / 233 : Nat) : Int) = ((300 - (S + 232) / 233 : Nat) : Int) := by omega
    have HSb := hid hsub
    generalize (S + 232) / 233 = kb at *
    clear hA hc hnl hr1 hsub
    refine HA.out.mono ?_
    rintro e w5 ⟨rfl, F5, D5, hp5, _⟩
    have HP5 := hid hp5
    have hRm := room q p m1 F5 w5 hp5.lg HS1.out.ok
    rw [HR1.out] at hRm
    have HRm := hid hRm
    clear hp5 hRm HA
    go_wp2_with (fail)
    refine HRm.out.mono ?_
    rintro e w6 ⟨rfl, hu6⟩
    have HB := hid (HP5.out.quiet hu6).bel
    clear hu6
    go_wp2_with (fail)
    rw [HSi.out]
    refine (HBk.out w6).mono ?_
    rintro e w7 ⟨rfl, rfl⟩
    have hsub := HSb.out
    go_wp2
    go_ret
    exact ⟨rfl, HB.out⟩
theorem long_law (n : Int) (w : World) (hn : 0 ≤ n ∧ n ≤ 255) :
    Calls Try.prog 3 #[.int .u8 n] w fun e w' => e = .returned (.bool true) ∧ Below w.heap.size w w' := by
  obtain ⟨N, rfl⟩ : ∃ N : Nat, n = N := ⟨n.toNat, by omega⟩
  exact long_ N w (by omega)
end Go.Proofs.Ytheopehhpoikdaa.Gl
