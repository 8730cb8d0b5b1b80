/-
  The walks of reevelaw01.CodecWrites, CodecJoins.
-/
import Derived.Test.YtlghblpkgmajeaaCv
import Derived.Test.YtlghblpkgmajeaaCn
set_option linter.unusedVariables false
set_option linter.unusedSimpArgs false
namespace Go.Proofs.Ytlghblpkgmajeaa.Cx
open Go.RowKit Go.Proofs.Ytlghblpkgmajeaa.B Go.Proofs.Ytlghblpkgmajeaa.Cm Go.Proofs.Ytlghblpkgmajeaa.Cw Go.Proofs.Ytlghblpkgmajeaa.Cv
set_option maxHeartbeats 1000000 in
theorem writes (A : Option Addr) (c : Nat) (ps : List Pc) (w : World) (hr : Rd w 3 A ps.length (pcCells ps)) (hc : ps.length ≤ 1048576) (hok : PcOk ps) (hl : (pcOuts ps).length ≤ 140737488350000) :
    Calls Try.prog 5 #[.slice A ps.length c] w fun e w' => e = .returned (.bool true) ∧ Below w.heap.size w w' := by
  go_enter Try.func5, Try.ntmps5
  go_wp2_with (fail)
  refine (Ca.awake w).mono ?_
  rintro e w1 ⟨rfl, hb1⟩
  go_wp2_with (fail)
  refine (write A c ps w1 (Rd.below hr (by omega) hb1) (by omega) hok hl).mono ?_
  rintro e w2 ⟨A1, c1, A2, c2, rfl, ⟨hr1, _, _⟩, ⟨hr2, _, _⟩, hb2⟩
  have hc1 := conv_str (P := Try.prog) hr1 27 9 5 c1 Try.underlying27 Try.underlying5 Try.underlying9
  have hc2 := conv_str (P := Try.prog) hr2 27 9 5 c2 Try.underlying27 Try.underlying5 Try.underlying9
  go_wp2
  go_ret
  exact ⟨rfl, hb1.trans (hb2.mono hb1.size)⟩
theorem pc_info : (Try.prog.info? 49).map (fun i => (i.zero, i.size, i.bytes)) = some (some (.agg #[.int .i64 0, .int .u64 0, .string ⟨#[]⟩]), 3, 32) := by kernel_rfl
theorem pc_one (ps : List Pc) : ∀ u ∈ pcCells ps, u.oneCell' = true := by
  intro u hu
  simp only [pcCells, List.mem_flatMap, List.mem_cons, List.not_mem_nil, or_false] at hu
  obtain ⟨p, _, rfl | rfl | rfl⟩ := hu <;> rfl
set_option maxHeartbeats 2000000 in
theorem joins (A B : Option Addr) (c d : Nat) (ps qs : List Pc) (w : World) (hr : Rd w 3 A ps.length (pcCells ps)) (hc : ps.length ≤ 1048576) (hok : PcOk ps) (hl : (pcOuts ps).length ≤ 14073748835000)
    (hr' : Rd w 3 B qs.length (pcCells qs)) (hc' : qs.length ≤ 1048576) (hok' : PcOk qs) (hl' : (pcOuts qs).length ≤ 14073748835000) :
    Calls Try.prog 6 #[.slice A ps.length c, .slice B qs.length d] w fun e w' => e = .returned (.bool true) ∧ Below w.heap.size w w' := by
  go_enter Try.func6, Try.ntmps6
  go_wp2_with (fail)
  refine (Ca.awake w).mono ?_
  rintro e w1 ⟨rfl, hb1⟩
  have hr1 := Rd.below hr (by omega) hb1
  have hr1' := Rd.below hr' (by omega) hb1
  go_wp2_with (fail)
  refine (write A c ps w1 hr1 (by omega) hok (by omega)).mono ?_
  rintro e w2 ⟨A1, c1, A2, c2, rfl, ⟨hs1, _, _⟩, _, hb2⟩
  have hr2 := Rd.below hr1 (by omega) hb2
  have hr2' := Rd.below hr1' (by omega) hb2
  go_wp2_with (fail)
  refine (write B d qs w2 hr2' (by omega) hok' (by omega)).mono ?_
  rintro e w3 ⟨A3, c3, A4, c4, rfl, ⟨hs3, _, _⟩, _, hb3⟩
  have hr3 := Rd.below hr2 (by omega) hb3
  have hr3' := Rd.below hr2' (by omega) hb3
  have hs1' := Rd.below hs1 (by omega) hb3
  obtain ⟨m, hlen, hlen2⟩ : ∃ m, ps.length + qs.length = m ∧ (ps ++ qs).length = m := ⟨_, rfl, by rw [List.length_append]⟩
  have HL2 := hid hlen2
  have hcells : pcCells ps ++ pcCells qs = pcCells (ps ++ qs) := by simp [pcCells]
  have hls : m ≤ 2097152 := by omega
  have HL := hid hlen
  have HC := hid hcells
  clear hlen hlen2 hcells
  go_wp2_with (first
    | (at_builtin; refine ap_row w3.heap.size rfl (.tmp 24) (.tmp 25) 36 49 (.agg #[.int .i64 0, .int .u64 0, .string ⟨#[]⟩]) 3 32 rfl Try.underlying36 pc_info rfl (by omega) (.slice (some ⟨w3.heap.size, 0, none⟩) 0 0) 0 [] A ps.length c (pcCells ps) rfl rfl (World.ownsRow_made w3 #[] 0 (Nat.le_refl _) (Nat.zero_le _) rfl) (Rd.alloc hr3 (by omega) _) (pc_one _) (by omega) (by omega) (by simp) ?_; intro A5 c5 w5 ho5 hg5 hat5; rw [Nat.zero_add, List.nil_append] at ho5; rw [Nat.zero_add])
    | (at_builtin; go_must (refine ap_row w3.heap.size rfl (.tmp 26) (.tmp 27) 36 49 (.agg #[.int .i64 0, .int .u64 0, .string ⟨#[]⟩]) 3 32 rfl Try.underlying36 pc_info rfl (by omega) (.slice A5 ps.length c5) ps.length (pcCells ps) B qs.length d (pcCells qs) rfl rfl ho5 (Rd.below hr3' (by omega) (((Below.refl _ _).alloc (Nat.le_refl _) _).grown hg5 (by simp) fun k hk => by have : w3.heap.size = k := (by simpa [Value.ownBlock] using hk); omega)) (pc_one _) (by omega) (by omega) (by have := hg5.size; simp at this; omega) ?_); intro A6 c6 w6 ho6 hg6 hat6; rw [HL.out]))
  have hr6 : Rd w6 3 A6 (ps ++ qs).length (pcCells (ps ++ qs)) := by
    have := Rd.of_own ho6
    rw [HL.out, HC.out, ← HL2.out] at this
    exact this
  have hb36 : Below w3.heap.size w3 w6 := by
    have h5 := ((Below.refl w3.heap.size w3).alloc (Nat.le_refl _) (.cells #[] 49)).grown hg5 (by simp) fun k hk => by
      have : w3.heap.size = k := by simpa [Value.ownBlock] using hk
      omega
    refine h5.grown hg6 h5.size fun k hk => ?_
    rcases hat5 k (by rw [Nat.zero_add]; exact hk) with h | h
    · have : w3.heap.size = k := by simpa [Value.ownBlock] using h
      omega
    · simp at h; omega
  have hout : pcOuts (ps ++ qs) = pcOuts ps ++ pcOuts qs := by simp [pcOuts]
  have hok2 : PcOk (ps ++ qs) := fun p hp => by
    rcases List.mem_append.1 hp with h | h
    · exact hok p h
    · exact hok' p h
  have hwr := hid (write A6 c6 (ps ++ qs) w6 hr6 (by rw [HL2.out]; omega) hok2 (by rw [hout, List.length_append]; omega))
  rw [HL2.out] at hwr
  obtain ⟨zs, hzs⟩ : ∃ zs, zs = pcOuts (ps ++ qs) := ⟨_, rfl⟩
  rw [← hzs] at hwr
  rw [← hzs] at hout
  clear hzs
  refine Calls.mono hwr.out ?_
  rintro e w7 ⟨A7, c7, A8, c8, rfl, ⟨hs7, _, _⟩, _, hb7⟩
  have hs3' := Rd.below (Rd.below hs3 (by omega) hb36) (by omega) hb7
  have hs1'' := Rd.below (Rd.below hs1' (by omega) hb36) (by omega) hb7
  have hc1 := conv_str (P := Try.prog) (l := pcOuts ps) hs1'' 27 9 5 c1 Try.underlying27 Try.underlying5 Try.underlying9
  have hc2 := conv_str (P := Try.prog) (l := pcOuts qs) hs3' 27 9 5 c3 Try.underlying27 Try.underlying5 Try.underlying9
  have hc3 := conv_str (P := Try.prog) hs7 27 9 5 c7 Try.underlying27 Try.underlying5 Try.underlying9
  have hsum : strOfNums (pcOuts ps) ++ strOfNums (pcOuts qs) = strOfNums zs := by
    rw [hout]
    simp only [strOfNums, List.map_append]
    apply ByteArray.ext
    simp
  have hz1 := strOfNums_size (pcOuts ps)
  have hz2 := strOfNums_size (pcOuts qs)
  have hzl : (strOfNums (pcOuts ps)).size + (strOfNums (pcOuts qs)).size ≤ 9223372036854775807 := by omega
  clear hout hz1 hz2
  have hbb := hb1.trans ((hb2.trans ((hb3.trans ((hb36.trans (hb7.mono hb36.size)).mono hb3.size)).mono hb2.size)).mono hb1.size)
  go_wp2
  go_ret
  exact ⟨rfl, hbb⟩
end Go.Proofs.Ytlghblpkgmajeaa.Cx
