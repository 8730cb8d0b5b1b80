/-
  The walks of SumTurned and SumJoins.
-/
import Derived.Test.YtkjbjgoldondaaaSa
import Derived.Test.YtkjbjgoldondaaaSp
set_option linter.unusedVariables false
set_option linter.unusedSimpArgs false
namespace Go.Proofs.Ytkjbjgoldondaaa.Sa
open Go.RowKit Go.Proofs.Ytkjbjgoldondaaa.B Go.Proofs.Ytkjbjgoldondaaa.Cm Go.Proofs.Ytkjbjgoldondaaa.Sm Go.Proofs.Ytkjbjgoldondaaa.Sw Go.Proofs.Ytkjbjgoldondaaa.Sp
set_option maxHeartbeats 400000 in
theorem turned_long (A : Option Addr) (c : Nat) (l : List Int) (kind place at_ by_ : Int) (w : World) (hl : 242 < l.length) (hm : l.length ≤ 9223372036854775807) :
    Calls Try.prog 6 #[.int .u8 kind, .int .u32 place, .slice A l.length c, .int .u8 at_, .int .u8 by_] w fun e w' => e = .returned (.bool true) ∧ Below w.heap.size w w' := by
  go_enter Try.func6, Try.ntmps6
  go_wp2_with (fail)
  refine (awake w).mono ?_
  rintro e w1 ⟨rfl, hu1⟩
  go_wp2_with (fail)
  refine (awake w1).mono ?_
  rintro e w2 ⟨rfl, hu2⟩
  go_wp2
  go_ret
  exact ⟨rfl, (hu1.next hu2).old (Nat.le_refl _)⟩
/-- A block that is opened under any kind and place. -/
theorem open_nb {w : World} {g : Nat} {z : List Int} (hn : Nb w 5 g z) (hz : z.length = 256) (hb : Byte z) (kind place : Int) (hk : 0 ≤ kind ∧ kind ≤ 255) (hp : 0 ≤ place ∧ place ≤ 4294967295) (ok : Bool) (q : List Int) (hok : okOf kind place z = ok) (hq : outOf kind place z = q) :
    Calls Try.prog 13 #[.int .u8 kind, .int .u32 place, .slice (some ⟨g, 0, none⟩) 256 256] w (OpenPost ok q w) := by
  have h := open_ (some ⟨g, 0, none⟩) 256 z kind place w hn.rn (by omega) (by omega) hb hk hp
  rw [hz, hok, hq] at h
  exact h
theorem nb_upd {w w' : World} {e : TypeId} {g : Nat} {z : List Int} (h : Nb w e g z) (hu : Upd No w w') : Nb w' e g z := Blk.upd h hu (no_ _)
theorem out_false {k p : Int} {z : List Int} (h : okOf k p z = false) : outOf k p z = [] := by simp [outOf, h]
set_option maxHeartbeats 2000000 in
set_option maxRecDepth 100000 in
theorem turned_short (A : Option Addr) (c : Nat) (l : List Int) (kind place by_ : Int) (i : Nat) (w : World) (hr : Rn w .u8 A l) (hc : l.length ≤ c) (hm : c ≤ 9223372036854775807) (hb : Byte l) (hl : l.length ≤ 242)
    (hk : 0 ≤ kind ∧ kind ≤ 255) (hp : 0 ≤ place ∧ place ≤ 4294967295) (hi : i ≤ 255) (hy : 0 ≤ by_ ∧ by_ ≤ 255) :
    Calls Try.prog 6 #[.int .u8 kind, .int .u32 place, .slice A l.length c, .int .u8 (i : Int), .int .u8 by_] w fun e w' => e = .returned (.bool true) ∧ Below w.heap.size w w' := by
  have hzl := hid (sealed_length kind place l hl)
  have hzb := sealed_bytes kind place l hk hl hb
  have ok1 := hid (okOf_sealed kind place l hl)
  have out1 := hid (outOf_sealed kind place l hl)
  have okk := hid (fun k' (h : k' ≠ kind) => okOf_other kind k' place place l hl hp hp (fun hh => h hh.1))
  have okp := hid (fun p' (h : p' ≠ place) (hp' : 0 ≤ p' ∧ p' ≤ 4294967295) => okOf_other kind kind place p' l hl hp hp' (fun hh => h hh.2))
  have okt := hid (fun v hv => okOf_turned kind place l i v hk hl hb (by omega) hv)
  have hgi := hzb _ (gi_mem _ i (by rw [hzl.out]; omega))
  have hto := hid (turn8 (gi (sealed kind place l) i) by_ hgi hy)
  have hseal := hid (fun W hu => seal_ A c l kind place W (Rd.upd hr (by omega) hu fun _ _ => no_ _) hl hb hk hp)
  generalize hzz : sealed kind place l = z at *
  clear hzz
  go_enter Try.func6, Try.ntmps6
  go_wp2_with (fail)
  refine (awake w).mono ?_
  rintro e w1 ⟨rfl, hu1⟩
  go_wp2_with (fail)
  refine Calls.mono (hseal.out _ hu1) ?_
  rintro e w2 ⟨g, rfl, hn2, hg2, hu2⟩
  have hu2' := hu1.next hu2
  have hg0 := Nat.le_trans hu1.size hg2
  clear hu1 hu2 hseal
  go_wp2_with (fail)
  refine (open_nb hn2 hzl.out hzb kind place hk hp true l ok1.out out1.out).mono ?_
  rintro e w3 ⟨A3, c3, rfl, ho3, hu3⟩
  have hn3 := nb_upd hn2 hu3
  have hu3' := hu2'.next hu3
  have hpr := Rn_of_own ho3
  clear hn2 hu2' ho3
  go_wp2_with (fail)
  refine (open_nb hn3 hzl.out hzb ((kind + 1) % 256) place (by omega) hp false [] (okk.out _ (by omega)) (out_false (okk.out _ (by omega)))).mono ?_
  rintro e w4 ⟨A4, c4, rfl, ho4, hu4⟩
  have hn4 := nb_upd hn3 hu4
  have hpr4 := Rd.upd hpr (by omega) hu4 fun _ _ => no_ _
  clear hn3 ho4 hpr
  go_wp2_with (fail)
  refine (open_nb hn4 hzl.out hzb kind ((place + 1) % 4294967296) hk (by omega) false [] (okp.out _ (by omega) (by omega)) (out_false (okp.out _ (by omega) (by omega)))).mono ?_
  rintro e w5 ⟨A5, c5, rfl, ho5, hu5⟩
  have hn5 := nb_upd hn4 hu5
  have hu6 := (hu3'.next hu4).next hu5
  have hcv1 := conv_str (P := Try.prog) (Rd.upd hpr4 (by omega) hu5 fun _ _ => no_ _) 22 9 5 c3 Try.underlying22 Try.underlying5 Try.underlying9
  have hcv2 := conv_str (P := Try.prog) (Rd.upd hr (by omega) hu6 fun _ _ => no_ _) 22 9 5 c Try.underlying22 Try.underlying5 Try.underlying9
  clear hn4 ho5 hpr4 hu3' hu4 hu5 hu3 hr
  have hci := hn5.cell (i := i) (by rw [hzl.out]; omega)
  have hfi := Blk.free hn5 i
  have hi2 : (i : Int) ≤ 255 := by omega
  have hx := hto.out
  have hok : okOf kind place (z.set i (bits .xor .u8 (gi z i) by_)) = decide (by_ = 0) := by
    rw [okt.out _ hx.1]
    simp [hx.2]
  have hzb6 : Byte (z.set i (bits .xor .u8 (gi z i) by_)) := fun x hxm => by
    rcases List.mem_or_eq_of_mem_set hxm with h | h
    · exact hzb x h
    · subst h; exact hx.1
  have hn6 := hn5.put i (bits .xor .u8 (gi z i) by_)
  have hopen := hid (open_nb hn6 (by rw [List.length_set]; exact hzl.out) hzb6 kind place hk hp (decide (by_ = 0)) _ hok rfl)
  have hu7 : Below w.heap.size w (w5.setCell ⟨g, i, none⟩ (.int .u8 (bits .xor .u8 (gi z i) by_))) := (hu6.old (Nat.le_refl _)).setCell (p := ⟨g, i, none⟩) hg0 _
  have hx1 := hx.1
  clear hx hok hzb6 hn6 hn5 hu6 hto okt okk okp ok1 out1 hzb
  go_wp2_with (fail)
  refine Calls.mono hopen.out ?_
  rintro e w6 ⟨A6, c6, rfl, ho6, hu8⟩
  have hu9 := hu7.trans (hu8.old hu7.size)
  clear hopen ho6 hu8 hu7
  go_wp2
  go_ret
  refine ⟨congrArg Ending.returned (congrArg Value.bool ?_), hu9⟩
  show (decide (by_ = 0) == (by_ == 0)) = true
  by_cases h : by_ = 0 <;> simp [h]
theorem turned (A : Option Addr) (c : Nat) (l : List Int) (kind place at_ by_ : Int) (w : World) (hr : Rn w .u8 A l) (hc : l.length ≤ c) (hm : c ≤ 9223372036854775807) (hb : Byte l)
    (hk : 0 ≤ kind ∧ kind ≤ 255) (hp : 0 ≤ place ∧ place ≤ 4294967295) (ha : 0 ≤ at_ ∧ at_ ≤ 255) (hy : 0 ≤ by_ ∧ by_ ≤ 255) :
    Calls Try.prog 6 #[.int .u8 kind, .int .u32 place, .slice A l.length c, .int .u8 at_, .int .u8 by_] w fun e w' => e = .returned (.bool true) ∧ Below w.heap.size w w' := by
  by_cases hl : l.length ≤ 242
  · obtain ⟨i, rfl⟩ := Int.eq_ofNat_of_zero_le ha.1
    exact turned_short A c l kind place by_ i w hr hc hm hb hl hk hp (by omega) hy
  · exact turned_long A c l kind place at_ by_ w (by omega) (by omega)
set_option maxHeartbeats 2000000 in
set_option maxRecDepth 100000 in
theorem joins (A1 A2 : Option Addr) (c1 c2 : Nat) (l1 l2 : List Int) (x y : Int) (w : World) (hr1 : Rn w .u8 A1 l1) (hr2 : Rn w .u8 A2 l2) (hb1 : Byte l1) (hb2 : Byte l2) (hl1 : l1.length ≤ 1048576) (hl2 : l2.length ≤ 1048576)
    (hx : 0 ≤ x ∧ x ≤ 255) (hy : 0 ≤ y ∧ y ≤ 255) :
    Calls Try.prog 7 #[.slice A1 l1.length c1, .slice A2 l2.length c2, .int .u8 x, .int .u8 y] w fun e w' => e = .returned (.bool true) ∧ Below w.heap.size w w' := by
  go_enter Try.func7, Try.ntmps7
  go_wp2_with (fail)
  refine (awake w).mono ?_
  rintro e w1 ⟨rfl, hu1⟩
  have hr11 := Rd.upd hr1 (by omega) hu1 fun _ _ => no_ _
  have hr21 := Rd.upd hr2 (by omega) hu1 fun _ _ => no_ _
  go_wp2_with (first
    | (at_builtin; refine ap_row w1.heap.size rfl (.tmp 13) (.tmp 14) 22 5 (.int .u8 0) 1 1 rfl Try.underlying22 u8_info rfl (by omega) (.slice (some ⟨w1.heap.size, 0, none⟩) 0 0) 0 [] A1 l1.length c1 (nums .u8 l1) rfl rfl (World.ownsRow_made w1 #[] 0 (Nat.le_refl _) (Nat.zero_le _) rfl) (hr11.alloc (by omega) _) (nums_one _ _) (by omega) (by omega) (by simp) ?_; intro A3 c3 w3 ho3 hg3 hat3; rw [Nat.zero_add] at ho3; have hb3 : Below w1.heap.size w1 w3 := ((Below.refl _ _).alloc (Nat.le_refl _) _).grown hg3 (by simp) (fun k hk => Nat.le_of_eq (by simpa [Value.ownBlock] using hk)); have hs3 := hb3.size)
    | (at_builtin; refine ap_one rfl (.tmp 15) (.tmp 17) 22 5 (.int .u8 0) 1 rfl Try.underlying22 u8_info rfl (.slice A3 l1.length c3) l1.length (nums .u8 l1) (.int .u8 x) rfl rfl (Blk.fresh _ _ _) rfl (ho3.alloc _) (by omega) (by omega) ?_ (by simp; omega); intro g4 c4 w4 ho4 hg4 hat4; have hb4 : Below w1.heap.size w1 w4 := (hb3.alloc hb3.size _).grown hg4 (by simp; omega) (fun k hk => (ho3.lt k hk).1); have hs4 := hb4.size)
    | (at_builtin; refine ap_row w1.heap.size rfl (.tmp 18) (.tmp 19) 22 5 (.int .u8 0) 1 1 rfl Try.underlying22 u8_info rfl (by omega) (.slice (some ⟨g4, 0, none⟩) (l1.length + 1) c4) (l1.length + 1) (nums .u8 l1 ++ [.int .u8 x]) A2 l2.length c2 (nums .u8 l2) rfl rfl ho4 (Rd.below hr21 (by omega) hb4) (nums_one _ _) (by omega) (by omega) hs4 ?_; intro A5 c5 w5 ho5 hg5 hat5; have hb5 : Below w1.heap.size w1 w5 := hb4.grown hg5 hs4 (fun k hk => (ho4.lt k hk).1); have hs5 := hb5.size)
    | (at_builtin; refine ap_row w5.heap.size rfl (.tmp 21) (.tmp 22) 22 5 (.int .u8 0) 1 1 rfl Try.underlying22 u8_info rfl (by omega) (.slice (some ⟨w5.heap.size, 0, none⟩) 0 0) 0 [] A1 l1.length c1 (nums .u8 l1) rfl rfl (World.ownsRow_made w5 #[] 0 (Nat.le_refl _) (Nat.zero_le _) rfl) ((Rd.below hr11 (by omega) hb5).alloc (by omega) _) (nums_one _ _) (by omega) (by omega) (by simp) ?_; intro A6 c6 w6 ho6 hg6 hat6; rw [Nat.zero_add] at ho6; have hb6 : Below w5.heap.size w5 w6 := ((Below.refl _ _).alloc (Nat.le_refl _) _).grown hg6 (by simp) (fun k hk => Nat.le_of_eq (by simpa [Value.ownBlock] using hk)); have hs6 := hb6.size)
    | (at_builtin; refine ap_one rfl (.tmp 23) (.tmp 25) 22 5 (.int .u8 0) 1 rfl Try.underlying22 u8_info rfl (.slice A6 l1.length c6) l1.length (nums .u8 l1) (.int .u8 y) rfl rfl (Blk.fresh _ _ _) rfl (ho6.alloc _) (by omega) (by omega) ?_ (by simp; omega); intro g7 c7 w7 ho7 hg7 hat7; have hb7 : Below w5.heap.size w5 w7 := (hb6.alloc hb6.size _).grown hg7 (by simp; omega) (fun k hk => (ho6.lt k hk).1); have hs7 := hb7.size)
    | (at_builtin; refine ap_row w5.heap.size rfl (.tmp 26) (.tmp 27) 22 5 (.int .u8 0) 1 1 rfl Try.underlying22 u8_info rfl (by omega) (.slice (some ⟨g7, 0, none⟩) (l1.length + 1) c7) (l1.length + 1) (nums .u8 l1 ++ [.int .u8 y]) A2 l2.length c2 (nums .u8 l2) rfl rfl ho7 (Rd.below (Rd.below hr21 (by omega) hb5) (by omega) hb7) (nums_one _ _) (by omega) (by omega) hs7 ?_; intro A8 c8 w8 ho8 hg8 hat8; have hb8 : Below w5.heap.size w5 w8 := hb7.grown hg8 hs7 (fun k hk => (ho7.lt k hk).1); have hs8 := hb8.size)
    | fail)
  have hL : ∀ v : Int, (l1 ++ v :: l2).length = l1.length + 1 + l2.length := fun v => by simp; omega
  have hN : ∀ v : Int, [] ++ nums .u8 l1 ++ [Value.int .u8 v] ++ nums .u8 l2 = nums .u8 (l1 ++ v :: l2) := fun v => by simp [nums]
  have hB : ∀ v : Int, 0 ≤ v ∧ v ≤ 255 → Byte (l1 ++ v :: l2) := fun v hv z hz => by
    simp only [List.mem_append, List.mem_cons] at hz
    rcases hz with hz | rfl | hz
    · exact hb1 z hz
    · exact hv
    · exact hb2 z hz
  have r5 : Rn w8 .u8 A5 (l1 ++ x :: l2) := by
    have h1 := Rd.below (Rd.of_own ho5) (by omega) hb8
    unfold Rn
    rw [hL, ← hN x]
    simpa using h1
  have r8 : Rn w8 .u8 A8 (l1 ++ y :: l2) := by
    have h1 := Rd.of_own ho8
    unfold Rn
    rw [hL, ← hN y]
    simpa using h1
  have s5 := sum A5 c5 (l1 ++ x :: l2) w8 r5 (by rw [hL]; omega) (hB x hx)
  have s8 := sum A8 c8 (l1 ++ y :: l2) w8 r8 (by rw [hL]; omega) (hB y hy)
  have hfn : fnv (l1 ++ x :: l2) = fnv (l1 ++ y :: l2) ↔ x = y := ⟨fnv_one l1 l2 x y hb1 hb2 hx hy, fun h => by rw [h]⟩
  rw [hL] at s5 s8
  generalize fnv (l1 ++ x :: l2) = f5 at *
  generalize fnv (l1 ++ y :: l2) = f8 at *
  have S5 := hid s5
  have S8 := hid s8
  have HFN := hid hfn
  have hfin := (hu1.old (Nat.le_refl _)).trans ((hb5.trans (hb8.mono hs5)).mono hu1.size)
  clear s5 s8 hfn r5 r8 hL hN hB ho3 ho4 ho5 ho6 ho7 ho8 hg3 hg4 hg5 hg6 hg7 hg8 hat3 hat4 hat5 hat6 hat7 hat8 hb3 hb4 hb5 hb6 hb7 hb8 hr1 hr2 hr11 hr21
  refine Calls.mono S5.out ?_
  rintro e w9 ⟨rfl, rfl⟩
  go_wp2_with (fail)
  refine Calls.mono S8.out ?_
  rintro e w9 ⟨rfl, rfl⟩
  go_wp2
  go_ret
  refine ⟨congrArg Ending.returned (congrArg Value.bool ?_), hfin⟩
  show ((f5 == f8) == (x == y)) = true
  rw [beq_iff_eq, Bool.eq_iff_iff, beq_iff_eq, beq_iff_eq]
  exact HFN.out
end Go.Proofs.Ytkjbjgoldondaaa.Sa
