/-
  What a log and its disk are behind appends (plain); the pair of a log and its disk; UnitBlocks, awake.
-/
import Derived.Test.YtheopehhpoikdaaGa
set_option linter.unusedVariables false
set_option linter.unusedSimpArgs false
namespace Go.Proofs.Ytheopehhpoikdaa.Gl
open Go.RowKit Go.Proofs.Ytheopehhpoikdaa.B Go.Proofs.Ytheopehhpoikdaa.Cm Go.Proofs.Ytheopehhpoikdaa.Sm Go.Proofs.Ytheopehhpoikdaa.Dk Go.Proofs.Ytheopehhpoikdaa.Gp
theorem last_wrs (log : List (Nat × List Int)) (base : Nat) (f : Nat → List Int) (x : Nat) : ∀ n : Nat, last (log ++ (List.range n).map fun i => (base + i, f i)) x = if base ≤ x ∧ x < base + n then some (f (x - base)) else last log x := by
  intro n
  induction n with
  | zero =>
    rw [if_neg (by omega)]
    simp
  | succ n ih =>
    rw [List.range_succ, List.map_append, ← List.append_assoc, List.map_cons, List.map_nil, last_snoc, ih]
    simp only
    by_cases h : base + n = x
    · rw [if_pos h, if_pos (by omega), show x - base = n from by omega]
    · rw [if_neg h]
      by_cases h2 : base ≤ x ∧ x < base + n
      · rw [if_pos h2, if_pos (by omega)]
      · rw [if_neg h2, if_neg (by omega)]
theorem bsOf_wrs (d : Dm) (fr used : Nat) (ep : Int) (u : List Int) (n : Nat) : bsOf (wrs d (fr + used) (blk ep used u) n) fr = put (bsOf d fr) ep used u n := by
  funext k
  unfold bsOf put
  simp only [wrs]
  rw [last_wrs]
  by_cases h : used ≤ k ∧ k < used + n
  · rw [if_pos h, if_pos (by omega), Option.getD_some, show fr + k - (fr + used) = k - used from by omega]
  · rw [if_neg h, if_neg (by omega)]
theorem fit_wrs {d : Dm} (h : Fit d) (base used : Nat) (ep : Int) {u : List Int} (hb : Byte u) (n : Nat) : Fit (wrs d base (blk ep used u) n) := by
  intro x hx
  simp only [wrs, List.mem_append, List.mem_map, List.mem_range] at hx
  rcases hx with hx | ⟨i, _, rfl⟩
  · exact h x hx
  · exact ⟨blk_length ep used u i, blk_bytes ep used u i hb⟩
theorem ok_wrs {d : Dm} (h : d.ok) (base : Nat) (f : Nat → List Int) (n : Nat) (hf : d.fuse < 0 ∨ (n : Int) ≤ d.fuse) : (wrs d base f n).ok := by
  unfold Dm.ok wrs at *
  refine ⟨?_, ?_, h.2.2⟩
  · simp only
    split <;> omega
  · simp only
    split <;> omega
/-- A log and its disk that go together. -/
structure Snd (m : Lm) (d : Dm) : Prop where
  ar : Ar m.ep (bsOf d m.fr) m.count m.us m.used
  fit : Fit d
  ok : m.ok
  dok : d.ok
  area : m.fr + m.count ≤ d.nb
  bytes : ∀ u ∈ m.us, Byte u
  size : d.log.length ≤ 900000
/-- What Append answers of a log that goes on, on a disk that is up. -/
def apC (m : Lm) (u : List Int) : Int := if u.length = 0 then 1 else if 60000 < u.length then 4 else if m.count - m.used < nbl u then 6 else 0
theorem ap_stop {m : Lm} (hov : m.over = false) (d : Dm) {u : List Int} (hc : apC m u ≠ 0) : m.ap d u = (apC m u, d, m) := by
  unfold Lm.ap apC at *
  rw [if_neg (by rw [hov]; simp)]
  by_cases h0 : u.length = 0
  · rw [if_pos h0, if_pos h0]
  · rw [if_neg h0] at hc ⊢
    rw [if_neg h0]
    by_cases h6 : 60000 < u.length
    · rw [if_pos h6, if_pos h6]
    · rw [if_neg h6] at hc ⊢
      rw [if_neg h6]
      by_cases hr : m.count - m.used < nbl u
      · rw [if_pos hr, if_pos hr]
      · rw [if_neg hr] at hc
        exact absurd rfl hc
theorem apC_ok {m : Lm} {u : List Int} (hc : apC m u = 0) : u ≠ [] ∧ u.length ≤ 60000 ∧ nbl u ≤ m.count - m.used := by
  unfold apC at hc
  by_cases h0 : u.length = 0
  · rw [if_pos h0] at hc; omega
  · rw [if_neg h0] at hc
    by_cases h6 : 60000 < u.length
    · rw [if_pos h6] at hc; omega
    · rw [if_neg h6] at hc
      by_cases hr : m.count - m.used < nbl u
      · rw [if_pos hr] at hc; omega
      · exact ⟨fun h => h0 (by rw [h]; rfl), by omega, by omega⟩
theorem ap_go {m : Lm} (hov : m.over = false) (d : Dm) {u : List Int} (hc : apC m u = 0) : m.ap d u = if Dm.may d (nbl u) = nbl u then (0, wrs d (m.fr + m.used) (blk m.ep m.used u) (nbl u), { m with us := m.us ++ [u], used := m.used + nbl u })
    else (9, { wrs d (m.fr + m.used) (blk m.ep m.used u) (Dm.may d (nbl u)) with down := true }, { m with over := true }) := by
  obtain ⟨h1, h2, h3⟩ := apC_ok hc
  have h0 : u.length ≠ 0 := fun h => h1 (List.eq_nil_of_length_eq_zero h)
  unfold Lm.ap
  rw [if_neg (by rw [hov]; simp), if_neg h0, if_neg (by omega), if_neg (by omega)]
/-- The log behind an Append that was answered OK. -/
def Lm.add (m : Lm) (u : List Int) : Lm := { m with us := m.us ++ [u], used := m.used + nbl u }
theorem Snd.add {m : Lm} {d : Dm} {u : List Int} (h : Snd m d) (hc : apC m u = 0) (hb : Byte u) (hf : d.fuse < 0 ∨ (nbl u : Int) ≤ d.fuse) (hs : d.log.length + nbl u ≤ 900000) : Snd (m.add u) (wrs d (m.fr + m.used) (blk m.ep m.used u) (nbl u)) := by
  obtain ⟨h1, h2, h3⟩ := apC_ok hc
  have hle := h.ok.le
  have hn1 := nbl_pos h1
  have hlu : ∀ {us : List (List Int)} {k e : Nat} {ep : Int} {bs : Nat → List Int}, Laid ep bs k us e → us.length + k ≤ e := by
    intro us
    induction us with
    | nil => intro k e ep bs h; have : k = e := h; simp; omega
    | cons v t ih => intro k e ep bs h; have := ih h.2.2; have := nbl_pos h.1; simp only [List.length_cons]; omega
  have hcount := h.ok.area
  refine ⟨?_, fit_wrs h.fit _ _ _ hb _, ⟨?_, h.ok.area, h.ok.ep, ?_, ?_⟩, ok_wrs h.dok _ _ _ hf, h.area, ?_, ?_⟩
  · simp only [Lm.add]
    rw [bsOf_wrs]
    exact h.ar.whole h1 (by omega)
  · simp only [Lm.add]
    omega
  · simp only [Lm.add, List.length_append, List.length_singleton]
    have := hlu h.ar.laid
    omega
  · intro v hv
    simp only [Lm.add] at hv
    rcases List.mem_append.1 hv with hv | hv
    · exact h.ok.long v hv
    · obtain rfl := List.mem_singleton.1 hv
      omega
  · intro v hv
    simp only [Lm.add] at hv
    rcases List.mem_append.1 hv with hv | hv
    · exact h.bytes v hv
    · obtain rfl := List.mem_singleton.1 hv
      exact hb
  · simp only [wrs, List.length_append, List.length_map, List.length_range]
    exact hs
theorem ap_alive {m : Lm} {d : Dm} {u : List Int} (hov : m.over = false) (hd : d.down = false) (hf : d.fuse < 0) (hc : apC m u = 0) : m.ap d u = (0, wrs d (m.fr + m.used) (blk m.ep m.used u) (nbl u), m.add u) := by
  rw [ap_go hov d hc, if_pos]
  · rfl
  · unfold Dm.may
    rw [hd]
    simp only [Bool.false_eq_true, if_false]
    rw [if_neg (by omega)]
theorem opL_ar {d : Dm} {fr count used : Nat} {ep : Int} {us : List (List Int)} (hd : d.down = false) (hn : 1 ≤ count) (ha : fr + count ≤ d.nb) (h : Ar ep (bsOf d fr) count us used) : opL d fr count ep = (0, some ⟨fr, count, ep, us, used, false⟩) := by
  unfold opL
  have : areaB d.nb fr count = true := by
    unfold areaB
    exact decide_eq_true ⟨by omega, by omega, by omega, by omega⟩
  rw [this, if_neg (by simp), hd, if_neg (by simp), Int.toNat_natCast, Int.toNat_natCast, h.scan]
theorem bsOf_new (nb : Nat) (f : Int) (dn : Bool) (fr : Nat) : ∀ i, bsOf ⟨nb, [], f, dn⟩ fr i = List.replicate 256 0 := fun i => rfl
/-- A fresh log. -/
def Lm.new (fr count : Nat) (ep : Int) : Lm := ⟨fr, count, ep, [], 0, false⟩
theorem Snd.new {nb fr count : Nat} {ep : Int} (hnb : nb ≤ 65536) (ha : fr + count ≤ nb) (hep : 0 ≤ ep ∧ ep ≤ 18446744073709551615) : Snd (Lm.new fr count ep) ⟨nb, [], -1, false⟩ :=
  ⟨Ar.zero count hep fun i _ => bsOf_new nb (-1) false fr i, fun x hx => (by cases hx), ⟨Nat.zero_le _, by simp only [Lm.new]; omega, hep, by simp [Lm.new], fun x hx => (by cases hx)⟩, ⟨by simp, by simp, hnb⟩, ha, fun x hx => (by cases hx), by simp⟩
theorem opL_new {nb fr count : Nat} {ep : Int} (hn : 1 ≤ count) (ha : fr + count ≤ nb) (hep : 0 ≤ ep ∧ ep ≤ 18446744073709551615) : opL ⟨nb, [], -1, false⟩ fr count ep = (0, some (Lm.new fr count ep)) :=
  opL_ar rfl hn ha (Ar.zero count hep fun i _ => bsOf_new nb (-1) false fr i)
/-! ### the pair -/
/-- The log at q holds m, its disk at p holds d; both are the call's own. -/
structure Pl (w W : World) (F D : Nat → Prop) (q p : Nat) (m : Lm) (d : Dm) : Prop where
  lg : Lg W F q p m
  dk : Dk W D p d
  fd : ∀ k, F k → ¬ D k
  own : ∀ k, (F k ∨ D k) → w.heap.size ≤ k
  bel : Below w.heap.size w W
section
variable {w W W' : World} {F D : Nat → Prop} {q p : Nat} {m m' : Lm} {d d' : Dm}
theorem Pl.quiet (h : Pl w W F D q p m d) (hu : Upd No W W') : Pl w W' F D q p m d :=
  ⟨h.lg.upd hu fun _ _ => no_ _, h.dk.upd hu fun _ _ => no_ _, h.fd, h.own, h.bel.trans (hu.old h.bel.size)⟩
theorem Pl.moved (h : Pl w W F D q p m d) (ha : Ap W W' F D q p m' d') : ∃ F' D', Pl w W' F' D' q p m' d' ∧ ∀ k, (F' k ∨ D' k) → (F k ∨ D k) ∨ W.heap.size ≤ k := by
  obtain ⟨⟨F', D', h1, h2, h3, h4, h5⟩, hu⟩ := ha
  refine ⟨F', D', ⟨h1, h2, h5, fun k hk => ?_, h.bel.trans (hu.below h.bel.size h.own)⟩, fun k hk => ?_⟩
  · have := h.bel.size
    rcases hk with hk | hk
    · exact (h3 k hk).elim (fun h' => h.own k (.inl h')) fun h' => by omega
    · exact (h4 k hk).elim (fun h' => h.own k (.inr h')) fun h' => by omega
  · rcases hk with hk | hk
    · exact (h3 k hk).imp .inl id
    · exact (h4 k hk).imp .inr id
end
/-- A disk alone. -/
structure Pd (w W : World) (D : Nat → Prop) (p : Nat) (d : Dm) : Prop where
  dk : Dk W D p d
  own : ∀ k, D k → w.heap.size ≤ k
  bel : Below w.heap.size w W
theorem Pd.opened {w W W' : World} {D F : Nat → Prop} {q p : Nat} {m : Lm} {d : Dm} (h : Pd w W D p d) (hl : Lg W' F q p m) (hF : ∀ k, F k → W.heap.size ≤ k) (hu : Upd No W W') : Pl w W' F D q p m d :=
  ⟨hl, h.dk.upd hu fun _ _ => no_ _, fun k hk hd => by have := hF k hk; have := h.dk.lt k hd; omega, fun k hk => by
    have := h.bel.size
    rcases hk with hk | hk
    · have := hF k hk; omega
    · exact h.own k hk, h.bel.trans (hu.old h.bel.size)⟩
theorem Pl.disk {w W : World} {F D : Nat → Prop} {q p : Nat} {m : Lm} {d : Dm} (h : Pl w W F D q p m d) : Pd w W D p d := ⟨h.dk, fun k hk => h.own k (.inr hk), h.bel⟩
theorem new_disk (n : Nat) (w W : World) (hb : Below w.heap.size w W) (hn : n ≤ 65536) : Calls Try.prog 10 #[.int .i64 n] W fun e w' => ∃ p D, e = .returned (.pointer (some ⟨p, 0, none⟩)) ∧ Pd w w' D p ⟨n, [], -1, false⟩ := by
  have h := new_ n W
  rw [show (min (max (n : Int) 0) 65536).toNat = n from by omega] at h
  refine h.mono ?_
  rintro e w' ⟨p, D, rfl, h1, h2, h3⟩
  exact ⟨p, D, rfl, h1, fun k hk => Nat.le_trans hb.size (h3 k hk), hb.trans (h2.mono hb.size)⟩
theorem open_new {nb fr count : Nat} {ep : Int} {w W : World} {D : Nat → Prop} {p : Nat} (h : Pd w W D p ⟨nb, [], -1, false⟩) (hnb : nb ≤ 65536) (hn : 1 ≤ count) (ha : fr + count ≤ nb) (hep : 0 ≤ ep ∧ ep ≤ 18446744073709551615) :
    Calls Try.prog 9 #[.pointer (some ⟨p, 0, none⟩), .int .i64 fr, .int .i64 count, .int .u64 ep] W fun e w' => ∃ q F, e = .returned (.tuple #[.pointer (some ⟨q, 0, none⟩), .int .i64 0]) ∧ Pl w w' F D q p (Lm.new fr count ep) ⟨nb, [], -1, false⟩ := by
  have h1 := open_ p ⟨nb, [], -1, false⟩ D fr count ep W h.dk ⟨by simp, by simp, hnb⟩ (fun x hx => by cases hx) hep
  rw [opL_new hn ha hep] at h1
  refine h1.mono ?_
  rintro e w' ⟨q, F, rfl, hl, _, hF, hu⟩
  exact ⟨q, F, rfl, h.opened hl hF hu⟩
/-- Append, of a pair that goes together. -/
theorem append_pl {w W : World} {F D : Nat → Prop} {q p : Nat} {m : Lm} {d : Dm} (h : Pl w W F D q p m d) (hs : Snd m d) {A : Option Addr} {c : Nat} {u : List Int} (hr : Rn W .u8 A u) (hc : u.length ≤ c) (hcm : c ≤ 9223372036854775807)
    (hA : ∀ ad, A = some ad → ¬ D ad.block ∧ ¬ F ad.block) (hby : Byte u) :
    Calls Try.prog 11 #[.pointer (some ⟨q, 0, none⟩), .slice A u.length c] W fun e w' => e = .returned (.int .i64 (m.ap d u).1) ∧ ∃ F' D', Pl w w' F' D' q p (m.ap d u).2.2 (m.ap d u).2.1 ∧ Upd (fun k => F k ∨ D k) W w' ∧ ∀ k, (F' k ∨ D' k) → (F k ∨ D k) ∨ W.heap.size ≤ k :=
  (append q p m d F D A c u W h.lg h.dk hs.ok hs.dok h.fd hr hc hcm hA hby hs.area hs.size).mono fun e w' h2 => by
    obtain ⟨F', D', h3, h4⟩ := h.moved h2.2
    exact ⟨h2.1, F', D', h3, h2.2.upd, h4⟩
set_option maxHeartbeats 400000 in
theorem unitBlocks (n : Nat) (w : World) (hn : n ≤ 1000000000) : Calls Try.prog 13 #[.int .i64 n] w fun e w' => e = .returned (.int .i64 ((n + 232) / 233 : Nat)) ∧ w = w' := by
  have HE := hid (show ((n : Int) + 232) / 233 = (((n + 232) / 233 : Nat) : Int) by omega)
  go_enter Try.func13, Try.ntmps13
  go_wp2
  go_ret
  exact ⟨congrArg (fun z => Ending.returned (.int .i64 z)) HE.out, rfl⟩
set_option maxHeartbeats 2000000 in
set_option maxRecDepth 100000 in
theorem awake (w : World) : Calls Try.prog 8 #[] w fun e w' => e = .returned (.bool true) ∧ Below w.heap.size w w' := by
  have kc := fun (w : World) (C : Array Value) (n c : Nat) => Lib.run_convert_bytes_const (P := Try.prog) w 31 5 C n c Try.underlying31 Try.underlying5
  have hac : apC (Lm.new 1 3 1) [97] = 0 := by decide
  have hbc := ap_alive (m := Lm.new 1 3 1) (d := ⟨4, [], -1, false⟩) (u := [97]) rfl rfl (by decide) hac
  have HAp := hid hbc
  have HS0 := hid (Snd.new (nb := 4) (fr := 1) (count := 3) (ep := 1) (by omega) (by omega) (by omega))
  have HS1 := hid (HS0.out.add (u := [97]) hac (fun c hc => by obtain rfl := List.mem_singleton.1 hc; omega) (.inl (by decide)) (by decide))
  clear hac hbc
  have HND := hid (new_disk 4 w w (Below.refl _ _) (by omega))
  go_enter Try.func8, Try.ntmps8
  go_wp2_with (fail)
  refine HND.out.mono ?_
  rintro e w1 ⟨p, D, rfl, hd1⟩
  have HO := hid (open_new (fr := 1) (count := 3) (ep := 1) hd1 (by omega) (by omega) (by omega) (by omega))
  clear hd1 HND
  go_wp2_with (fail)
  refine HO.out.mono ?_
  rintro e w2 ⟨q, F, rfl, hp2⟩
  have HP2 := hid hp2
  clear hp2 HO
  have hb97 : Byte [97] := fun c hc => by obtain rfl := List.mem_singleton.1 hc; omega
  have hA := append_pl (HP2.out.quiet ((Upd.refl No w2).alloc (.cells (nums .u8 [97]).toArray 5 (1, 2)))) HS0.out (A := some ⟨w2.heap.size, 0, none⟩) (c := 1) (Rn.litm w2 .u8 5 (1, 2) [97]) (by simp) (by omega) (fun ad e => by
    injection e with e
    subst e
    exact ⟨fun h => by have := HP2.out.dk.lt _ h; simp at this, fun h => by have := HP2.out.lg.lt _ h; simp at this⟩) hb97
  rw [HAp.out] at hA
  have hu1 : ((Lm.new 1 3 1).add [97]).us = [[97]] := rfl
  have hr1 : ((Lm.new 1 3 1).add [97]).count - ((Lm.new 1 3 1).add [97]).used = 2 := by decide
  have HA := hid hA
  have HU := hid (And.intro hu1 hr1)
  generalize (Lm.new 1 3 1).add [97] = m1 at *
  clear hA hb97 hu1 hr1
  go_wp2_with (fail)
  refine HA.out.mono ?_
  rintro e w3 ⟨rfl, F3, D3, hp3, _⟩
  have HP3 := hid hp3
  have hUn := units q p m1 F3 w3 hp3.lg HS1.out.ok
  unfold UnOut at hUn
  rw [HU.out.1] at hUn
  have HUn := hid hUn
  clear hp3 hUn HA
  go_wp2_with (fail)
  refine HUn.out.mono ?_
  rintro e w4 ⟨A4, c4, rfl, _, hu4⟩
  have HP4 := hid (HP3.out.quiet hu4)
  have hRm := room q p m1 F3 w4 HP4.out.lg HS1.out.ok
  rw [HU.out.2] at hRm
  have HRm := hid hRm
  clear hu4 hRm HUn
  go_wp2_with (fail)
  refine HRm.out.mono ?_
  rintro e w5 ⟨rfl, hu5⟩
  have HB := hid (HP4.out.quiet hu5).bel
  clear hu5
  go_wp2
  go_ret
  exact ⟨rfl, HB.out⟩
end Go.Proofs.Ytheopehhpoikdaa.Gl
