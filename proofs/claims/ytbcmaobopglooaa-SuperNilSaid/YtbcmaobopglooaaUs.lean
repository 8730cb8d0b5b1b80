/-
  The walk of super.Save; the pair of a record and its disk.
-/
import Derived.Test.YtbcmaobopglooaaUv
set_option linter.unusedVariables false
set_option linter.unusedSimpArgs false
namespace Go.Proofs.Ytbcmaobopglooaa.Up
open Go.RowKit Go.Proofs.Ytbcmaobopglooaa.B Go.Proofs.Ytbcmaobopglooaa.Cm Go.Proofs.Ytbcmaobopglooaa.Sm Go.Proofs.Ytbcmaobopglooaa.Dk
/-- What Save answers, and what is there behind it. -/
def Su.sv (m : Su) (d : Dm) (l : List Int) : Int × Dm × Su :=
  if 200 < l.length then (4, d, m) else if m.over = true then (9, d, m)
  else if (d.wr ((m.gen + 1) % 2) (sb (m.gen + 1) l)).1 = 0 then (0, (d.wr ((m.gen + 1) % 2) (sb (m.gen + 1) l)).2, { m with gen := m.gen + 1, pay := l })
  else (9, (d.wr ((m.gen + 1) % 2) (sb (m.gen + 1) l)).2, { m with over := true })
/-- What a call on a record and its disk does to memory. -/
def Ap (w w' : World) (F D : Nat → Prop) (q p : Nat) (m : Su) (d : Dm) : Prop :=
  (∃ F' D', Sp w' F' q p m ∧ Dk w' D' p d ∧ (∀ k, F' k → F k ∨ w.heap.size ≤ k) ∧ (∀ k, D' k → D k ∨ w.heap.size ≤ k) ∧ ∀ k, F' k → ¬ D' k) ∧ Upd (fun k => F k ∨ D k) w w'
set_option maxHeartbeats 400000 in
theorem save_nil (v : Value) (w : World) : Calls Try.prog 10 #[.pointer none, v] w fun e w' => e = .returned (.int .i64 1) ∧ w = w' := by
  go_enter Try.func10, Try.ntmps10
  go_wp2
  go_ret
  exact ⟨rfl, rfl⟩
set_option maxHeartbeats 400000 in
theorem save_long (q : Nat) (A : Option Addr) (n c : Nat) (w : World) (hl : 200 < n) : Calls Try.prog 10 #[.pointer (some ⟨q, 0, none⟩), .slice A n c] w fun e w' => e = .returned (.int .i64 4) ∧ w = w' := by
  have hl' : (200 : Int) < (n : Int) := by omega
  go_enter Try.func10, Try.ntmps10
  go_wp2
  go_ret
  exact ⟨rfl, rfl⟩
set_option maxHeartbeats 400000 in
theorem save_over (q p : Nat) (F : Nat → Prop) (m : Su) (A : Option Addr) (n c : Nat) (w : World) (h : Sp w F q p m) (ho : m.over = true) (hl : n ≤ 200) : Calls Try.prog 10 #[.pointer (some ⟨q, 0, none⟩), .slice A n c] w fun e w' => e = .returned (.int .i64 9) ∧ w = w' := by
  have hl' : ¬ (200 : Int) < (n : Int) := by omega
  obtain ⟨A', c', h1, h2, h3, h4, h5, h6⟩ := h
  rw [ho] at h1
  have hc3 := h1.cell 3
  simp at hc3
  go_enter Try.func10, Try.ntmps10
  go_wp2
  go_ret
  exact ⟨rfl, rfl⟩
/-- Behind a store to the generation. -/
theorem Sp.num {w : World} {F : Nat → Prop} {q p : Nat} {m : Su} (h : Sp w F q p m) (g : Int) : Sp (w.setCell ⟨q, 1, none⟩ (.int .u64 g)) F q p { m with gen := g } := by
  obtain ⟨A, c, h1, h2, h3, h4, h5, h6⟩ := h
  have hu : Upd (fun k => k = q) w (w.setCell ⟨q, 1, none⟩ (.int .u64 g)) := (Upd.refl _ _).set1 _ _
  exact ⟨A, c, by simpa using h1.put 1 (.int .u64 g), rd0 h2 (by omega) hu fun h0 ad e => (h4 h0 ad e).2, h3, h4, h5, fun k hk => Nat.lt_of_lt_of_le (h6 k hk) hu.size⟩
theorem Sp.cells {w : World} {F : Nat → Prop} {q p : Nat} {m : Su} (h : Sp w F q p m) : ∃ A c, w.cell? ⟨q, 0, none⟩ = some (.pointer (some ⟨p, 0, none⟩)) ∧ w.cell? ⟨q, 1, none⟩ = some (.int .u64 m.gen) ∧ w.cell? ⟨q, 2, none⟩ = some (.slice A m.pay.length c) ∧ w.cell? ⟨q, 3, none⟩ = some (.bool m.over) ∧ ∀ i, w.frozen? ⟨q, i, none⟩ = false := by
  obtain ⟨A, c, h1, h2, h3, h4, h5, h6⟩ := h
  have e0 := h1.cell 0
  have e1 := h1.cell 1
  have e2 := h1.cell 2
  have e3 := h1.cell 3
  simp at e0 e1 e2 e3
  exact ⟨A, c, e0, e1, e2, e3, fun i => h1.free i⟩
set_option maxHeartbeats 4000000 in
set_option maxRecDepth 100000 in
theorem save_go (q p : Nat) (m : Su) (d : Dm) (F D : Nat → Prop) (A : Option Addr) (c : Nat) (l : List Int) (w : World) (hs : Sp w F q p m) (hd : Dk w D p d) (hfd : ∀ k, F k → ¬ D k) (hr : Rn w .u8 A l) (hc : l.length ≤ c ∧ c ≤ 9223372036854775807)
    (hA : 0 < l.length → ∀ ad, A = some ad → ¬ D ad.block ∧ ¬ F ad.block) (hb : Byte l) (hok : m.ok) (hg : m.gen ≤ 1000000) (hdk : d.ok) (hlen : d.log.length ≤ 1000000) (hov : m.over = false) (hl : l.length ≤ 200) :
    Calls Try.prog 10 #[.pointer (some ⟨q, 0, none⟩), .slice A l.length c] w fun e w' => e = .returned (.int .i64 (m.sv d l).1) ∧ Ap w w' F D q p (m.sv d l).2.2 (m.sv d l).2.1 := by
  have hSv : m.sv d l = if (d.wr ((m.gen + 1) % 2) (sb (m.gen + 1) l)).1 = 0 then (0, (d.wr ((m.gen + 1) % 2) (sb (m.gen + 1) l)).2, { m with gen := m.gen + 1, pay := l })
      else (9, (d.wr ((m.gen + 1) % 2) (sb (m.gen + 1) l)).2, { m with over := true }) := by
    unfold Su.sv
    rw [if_neg (by omega), if_neg (by rw [hov]; simp)]
  obtain ⟨g1, hg1⟩ : ∃ g1, g1 = m.gen + 1 := ⟨_, rfl⟩
  rw [← hg1] at hSv
  have hg0 := hok.1.1
  have hg1r : 1 ≤ g1 ∧ g1 ≤ 1000001 := by omega
  have hwf : IntKind.u64.wrap (m.gen + 1) = g1 := by rw [IntKind.wrap_u64]; omega
  have HNl := num_length g1
  have hbl : ∀ x ∈ num g1 ++ l, 0 ≤ x ∧ x ≤ 255 := fun x hx => by
    rcases List.mem_append.1 hx with hx | hx
    · exact Cp.num_byte g1 (by omega) x hx
    · exact hb x hx
  have HSv := hid hSv
  have HSp := hid hs
  have HDk := hid hd
  have HFd := hid hfd
  have HRn := hid hr
  have HA := hid hA
  have HOk := hid hok
  have HDo := hid hdk
  have HBl := hid hbl
  have HG1 := hid hg1
  obtain ⟨Av, cv, e0, e1, e2, e3, ef⟩ := hs.cells
  rw [hov] at e3
  have hl' : ¬ (200 : Int) < (l.length : Int) := by omega
  have hat : g1 % 2 = 0 ∨ g1 % 2 = 1 := by omega
  clear hs hd hfd hr hA hb hok hdk hbl hSv e2 hg1
  have HW1 : Hid (∃ w1 r, w1 = w.alloc (.cells #[.slice none 0 0] 68) ∧ r = w.heap.size ∧ Cw.Wr w1 (fun k => k = r) r [] ∧ Upd No w w1) := hid ⟨_, _, rfl, rfl, Cw.Wr.new w, (Upd.refl _ _).alloc _⟩
  go_enter Try.func10, Try.ntmps10
  go_wp2_with (fail)
  refine (Cw.newWriter w).mono ?_
  rintro e wx ⟨rfl, rfl⟩
  obtain ⟨w1, r, hw1, hr1, hwr, hu1⟩ := HW1.out
  rw [← hw1, ← hr1]
  have HU1 := hid hu1
  have HRw := hid hr1
  have HNm := hid (Cw.number r [] g1 (fun k => k = r) w1 hwr (by omega) (by omega) (by simp))
  obtain ⟨_, _, k0, k1, _, k3, kf⟩ := (HSp.out.quiet hu1).cells
  rw [hov] at k3
  clear hw1 hr1 hwr hu1 HW1 e0 e1 e3 ef
  go_wp2_with (fail)
  try rw [hwf]
  refine HNm.out.mono ?_
  rintro e w2 ⟨rfl, F2, hw2, hm2⟩
  rw [List.nil_append] at hw2
  have HU2 : Hid (Upd No w w2 ∧ w.heap.size ≤ w2.heap.size) := hid ⟨HU1.out.trans hm2.upd (fun i hi e => by have := HRw.out; omega), Nat.le_trans HU1.out.size hm2.upd.size⟩
  have HBy := hid (Cw.bytes_ r (num g1) F2 w2 hw2 (by omega))
  obtain ⟨_, _, m0, m1, _, m3, mf⟩ := (HSp.out.quiet HU2.out.1).cells
  rw [hov] at m3
  clear k0 k1 k3 kf hw2 hm2 HNm HU1
  go_wp2_with (fail)
  refine HBy.out.mono ?_
  rintro e w3 ⟨v3, rfl, ho3, hb3⟩
  have HU3 : Hid (Upd No w w3 ∧ w2.heap.size ≤ w3.heap.size) := hid ⟨HU2.out.1.next (Upd.of_below No hb3), hb3.size⟩
  obtain ⟨A3, c3, rfl, hc31, hc32⟩ := own_shape ho3
  have HR3 := hid (Rd.upd HRn.out (by omega) HU3.out.1 fun _ _ => no_ _)
  obtain ⟨bs, hbs, hbsl, hbse⟩ : ∃ bs, Hid (bs = num g1 ++ l) ∧ bs.length = (num g1).length + l.length ∧ nums .u8 bs = nums .u8 (num g1) ++ nums .u8 l := ⟨_, hid rfl, List.length_append .., nums_append ..⟩
  have HBe := hid hbse
  have HBs := hid (show Byte bs by rw [hbs.out]; exact HBl.out)
  have hw32 : IntKind.u32.wrap (g1 % 2) = g1 % 2 := by rw [IntKind.wrap_u32]; omega
  have HSb : Hid (sealed 83 (g1 % 2) bs = sb g1 l) := hid (by rw [hbs.out]; rfl)
  clear HBy hb3 m1 m3 hbse
  generalize g1 % 2 = i0 at *
  go_wp2_with (at_builtin; go_must (refine ap_row w2.heap.size rfl (.tmp 40) (.tmp 41) 22 5 (.int .u8 0) 1 1 rfl Try.underlying22 Sw.u8_info rfl (by omega) (.slice A3 (num g1).length c3) (num g1).length (nums .u8 (num g1)) A l.length c (nums .u8 l) rfl rfl ho3 HR3.out (nums_one _ _) (by omega) (by omega) (by have := HU3.out.2; omega) ?_); intro A4 c4 w4 ho4 hg4 hat4)
  rw [← hbsl, ← HBe.out] at ho4
  have hu4 : Upd (fun k => w2.heap.size ≤ k) w w4 := by
    have h1 : Upd (fun k => w2.heap.size ≤ k) w3 w4 := (Upd.refl _ _).grown hg4 fun k hk => .inl (ho3.lt k hk).1
    exact (HU3.out.1.mono fun _ _ h => h.elim).trans h1 fun _ _ h => h
  have HU4 : Hid (Upd No w w4 ∧ w2.heap.size ≤ w4.heap.size) := hid ⟨hu4.mono fun i hi h => by have := HU2.out.2; omega, by have := HU3.out.2; have := hg4.size; omega⟩
  have HSl := hid (Sw.seal_ A4 c4 bs 83 i0 w4 (Rn_of_own (own_base ho4 (Nat.le_refl _))) (by omega) HBs.out (by omega) (by omega))
  rw [hbsl] at HSl
  clear ho4 hg4 hat4 hu4 ho3 hc31 hc32 HR3
  go_wp2_with (fail)
  refine HSl.out.mono ?_
  rintro e w5 ⟨g, rfl, hn5, hg5, hu5⟩
  have HU5 : Hid (Upd No w w5 ∧ w4.heap.size ≤ w5.heap.size) := hid ⟨HU4.out.1.next hu5, hu5.size⟩
  rw [HSb.out] at hn5
  have hbl2 : (sb g1 l).length = 256 := by
    rw [← HSb.out]
    exact sealed_length 83 i0 bs (by omega)
  have hw := write p d D (some ⟨g, 0, none⟩) 256 (sb g1 l) i0 w5 (HDk.out.upd HU5.out.1 fun _ _ => no_ _) hn5.rn (fun ad e hk => by
    injection e with e
    subst e
    have h1 := HDk.out.lt _ hk
    have h2 := HU2.out.2
    have h4 := HU4.out.2
    simp only at h1
    omega) HDo.out hlen
  rw [hbl2] at hw
  have HWr := hid hw
  obtain ⟨_, _, k0, _, _, _, _⟩ := (HSp.out.quiet HU5.out.1).cells
  obtain ⟨cd, d', hwr⟩ : ∃ cd d', d.wr i0 (sb g1 l) = (cd, d') := ⟨_, _, rfl⟩
  rw [hwr] at HWr HSv
  simp only at HWr HSv
  clear hw hwr hbl2 hn5 hg5 hu5 HSb HSl
  go_wp2_with (fail)
  refine HWr.out.mono ?_
  rintro e w6 ⟨rfl, D6, hd6, hm6⟩
  have HD6 := hid (And.intro hd6 (And.intro hm6.upd hm6.sub))
  have HU6 : Hid (Upd D w w6) := hid ((HU5.out.1.mono fun _ _ h => h.elim).trans hm6.upd fun i hi h => h)
  have HS6 := hid (HSp.out.upd HU6.out HFd.out)
  have HW6 : Hid (w.heap.size ≤ w5.heap.size ∧ w5.heap.size ≤ w6.heap.size) := hid ⟨HU5.out.1.size, hm6.upd.size⟩
  have HFD : Hid (∀ k, F k → ¬ D6 k) := hid fun k hk h => by
    rcases hm6.sub k h with h | h
    · exact HFd.out k hk h
    · have h1 := HSp.out.lt k hk
      have h2 := HW6.out.1
      omega
  obtain ⟨_, _, _, n1, n2, n3, nf⟩ := HS6.out.cells
  clear hd6 hm6 HWr k0
  by_cases hcd : cd = 0
  · subst hcd
    rw [if_pos rfl] at HSv
    have HR6 : Hid (∀ W, Upd (fun k => k = q) w6 W → Rn W .u8 A l) := hid fun W hu => rd0 (rd0 HRn.out (by omega) HU6.out fun h0 ad e => (HA.out h0 ad e).1) (by omega) hu fun h0 ad e h => (HA.out h0 ad e).2 (h ▸ HSp.out.here)
    have HW7 : Hid (∃ w7, w7 = w6.setCell ⟨q, 1, none⟩ (.int .u64 g1) ∧ Sp w7 F q p { m with gen := g1 } ∧ Upd (fun k => k = q) w6 w7) := hid ⟨_, rfl, HS6.out.num g1, (Upd.refl _ _).set1 _ _⟩
    go_wp2_with (fail)
    try rw [hwf]
    obtain ⟨w7, hw7, hs7, hu7⟩ := HW7.out
    rw [← hw7]
    have HS7 := hid hs7
    have HU7 := hid hu7
    have HCl := hid (clone A l.length c (nums .u8 l) w7 (HR6.out w7 hu7) (nums_one .u8 _) (by omega))
    clear hw7 hs7 hu7 HW7 n1 n2 n3 nf HR6
    go_wp2_with (fail)
    refine HCl.out.mono ?_
    rintro e w8 ⟨A8, c8, rfl, ho8, hu8, _⟩
    have hs8 := HS7.out.quiet hu8
    obtain ⟨_, _, _, _, n2, _, nf⟩ := hs8.cells
    simp only at n2
    obtain ⟨_, _, hsv, hc81, hc82⟩ := own_shape ho8
    simp only [Value.slice.injEq, true_and] at hsv
    obtain ⟨rfl, rfl⟩ := hsv
    simp only [maxLen] at hc82
    have hu9 : Upd (fun k => k = q) w8 (w8.setCell ⟨q, 2, none⟩ (.slice A8 l.length c8)) := (Upd.refl _ _).set1 _ _
    have hA8 : ∀ ad, A8 = some ad → w7.heap.size ≤ ad.block ∧ ad.block < w8.heap.size := fun ad e => ho8.lt ad.block (by simp [Value.ownBlock, e])
    have hl9 := hs8.laid (A' := A8) (c' := c8) (l := l) (g := g1) hu9 (fun A c hb => by simpa using hb.put 2 (.slice A8 l.length c8)) (Rd.of_own ho8) ⟨hc81, by omega⟩ (fun _ ad e => ⟨by
      have h1 := hA8 ad e
      have h2 := HS7.out.lt q HS7.out.here
      omega, (hA8 ad e).2⟩)
    have hD8 : Dk (w8.setCell ⟨q, 2, none⟩ (.slice A8 l.length c8)) D6 p d' := ((HD6.out.1.upd HU7.out fun k hk e => HFD.out q HSp.out.here (e ▸ hk)).upd hu8 fun _ _ => no_ _).upd hu9 fun k hk e => HFD.out q HSp.out.here (e ▸ hk)
    have hz : w6.heap.size ≤ w7.heap.size := HU7.out.size
    have HE : Hid (Ap w (w8.setCell ⟨q, 2, none⟩ (.slice A8 l.length c8)) F D q p { m with gen := g1, pay := l } d') := hid ⟨⟨_, D6, hl9, hD8, fun k hk => by
        rcases hk with hk | ⟨_, ad, e, rfl⟩
        · exact .inl hk
        · have h1 := hA8 ad e
          have h2 := HW6.out
          exact .inr (by omega), fun k hk => (HD6.out.2.2 k hk).imp id fun h => by have := HW6.out.1; omega, fun k hk h => by
        rcases hk with hk | ⟨_, ad, e, rfl⟩
        · exact HFD.out k hk h
        · have h1 := hA8 ad e
          have h2 := HD6.out.1.lt _ h
          omega⟩, (((HU6.out.mono fun _ _ h => .inr h).trans HU7.out fun i hi e => .inl (e ▸ HSp.out.here)).trans hu8 fun i hi h => h.elim).trans hu9 fun i hi e => .inl (e ▸ HSp.out.here)⟩
    clear ho8 hu8 hs8 hu9 hA8 hl9 hD8
    go_wp2
    go_ret
    rw [HSv.out]
    exact ⟨rfl, HE.out⟩
  · rw [if_neg hcd] at HSv
    have hcd' : (cd == 0) = false := by simpa using hcd
    have hu9 : Upd (fun k => k = q) w6 (w6.setCell ⟨q, 3, none⟩ (.bool true)) := (Upd.refl _ _).set1 _ _
    have HE : Hid (Ap w (w6.setCell ⟨q, 3, none⟩ (.bool true)) F D q p { m with over := true } d') := hid ⟨⟨F, D6, HS6.out.flag true, HD6.out.1.upd hu9 fun k hk e => HFD.out q HSp.out.here (e ▸ hk), fun k hk => .inl hk, fun k hk => (HD6.out.2.2 k hk).imp id fun h => by have := HW6.out.1; omega, HFD.out⟩, (HU6.out.mono fun _ _ h => .inr h).trans hu9 fun i hi e => .inl (e ▸ HSp.out.here)⟩
    clear hu9
    go_wp2
    go_ret
    rw [HSv.out]
    exact ⟨rfl, HE.out⟩
/-- Save. -/
theorem save (q p : Nat) (m : Su) (d : Dm) (F D : Nat → Prop) (A : Option Addr) (c : Nat) (l : List Int) (w : World) (hs : Sp w F q p m) (hd : Dk w D p d) (hfd : ∀ k, F k → ¬ D k) (hr : Rn w .u8 A l) (hc : l.length ≤ c ∧ c ≤ 9223372036854775807)
    (hA : 0 < l.length → ∀ ad, A = some ad → ¬ D ad.block ∧ ¬ F ad.block) (hb : Byte l) (hok : m.ok) (hg : m.gen ≤ 1000000) (hdk : d.ok) (hlen : d.log.length ≤ 1000000) :
    Calls Try.prog 10 #[.pointer (some ⟨q, 0, none⟩), .slice A l.length c] w fun e w' => e = .returned (.int .i64 (m.sv d l).1) ∧ Ap w w' F D q p (m.sv d l).2.2 (m.sv d l).2.1 := by
  have hsame : Ap w w F D q p m d := ⟨⟨F, D, hs, hd, fun k h => .inl h, fun k h => .inl h, hfd⟩, Upd.refl _ _⟩
  by_cases hl : 200 < l.length
  · have e : m.sv d l = (4, d, m) := by unfold Su.sv; rw [if_pos hl]
    rw [e]
    refine (save_long q A l.length c w hl).mono ?_
    rintro e w' ⟨rfl, rfl⟩
    exact ⟨rfl, hsame⟩
  · cases ho : m.over with
    | true =>
      have e : m.sv d l = (9, d, m) := by unfold Su.sv; rw [if_neg hl, if_pos ho]
      rw [e]
      refine (save_over q p F m A l.length c w hs ho (by omega)).mono ?_
      rintro e w' ⟨rfl, rfl⟩
      exact ⟨rfl, hsame⟩
    | false => exact save_go q p m d F D A c l w hs hd hfd hr hc hA hb hok hg hdk hlen ho (by omega)
end Go.Proofs.Ytbcmaobopglooaa.Up
