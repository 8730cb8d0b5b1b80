/-
  reevelaw07's unit and same; lists of calls as an argument.
-/
import Derived.Test.YtheopehhpoikdaaGw
import Derived.Test.YtheopehhpoikdaaOq
set_option linter.unusedVariables false
set_option linter.unusedSimpArgs false
namespace Go.Proofs.Ytheopehhpoikdaa.Gl
open Go.ChangeShapes Go.WideShapes Go.ChangeAt Go.RowKit Go.Proofs.Ytheopehhpoikdaa Go.Proofs.Ytheopehhpoikdaa.B Go.Proofs.Ytheopehhpoikdaa.Cm Go.Proofs.Ytheopehhpoikdaa.Sm Go.Proofs.Ytheopehhpoikdaa.Dk Go.Proofs.Ytheopehhpoikdaa.Gp Go.Proofs.Ytheopehhpoikdaa.Op
/-- A call: its kind, its number, its bytes and the slice that holds them. -/
abbrev Oi := (Int × Int) × List Int × Value
def ocells (o : Oi) : List Value := [.int .i64 o.1.1, .int .i64 o.1.2, o.2.2]
/-- Its slice reads as its bytes. -/
def Orow (w : World) (o : Oi) : Prop := ∃ A c, o.2.2 = .slice A o.2.1.length c ∧ Rn w .u8 A o.2.1 ∧ o.2.1.length ≤ c ∧ c ≤ 140737488351232
theorem Orow.upd {F : Nat → Prop} {w w' : World} {o : Oi} (h : Orow w o) (hu : Upd No w w') : Orow w' o := by
  obtain ⟨A, c, h1, h2, h3⟩ := h
  exact ⟨A, c, h1, Rd.upd h2 (by omega) hu fun _ _ => no_ _, h3⟩
theorem open_ops {H : Type} {enc : TypeId × Value → H} {W : World} {base : Nat} {v : Value} {d : DataW H} {p : List MemPlace} {ts : List TypeId} {ds : List (DataW H)}
    (hv : Value.okWide Try.prog W .any base 35 v) (h : DataW.Trod enc Try.prog W 0 (fun _ => true) true 35 v d p)
    (hsz : (DataW.weightsEach Try.prog ts ds).all (· ≤ reachBytes) = true) {j : Nat} (htj : ts[j]? = some 35) (hdj : ds[j]? = some d) :
    ∃ (xs : List Oi) (A : Option Addr) (c : Nat), v = .slice A xs.length c ∧ Rd W 3 A xs.length (xs.flatMap ocells) ∧ (xs.length ≤ c ∧ c ≤ maxLen) ∧ ∀ x ∈ xs, Orow W x ∧ Byte x.2.1 ∧ -9223372036854775808 ≤ x.1.2 ∧ x.1.2 ≤ 9223372036854775807 := by
  obtain ⟨xs, A, c, h1, h2, h3, h4, h5, h6, h7, h8⟩ := open_rows (α := Oi) 3 ocells (fun x y => ∃ Al cl, x.2.2 = .slice Al x.2.1.length cl ∧ Rn W .u8 Al x.2.1 ∧ x.2.1.length ≤ cl ∧ (Byte x.2.1 ∧ -9223372036854775808 ≤ x.1.2 ∧ x.1.2 ≤ 9223372036854775807) ∧ ((∀ n ∈ y.weights Try.prog 38, n ≤ 140737488351232) → cl ≤ 140737488351232)) Try.underlying35 (by kernel_rfl) (by omega)
    (fun n cs x hx hl => by
      obtain ⟨ys, k, hk, hxy, _, hxl, hf⟩ := DataW.trod_struct Try.underlying38 hx
      match ys, hxl, cs, hl with
      | [y0, y1, y2], _, [v0, v1, v2], _ =>
        have g0 := hf 0 _ rfl
        have g1 := hf 1 _ rfl
        have g2 := hf 2 _ rfl
        have e0 : Try.prog.cellsOf 3 = 1 := by kernel_rfl
        have e1 : Try.prog.cellsOf 31 = 1 := by kernel_rfl
        simp [e0, e1] at g0 g1 g2
        obtain ⟨x0, z0, _, _⟩ := DataW.trod_int Try.underlying3 g0
        obtain ⟨x1, z1, _, w1⟩ := DataW.trod_int Try.underlying3 g1
        obtain ⟨l, Al, cl, z2, r1, r2, r3, r4, r5⟩ := read_nums Try.underlying31 Try.underlying5 (by kernel_rfl) g2
        simp only [List.cons.injEq, and_true] at z0 z1 z2
        subst z0 z1 z2
        have hw1 := Law.wf_i64 w1
        refine ⟨((x0, x1), l, .slice Al l.length cl), rfl, Al, cl, rfl, r1, r2, ⟨fun z hz => by
          have := Law.wf_u8 (r4 z hz)
          omega, hw1.1, hw1.2⟩, fun hw => ?_⟩
        rcases r5 with ⟨_, rfl⟩ | ⟨es, sp, hd, hl2⟩
        · omega
        · have hxa : x.1 = .agg [y0.1, y1.1, y2.1] := by simpa using congrArg Prod.fst hxy
          have hm := slice_mem (P := Try.prog) (es := es) (sp := sp) Try.underlying31
          rw [← hd] at hm
          have hm2 := field_mem (parts := [y0.1, y1.1, y2.1]) Try.underlying38 (k := 2) rfl rfl _ hm
          rw [← hxa] at hm2
          have h9 := hw _ hm2
          rw [hl2, show Try.prog.bytesOf 5 = 1 from by kernel_rfl] at h9
          omega) hv h
  refine ⟨xs, A, c, h1, h2, ⟨h4, h5⟩, fun x hx => ?_⟩
  obtain ⟨i, hi, rfl⟩ := List.getElem_of_mem hx
  rcases h6 with ⟨_, h6⟩ | ⟨es, sp, hd, _⟩
  · subst h6
    cases hx
  · obtain ⟨y, hy, Al, cl, q1, q2, q3, q4, q5⟩ := h8 es sp hd i hi
    exact ⟨⟨Al, cl, q1, q2, q3, q5 (inner_le hsz htj hdj Try.underlying35 hd (List.mem_of_getElem? hy))⟩, q4⟩
theorem add_fld (ad : Addr) (m k : Nat) (hk : 0 < k) : ad.add (m + k) = ⟨(ad.add m).block, (ad.add m).off + k, none⟩ := by
  unfold Addr.add
  by_cases hm : m = 0
  · subst hm; simp; omega
  · simp [hm]; omega
/-- The cells of a call. -/
theorem op_at {W : World} {A : Option Addr} {xs : List Oi} (h : Rd W 3 A xs.length (xs.flatMap ocells)) {i : Nat} (hi : i < xs.length) :
    ∃ ad, A = some ad ∧ W.cell? (ad.add (i * 3)) = some (.int .i64 xs[i].1.1) ∧ W.cell? ⟨(ad.add (i * 3)).block, (ad.add (i * 3)).off + 1, none⟩ = some (.int .i64 xs[i].1.2) ∧ W.cell? ⟨(ad.add (i * 3)).block, (ad.add (i * 3)).off + 2, none⟩ = some xs[i].2.2 := by
  obtain ⟨ad, e, hc⟩ := row_at h (fun _ _ => rfl) rfl hi
  have h0 := hc 0 (by omega)
  have h1 := hc 1 (by omega)
  have h2 := hc 2 (by omega)
  rw [add_fld ad (i * 3) 1 (by omega)] at h1
  rw [add_fld ad (i * 3) 2 (by omega)] at h2
  exact ⟨ad, e, h0, h1, h2⟩
/-- What unit makes: B, n times over, as long as it stays below 4001 bytes. -/
def unitN (b : List Int) : Nat → List Int
  | 0 => []
  | n + 1 => if (unitN b n).length + b.length ≤ 4000 then unitN b n ++ b else unitN b n
def unitL (n : Int) (b : List Int) : List Int := unitN b (min (max n 0) 40).toNat
theorem unitN_le (b : List Int) (n : Nat) : (unitN b n).length ≤ 4000 := by
  induction n with
  | zero => simp [unitN]
  | succ n ih =>
    rw [unitN]
    split
    · rw [List.length_append]; omega
    · exact ih
theorem unitN_byte {b : List Int} (h : Byte b) (n : Nat) : Byte (unitN b n) := by
  induction n with
  | zero => exact fun c hc => (by cases hc)
  | succ n ih =>
    rw [unitN]
    split
    · intro c hc
      rcases List.mem_append.1 hc with hc | hc
      · exact ih c hc
      · exact h c hc
    · exact ih
def UtOut (w : World) (u : List Int) (e : Ending) (w' : World) : Prop := ∃ A c, e = .returned (.slice A u.length c) ∧ u.length ≤ c ∧ c ≤ 9223372036854775807 ∧ Rn w' .u8 A u ∧ (∀ ad, A = some ad → w.heap.size ≤ ad.block) ∧ Upd No w w'
theorem UtOut.of {w : World} {u : List Int} {e : Ending} {w' : World} (h : ∃ A c, e = .returned (.slice A u.length c) ∧ u.length ≤ c ∧ c ≤ 9223372036854775807 ∧ Rn w' .u8 A u ∧ (∀ ad, A = some ad → w.heap.size ≤ ad.block) ∧ Upd No w w') : UtOut w u e w' := h
set_option maxHeartbeats 2000000 in
set_option maxRecDepth 100000 in
theorem unit_ (o : Oi) (w : World) (ho : Orow w o) (hn : -9223372036854775808 ≤ o.1.2 ∧ o.1.2 ≤ 9223372036854775807) :
    Calls Try.prog 14 #[.agg #[.int .i64 o.1.1, .int .i64 o.1.2, o.2.2]] w fun e w' => UtOut w (unitL o.1.2 o.2.1) e w' := by
  obtain ⟨⟨K, N⟩, b, v⟩ := o
  obtain ⟨A, c, hv, hr, hc1, hc2⟩ := ho
  simp only at hv hr hc1 hc2 hn ⊢
  subst hv
  obtain ⟨M, hM⟩ : ∃ M, M = (min (max N 0) 40).toNat := ⟨_, rfl⟩
  have HE : Hid (unitL N b = unitN b M) := hid (by rw [hM]; rfl)
  have hM40 : M ≤ 40 := by omega
  have HR := hid hr
  have hcase : (N < 0 ∧ M = 0) ∨ (0 ≤ N ∧ 40 < N ∧ M = 40) ∨ (0 ≤ N ∧ N ≤ 40 ∧ N = (M : Int)) := by omega
  clear hM hr hn
  rcases hcase with ⟨a1, a2⟩ | ⟨a1, a2, a3⟩ | ⟨a1, a2, a3⟩
  · subst a2
    go_enter Try.func14, Try.ntmps14
    go_wp2_with (fail)
    have HB : Hid (∀ W, Upd No (w.alloc (.cells #[.int .i64 K, .int .i64 N, .slice A b.length c] 38)) W → (W.cell? ⟨w.heap.size, 0, none⟩ = some (.int .i64 K) ∧ W.cell? ⟨w.heap.size, 2, none⟩ = some (.slice A b.length c)) ∧ Rn W .u8 A b ∧ Upd No w W) := hid fun W hu => ⟨by
      have h0 := ((Blk.fresh w 38 #[.int .i64 K, .int .i64 N, .slice A b.length c]).upd hu (no_ _)).cell 0
      have h2 := ((Blk.fresh w 38 #[.int .i64 K, .int .i64 N, .slice A b.length c]).upd hu (no_ _)).cell 2
      simp at h0 h2
      exact ⟨h0, h2⟩, Rd.upd HR.out (by omega) (((Upd.refl No w).alloc _).next hu) fun _ _ => no_ _, ((Upd.refl No w).alloc _).next hu⟩
    have HZ : Hid ((w.alloc (.cells #[.int .i64 K, .int .i64 N, .slice A b.length c] 38)).heap.size = w.heap.size + 1) := hid (by simp)
    generalize w.alloc (.cells #[.int .i64 K, .int .i64 N, .slice A b.length c] 38) = w1 at *
    go_loopw [3, 8] (fun v3 v8 W => ∃ (j : Nat) (u : List Int), j ≤ 0 ∧ v8 = .int .i64 j ∧ Hid (u = unitN b j) ∧ Hid (W.ownsRow w1.heap.size 5 1 v3 u.length (nums .u8 u) ∧ Upd No w1 W)) (fun _ v8 _ => 0 - (intOf v8).toNat)
    case atStart => exact ⟨0, [], by omega, rfl, hid rfl, hid ⟨World.ownsRow_nil _ _ _ _, Upd.refl _ _⟩⟩
    case round =>
      obtain ⟨j, u, hj, rfl, HU, HW⟩ := hrel
      obtain ⟨Au, cu, hv3, hcu1, hcu2⟩ := own_shape HW.out.1
      subst hv3
      simp only [maxLen] at hcu2
      have hul : u.length ≤ 4000 := by rw [HU.out]; exact unitN_le b j
      by_cases hlt : j < 0
      · exact absurd hlt (Nat.not_lt_zero _)
      · obtain rfl : j = 0 := by omega
        have HE2 := hid (HE.out.trans HU.out.symm)
        obtain ⟨_, _, hu⟩ := HB.out wr HW.out.2
        have HF := hid (And.intro hu HW.out)
        clear hu
        go_wp2
        go_ret
        rw [HE2.out]
        exact .of ⟨Au, cu, rfl, hcu1, by omega, Rd.of_own HF.out.2.1, fun ad e => by
          subst e
          have := (HF.out.2.1.lt ad.block rfl).1
          have := HZ.out
          omega, HF.out.1⟩
  · subst a3
    go_enter Try.func14, Try.ntmps14
    go_wp2_with (fail)
    have HB : Hid (∀ W, Upd No (w.alloc (.cells #[.int .i64 K, .int .i64 N, .slice A b.length c] 38)) W → (W.cell? ⟨w.heap.size, 0, none⟩ = some (.int .i64 K) ∧ W.cell? ⟨w.heap.size, 2, none⟩ = some (.slice A b.length c)) ∧ Rn W .u8 A b ∧ Upd No w W) := hid fun W hu => ⟨by
      have h0 := ((Blk.fresh w 38 #[.int .i64 K, .int .i64 N, .slice A b.length c]).upd hu (no_ _)).cell 0
      have h2 := ((Blk.fresh w 38 #[.int .i64 K, .int .i64 N, .slice A b.length c]).upd hu (no_ _)).cell 2
      simp at h0 h2
      exact ⟨h0, h2⟩, Rd.upd HR.out (by omega) (((Upd.refl No w).alloc _).next hu) fun _ _ => no_ _, ((Upd.refl No w).alloc _).next hu⟩
    have HZ : Hid ((w.alloc (.cells #[.int .i64 K, .int .i64 N, .slice A b.length c] 38)).heap.size = w.heap.size + 1) := hid (by simp)
    generalize w.alloc (.cells #[.int .i64 K, .int .i64 N, .slice A b.length c] 38) = w1 at *
    go_loopw [3, 8] (fun v3 v8 W => ∃ (j : Nat) (u : List Int), j ≤ 40 ∧ v8 = .int .i64 j ∧ Hid (u = unitN b j) ∧ Hid (W.ownsRow w1.heap.size 5 1 v3 u.length (nums .u8 u) ∧ Upd No w1 W)) (fun _ v8 _ => 40 - (intOf v8).toNat)
    case atStart => exact ⟨0, [], by omega, rfl, hid rfl, hid ⟨World.ownsRow_nil _ _ _ _, Upd.refl _ _⟩⟩
    case round =>
      obtain ⟨j, u, hj, rfl, HU, HW⟩ := hrel
      obtain ⟨Au, cu, hv3, hcu1, hcu2⟩ := own_shape HW.out.1
      subst hv3
      simp only [maxLen] at hcu2
      have hul : u.length ≤ 4000 := by rw [HU.out]; exact unitN_le b j
      by_cases hlt : j < 40
      · have hlt' : (j : Int) < (40 : Int) := by omega
        obtain ⟨⟨y0, y2⟩, hrb, _⟩ := HB.out wr HW.out.2
        have HRb := hid hrb
        clear hrb
        by_cases h4 : (u.length : Int) + (b.length : Int) ≤ 4000
        · have HN : Hid (u ++ b = unitN b (j + 1)) := hid (by rw [unitN, ← HU.out, if_pos (by omega)])
          go_wp2_with (at_builtin; refine ap_row w1.heap.size rfl (.tmp 17) (.tmp 19) 31 5 (.int .u8 0) 1 1 rfl Try.underlying31 Sw.u8_info rfl (by omega) (.slice Au u.length cu) u.length (nums .u8 u) A b.length c (nums .u8 b) rfl rfl HW.out.1 HRb.out (nums_one _ _) (by omega) (by omega) HW.out.2.size ?_; intro A5 c5 w5 ho5 hg5 hat5)
          have HL := hid (show (u ++ b).length = u.length + b.length from List.length_append ..)
          have HW5 : Hid (w5.ownsRow w1.heap.size 5 1 (.slice A5 (u ++ b).length c5) (u ++ b).length (nums .u8 (u ++ b)) ∧ Upd No w1 w5) := hid ⟨by rw [HL.out, nums_append]; exact ho5, HW.out.2.grown hg5 fun k hk => .inr (HW.out.1.lt k hk).1⟩
          rw [← HL.out]
          clear ho5 hg5 hat5 y0 y2 h4
          generalize u ++ b = u2 at *
          go_wp2
          go_roundw
          case rel => exact ⟨j + 1, u2, by omega, by go_num, HN, HW5⟩
          case measure => simp [intOf]; omega
        · have HN : Hid (u = unitN b (j + 1)) := hid (by rw [unitN, ← HU.out, if_neg (by omega)])
          go_wp2
          go_roundw
          case rel => exact ⟨j + 1, u, by omega, by go_num, HN, HW⟩
          case measure => simp [intOf]; omega
      · obtain rfl : j = 40 := by omega
        have HE2 := hid (HE.out.trans HU.out.symm)
        obtain ⟨_, _, hu⟩ := HB.out wr HW.out.2
        have HF := hid (And.intro hu HW.out)
        clear hu
        go_wp2
        go_ret
        rw [HE2.out]
        exact .of ⟨Au, cu, rfl, hcu1, by omega, Rd.of_own HF.out.2.1, fun ad e => by
          subst e
          have := (HF.out.2.1.lt ad.block rfl).1
          have := HZ.out
          omega, HF.out.1⟩
  · subst a3
    go_enter Try.func14, Try.ntmps14
    go_wp2_with (fail)
    have HB : Hid (∀ W, Upd No (w.alloc (.cells #[.int .i64 K, .int .i64 M, .slice A b.length c] 38)) W → (W.cell? ⟨w.heap.size, 0, none⟩ = some (.int .i64 K) ∧ W.cell? ⟨w.heap.size, 2, none⟩ = some (.slice A b.length c)) ∧ Rn W .u8 A b ∧ Upd No w W) := hid fun W hu => ⟨by
      have h0 := ((Blk.fresh w 38 #[.int .i64 K, .int .i64 M, .slice A b.length c]).upd hu (no_ _)).cell 0
      have h2 := ((Blk.fresh w 38 #[.int .i64 K, .int .i64 M, .slice A b.length c]).upd hu (no_ _)).cell 2
      simp at h0 h2
      exact ⟨h0, h2⟩, Rd.upd HR.out (by omega) (((Upd.refl No w).alloc _).next hu) fun _ _ => no_ _, ((Upd.refl No w).alloc _).next hu⟩
    have HZ : Hid ((w.alloc (.cells #[.int .i64 K, .int .i64 M, .slice A b.length c] 38)).heap.size = w.heap.size + 1) := hid (by simp)
    generalize w.alloc (.cells #[.int .i64 K, .int .i64 M, .slice A b.length c] 38) = w1 at *
    go_loopw [3, 8] (fun v3 v8 W => ∃ (j : Nat) (u : List Int), j ≤ M ∧ v8 = .int .i64 j ∧ Hid (u = unitN b j) ∧ Hid (W.ownsRow w1.heap.size 5 1 v3 u.length (nums .u8 u) ∧ Upd No w1 W)) (fun _ v8 _ => M - (intOf v8).toNat)
    case atStart => exact ⟨0, [], by omega, rfl, hid rfl, hid ⟨World.ownsRow_nil _ _ _ _, Upd.refl _ _⟩⟩
    case round =>
      obtain ⟨j, u, hj, rfl, HU, HW⟩ := hrel
      obtain ⟨Au, cu, hv3, hcu1, hcu2⟩ := own_shape HW.out.1
      subst hv3
      simp only [maxLen] at hcu2
      have hul : u.length ≤ 4000 := by rw [HU.out]; exact unitN_le b j
      by_cases hlt : j < M
      · have hlt' : (j : Int) < (M : Int) := by omega
        obtain ⟨⟨y0, y2⟩, hrb, _⟩ := HB.out wr HW.out.2
        have HRb := hid hrb
        clear hrb
        by_cases h4 : (u.length : Int) + (b.length : Int) ≤ 4000
        · have HN : Hid (u ++ b = unitN b (j + 1)) := hid (by rw [unitN, ← HU.out, if_pos (by omega)])
          go_wp2_with (at_builtin; refine ap_row w1.heap.size rfl (.tmp 17) (.tmp 19) 31 5 (.int .u8 0) 1 1 rfl Try.underlying31 Sw.u8_info rfl (by omega) (.slice Au u.length cu) u.length (nums .u8 u) A b.length c (nums .u8 b) rfl rfl HW.out.1 HRb.out (nums_one _ _) (by omega) (by omega) HW.out.2.size ?_; intro A5 c5 w5 ho5 hg5 hat5)
          have HL := hid (show (u ++ b).length = u.length + b.length from List.length_append ..)
          have HW5 : Hid (w5.ownsRow w1.heap.size 5 1 (.slice A5 (u ++ b).length c5) (u ++ b).length (nums .u8 (u ++ b)) ∧ Upd No w1 w5) := hid ⟨by rw [HL.out, nums_append]; exact ho5, HW.out.2.grown hg5 fun k hk => .inr (HW.out.1.lt k hk).1⟩
          rw [← HL.out]
          clear ho5 hg5 hat5 y0 y2 h4
          generalize u ++ b = u2 at *
          go_wp2
          go_roundw
          case rel => exact ⟨j + 1, u2, by omega, by go_num, HN, HW5⟩
          case measure => simp [intOf]; omega
        · have HN : Hid (u = unitN b (j + 1)) := hid (by rw [unitN, ← HU.out, if_neg (by omega)])
          go_wp2
          go_roundw
          case rel => exact ⟨j + 1, u, by omega, by go_num, HN, HW⟩
          case measure => simp [intOf]; omega
      · obtain rfl : j = M := by omega
        have HE2 := hid (HE.out.trans HU.out.symm)
        obtain ⟨_, _, hu⟩ := HB.out wr HW.out.2
        have HF := hid (And.intro hu HW.out)
        clear hu
        go_wp2
        go_ret
        rw [HE2.out]
        exact .of ⟨Au, cu, rfl, hcu1, by omega, Rd.of_own HF.out.2.1, fun ad e => by
          subst e
          have := (HF.out.2.1.lt ad.block rfl).1
          have := HZ.out
          omega, HF.out.1⟩
end Go.Proofs.Ytheopehhpoikdaa.Gl
