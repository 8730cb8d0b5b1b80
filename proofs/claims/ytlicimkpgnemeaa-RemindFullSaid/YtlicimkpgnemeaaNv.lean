/-
  The walk of RemindFull.
-/
import Derived.Test.YtlicimkpgnemeaaNa
set_option linter.unusedVariables false
set_option linter.unusedSimpArgs false
namespace Go.Proofs.Ytlicimkpgnemeaa.Nd
open Go.RowKit Go.Proofs.Ytlicimkpgnemeaa.B Go.Proofs.Ytlicimkpgnemeaa.Op
def nm (i : Int) : ByteArray := strOfNums [i]
theorem nm_inj {i j : Int} (hi : 0 ≤ i ∧ i ≤ 255) (hj : 0 ≤ j ∧ j ≤ 255) (h : nm i = nm j) : i = j := by
  have h1 := str_eq [i] [j] (fun c hc => by obtain rfl := List.mem_singleton.1 hc; exact hi) (fun c hc => by obtain rfl := List.mem_singleton.1 hc; exact hj)
  have h2 : ((strOfNums [i]).toList == (strOfNums [j]).toList) = true := (be_iff _ _).2 h
  rw [h2] at h1
  have h3 := of_decide_eq_true h1.symm
  injection h3
theorem nm_size (i : Int) : (nm i).size = 1 := by
  unfold nm
  rw [strOfNums_size]
  rfl
def fr (i : Nat) : Rm := ⟨sa, nm i, i, 1, 0⟩
def fl (k : Nat) : List Rm := (List.range k).map fr
theorem fl_length (k : Nat) : (fl k).length = k := by simp [fl]
theorem fl_succ (k : Nat) : fl (k + 1) = fl k ++ [fr k] := by simp [fl, List.range_succ]
theorem fl_mem {k : Nat} {x : Rm} (h : x ∈ fl k) : ∃ i, i < k ∧ x = fr i := by
  obtain ⟨i, hi, rfl⟩ := List.mem_map.1 h
  exact ⟨i, List.mem_range.1 hi, rfl⟩
theorem has_fl {k i : Nat} (hk : k ≤ i) (hi : i ≤ 255) : has sa (nm i) (fl k) = false := by
  unfold has
  rw [List.any_eq_false]
  intro x hx
  obtain ⟨j, hj, rfl⟩ := fl_mem hx
  intro h
  obtain ⟨_, h2⟩ := ke_iff.1 h
  have := nm_inj (i := (j : Int)) (j := (i : Int)) (by omega) (by omega) h2
  omega
theorem fr_ok (i : Nat) : wrongR (fr i) = 0 := by
  unfold fr
  rw [wrong_a (nm i) i 1 0 (by rw [nm_size]; omega), if_neg (by omega)]
theorem ins_fl (k : Nat) : ins (fl k) (fr k) = fl (k + 1) := by
  have h := ins_at (l := fl k) (r := fr k) (k := (fl k).length) (Nat.le_refl _) (fun i hi _ => by
    obtain ⟨j, hj, e⟩ := fl_mem (List.getElem_mem hi)
    rw [e, less_iff]
    left
    simp only [fr]
    omega) (fun i hi h => by omega)
  rw [h, List.take_length, List.drop_length, fl_succ]
theorem set_fl {i : Nat} (h : i < 64) : setR (fl i) (fr i) = (0, fl (i + 1)) := by
  unfold setR
  rw [if_neg (by rw [fr_ok]; simp), if_neg (by rw [fl_length]; omega)]
  have : has (fr i).actor (fr i).name (fl i) = false := has_fl (Nat.le_refl _) (by omega)
  rw [del_none this, ins_fl]
theorem set_full {l : List Rm} {r : Rm} (hw : wrongR r = 0) (hh : has r.actor r.name l = false) (hl : l.length = 64) : setR l r = (6, l) := by
  unfold setR
  rw [if_neg (by rw [hw]; simp), if_pos ⟨hh, by omega⟩]
theorem set_there {l : List Rm} {r : Rm} (hw : wrongR r = 0) (hh : has r.actor r.name l = true) : setR l r = (0, ins (del r.actor r.name l) r) := by
  unfold setR
  rw [if_neg (by rw [hw]; simp), if_neg (by rw [hh]; simp)]
theorem set_room {l : List Rm} {r : Rm} (hw : wrongR r = 0) (hh : has r.actor r.name l = false) (hl : l.length < 64) : setR l r = (0, ins l r) := by
  unfold setR
  rw [if_neg (by rw [hw]; simp), if_neg (by omega), del_none hh]
theorem del_len {l : List Rm} {a n : ByteArray} (hi : Inv l) (hh : has a n l = true) : (del a n l).length + 1 = l.length := by
  obtain ⟨x, hx, hk⟩ := List.any_eq_true.1 hh
  obtain ⟨i, hil, rfl⟩ := List.getElem_of_mem hx
  rw [del_at hi.unq hil hk, List.length_append, List.length_take, List.length_drop]
  omega
theorem has_other {l : List Rm} {a b n : ByteArray} (h : ∀ x ∈ l, x.actor = a) (hab : a ≠ b) : has b n l = false := by
  unfold has
  rw [List.any_eq_false]
  intro x hx hk
  exact hab ((h x hx).symm.trans (ke_iff.1 hk).1)
theorem has_ins (l : List Rm) (r : Rm) : has r.actor r.name (ins l r) = true := List.any_eq_true.2 ⟨r, mem_ins.2 (.inr rfl), ke_iff.2 ⟨rfl, rfl⟩⟩
theorem actor_del {l : List Rm} {a b n : ByteArray} (h : ∀ x ∈ l, x.actor = a) : ∀ x ∈ del b n l, x.actor = a := fun x hx => h x (List.mem_filter.1 hx).1
def sbb : ByteArray := ⟨#[98]⟩
theorem wrong_b (n : ByteArray) (d p k : Int) (hn : n.size ≤ 40) : wrongR ⟨sbb, n, d, p, k⟩ = if d < 0 ∨ p < 1 then 3 else 0 := by
  unfold wrongR
  have h1 : keyB sbb = true := by decide
  rw [if_neg (by rw [h1]; simp; omega)]
theorem i64s (i : Nat) (h : i ≤ 1000) : I64 (i : Int) ∧ I64 1 ∧ I64 0 := by unfold I64; omega
set_option maxHeartbeats 4000000 in
set_option maxRecDepth 100000 in
theorem full_law (n m : Int) (w : World) (hn : 0 ≤ n ∧ n ≤ 255) (hm : 0 ≤ m ∧ m ≤ 255) :
    Calls Try.prog 7 #[.int .u8 n, .int .u8 m] w fun e w' => e = .returned (.bool true) ∧ Below w.heap.size w w' := by
  have kcv : ∀ (W : World) (i : Int), (convert 50 9 (.slice (some ⟨W.heap.size, 0, none⟩) 1 1)).run Try.prog (W.alloc (.cells #[.int .u8 i] 5)) = .ok (.string (nm i)) (W.alloc (.cells #[.int .u8 i] 5)) := fun W i =>
    conv_str (P := Try.prog) (Rn.litm W .u8 5 (0, 0) [i]) 50 9 5 1 Try.underlying50 Try.underlying5 Try.underlying9
  have HSt := hid fun (W : World) (F : Nat → Prop) (q : Nat) (l : List Rm) (r : Rm) (h : Pq w W F q l) (hr : I64 r.due ∧ I64 r.per ∧ I64 r.kind) => set_pq h r hr
  unfold rv at HSt
  have HAl := hid fun (W : World) (F : Nat → Prop) (q : Nat) (l : List Rm) (h : Pq w W F q l) => all_ q F l W h.qo (by have := h.inv.len; omega)
  unfold NewR at HAl
  obtain ⟨N, rfl⟩ : ∃ N : Nat, n = (N : Int) := ⟨n.toNat, by omega⟩
  obtain ⟨M, hM⟩ : ∃ M : Nat, M = N % 80 := ⟨_, rfl⟩
  have hM80 : M < 80 := by omega
  have hrem : (N : Int) % 80 = (M : Int) := by omega
  have hwM : IntKind.i64.wrap (M : Int) = (M : Int) := IntWalk.i64_in _ (by omega)
  clear hM
  go_enter Try.func7, Try.ntmps7
  go_wp2_with (fail)
  refine (awake w).mono ?_
  rintro e w1 ⟨rfl, hb1⟩
  have HP := hid (Pq.new hb1)
  go_wp2_with (fail)
  refine (new_ w1).mono ?_
  rintro e w2 ⟨rfl, rfl⟩
  obtain ⟨q, hq⟩ : ∃ q, q = w1.heap.size := ⟨_, rfl⟩
  rw [← hq] at HP ⊢
  clear hq hb1
  go_wp2_with (fail)
  try rw [hrem]
  try rw [hwM]
  go_loopw [19] (fun v19 W => ∃ (j : Nat) (F : Nat → Prop), j ≤ M ∧ v19 = .int .i64 j ∧ Hid (Pq w W F q (fl (min j 64)))) (fun v19 _ => M - (intOf v19).toNat)
  case atStart => exact ⟨0, _, by omega, rfl, hid HP.out⟩
  case round =>
    clear HP
    obtain ⟨j, F, hj, rfl, HW⟩ := hrel
    by_cases hlt : j < M
    · have hj2 : (j : Int) < (M : Int) := by omega
      have hw8 : IntKind.u8.wrap (j : Int) = (j : Int) := by rw [IntKind.wrap_u8]; omega
      have hst := HSt.out (wr.alloc (.cells #[.int .u8 (j : Int)] 5)) F q _ (fr j) (HW.out.quiet ((Upd.refl No wr).alloc _)) (i64s j (by omega))
      simp only [fr, sa] at hst
      by_cases h64 : j < 64
      · have hj64 : (j : Int) < 64 := by omega
        have hse := set_fl h64
        simp only [fr, sa] at hse
        rw [show min j 64 = j from by omega, hse] at hst
        have HS := hid hst
        clear hst hse
        go_wp2_with (fail)
        refine HS.out.mono ?_
        rintro e w3 ⟨rfl, F3, hp3, _⟩
        have HN : Hid (Pq w w3 F3 q (fl (min (j + 1) 64))) := hid (by rw [show min (j + 1) 64 = j + 1 from by omega]; exact hp3)
        clear hp3 HS
        go_wp2
        go_roundw
        case rel => exact ⟨j + 1, F3, by omega, by go_num, HN⟩
        case measure => simp [intOf]; omega
      · have hj64 : ¬ (j : Int) < 64 := by omega
        have hse := set_full (l := fl 64) (fr_ok j) (has_fl (k := 64) (by omega) (by omega)) (fl_length 64)
        simp only [fr, sa] at hse
        rw [show min j 64 = 64 from by omega, hse] at hst
        have HS := hid hst
        clear hst hse
        go_wp2_with (fail)
        refine HS.out.mono ?_
        rintro e w3 ⟨rfl, F3, hp3, _⟩
        have HN : Hid (Pq w w3 F3 q (fl (min (j + 1) 64))) := hid (by rw [show min (j + 1) 64 = 64 from by omega]; exact hp3)
        clear hp3 HS
        go_wp2
        go_roundw
        case rel => exact ⟨j + 1, F3, by omega, by go_num, HN⟩
        case measure => simp [intOf]; omega
    · obtain rfl : j = M := by omega
      obtain ⟨wo, rfl⟩ : ∃ wo : World, wo = wr := ⟨_, rfl⟩
      by_cases h64 : j < 64
      · have hj64 : (j : Int) < 64 := by omega
        have hw2 := HW.out
        rw [show min j 64 = j from by omega] at hw2
        have hal := HAl.out wo F q _ hw2
        rw [fl_length] at hal
        have HA := hid hal
        have HP := hid hw2
        clear hal hw2
        go_wp2_with (fail)
        refine HA.out.mono ?_
        rintro e w4 ⟨A4, c4, rfl, _, hu4⟩
        have HB := hid (HP.out.quiet hu4).bel
        clear hu4
        go_wp2
        go_ret
        exact ⟨rfl, HB.out⟩
      · have hj64 : ¬ (j : Int) < 64 := by omega
        have hw2 := HW.out
        rw [show min j 64 = 64 from by omega] at hw2
        obtain ⟨k, hk⟩ : ∃ k : Int, m % 64 = k := ⟨_, rfl⟩
        have hk0 : 0 ≤ k ∧ k < 64 := by omega
        have hall : ∀ x ∈ fl 64, x.actor = sa := fun x hx => by obtain ⟨i, _, rfl⟩ := fl_mem hx; rfl
        have hhas : has sa (nm k) (fl 64) = true := List.any_eq_true.2 ⟨fr k.toNat, List.mem_map.2 ⟨k.toNat, List.mem_range.2 (by omega), rfl⟩, ke_iff.2 ⟨rfl, by simp only [fr]; rw [show ((k.toNat : Nat) : Int) = k by omega]⟩⟩
        have hlen := fl_length 64
        have HP0 := hid (hw2.quiet ((Upd.refl No wo).alloc (.cells #[.int .u8 k] 5)))
        clear hw2
        generalize fl 64 = l at *
        have hnk := nm_size k
        -- the first Set: in its own place
        have hwa : wrongR ⟨sa, nm k, 500, 1, 0⟩ = 0 := by rw [wrong_a _ _ _ _ (by omega), if_neg (by omega)]
        have hwb : wrongR ⟨sbb, nm k, 500, 1, 0⟩ = 0 := by rw [wrong_b _ _ _ _ (by omega), if_neg (by omega)]
        have hab : sa ≠ sbb := by
          intro h
          have := congrArg ByteArray.data h
          exact absurd this (by decide)
        have hs1 := set_there (r := ⟨sa, nm k, 500, 1, 0⟩) hwa hhas
        simp only at hs1
        have hl1 : (ins (del sa (nm k) l) ⟨sa, nm k, 500, 1, 0⟩).length = 64 := by
          rw [ins_length]
          have := del_len HP0.out.inv hhas
          omega
        have ha1 : ∀ x ∈ ins (del sa (nm k) l) ⟨sa, nm k, 500, 1, 0⟩, x.actor = sa := fun x hx => by
          rcases mem_ins.1 hx with hx | rfl
          · exact actor_del hall x hx
          · rfl
        have hh1 : has sa (nm k) (ins (del sa (nm k) l) ⟨sa, nm k, 500, 1, 0⟩) = true := has_ins _ ⟨sa, nm k, 500, 1, 0⟩
        have HSa := hid (HSt.out _ F q l ⟨sa, nm k, 500, 1, 0⟩ HP0.out (by unfold I64; simp))
        rw [hs1] at HSa
        generalize ins (del sa (nm k) l) ⟨sa, nm k, 500, 1, 0⟩ = l1 at *
        have hs2 := set_full (r := ⟨sbb, nm k, 500, 1, 0⟩) hwb (has_other ha1 hab) hl1
        have HSb : Hid (∀ (W : World) (F' : Nat → Prop), Pq w W F' q l1 → Calls Try.prog 12 #[.pointer (some ⟨q, 0, none⟩), .agg #[.string sbb, .string (nm k), .int .i64 500, .int .i64 1, .int .i64 0]] W fun e w' => e = .returned (.int .i64 6) ∧ ∃ F2, Pq w w' F2 q l1 ∧ Mv F' F2 W w') := hid fun W F' hp => by
          have := HSt.out W F' q l1 ⟨sbb, nm k, 500, 1, 0⟩ hp (by unfold I64; simp)
          rw [hs2] at this
          exact this
        have HCa : Hid (∀ (W : World) (F' : Nat → Prop), Pq w W F' q l1 → Calls Try.prog 15 #[.pointer (some ⟨q, 0, none⟩), .string sa, .string (nm k)] W fun e w' => e = .returned (.bool true) ∧ ∃ F2, Pq w w' F2 q (del sa (nm k) l1) ∧ Mv F' F2 W w') := hid fun W F' hp => by
          have := cancel_pq hp sa (nm k)
          rw [hh1] at this
          exact this
        have HL2 : Hid (∀ (W : World) (F' : Nat → Prop), Pq w W F' q l1 → (del sa (nm k) l1).length = 63) := hid fun W F' hp => by
          have := del_len hp.inv hh1
          omega
        have ha2 : ∀ x ∈ del sa (nm k) l1, x.actor = sa := actor_del ha1
        generalize del sa (nm k) l1 = l2 at *
        have HSc : Hid (∀ (W : World) (F' : Nat → Prop), l2.length = 63 → Pq w W F' q l2 → Calls Try.prog 12 #[.pointer (some ⟨q, 0, none⟩), .agg #[.string sbb, .string (nm k), .int .i64 500, .int .i64 1, .int .i64 0]] W fun e w' => e = .returned (.int .i64 0) ∧ ∃ F2, Pq w w' F2 q (ins l2 ⟨sbb, nm k, 500, 1, 0⟩) ∧ Mv F' F2 W w') := hid fun W F' h63 hp => by
          have := HSt.out W F' q l2 ⟨sbb, nm k, 500, 1, 0⟩ hp (by unfold I64; simp)
          rw [set_room (r := ⟨sbb, nm k, 500, 1, 0⟩) hwb (has_other ha2 hab) (by omega)] at this
          exact this
        have HL3 := hid (ins_length l2 ⟨sbb, nm k, 500, 1, 0⟩)
        generalize ins l2 ⟨sbb, nm k, 500, 1, 0⟩ = l3 at *
        simp only [sa, sbb] at HSa HSb HCa HSc
        clear hs1 hs2 hwa hwb hab hall hhas hh1 ha1 ha2 hl1 hlen HW
        go_wp2_with (fail)
        refine HSa.out.mono ?_
        rintro e w3 ⟨rfl, F3, hp3, _⟩
        have HP3 := hid hp3
        have HB3 := hid (HSb.out w3 F3 hp3)
        have h63 := HL2.out w3 F3 hp3
        clear hp3 HSa HSb HL2
        go_wp2_with (fail)
        refine HB3.out.mono ?_
        rintro e w4 ⟨rfl, F4, hp4, _⟩
        have HC4 := hid (HCa.out w4 F4 hp4)
        clear hp4 HCa HB3
        go_wp2_with (fail)
        refine HC4.out.mono ?_
        rintro e w5 ⟨rfl, F5, hp5, _⟩
        have HS5 := hid (HSc.out w5 F5 h63 hp5)
        clear hp5 HSc HC4
        go_wp2_with (fail)
        refine HS5.out.mono ?_
        rintro e w6 ⟨rfl, F6, hp6, _⟩
        have hal := HAl.out w6 F6 q l3 hp6
        rw [show l3.length = 64 from by rw [HL3.out, h63]] at hal
        have HA := hid hal
        have HP6 := hid hp6
        clear hp6 hal HS5 h63
        go_wp2_with (fail)
        refine HA.out.mono ?_
        rintro e w7 ⟨A7, c7, rfl, _, hu7⟩
        have HB := hid (HP6.out.quiet hu7).bel
        clear hu7
        go_wp2
        go_ret
        exact ⟨rfl, HB.out⟩
end Go.Proofs.Ytlicimkpgnemeaa.Nd
