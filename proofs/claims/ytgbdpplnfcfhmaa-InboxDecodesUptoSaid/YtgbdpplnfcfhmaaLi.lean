/-
  Letters out of bytes: the reference's Take.
-/
import Derived.Test.YtgbdpplnfcfhmaaLk
import Derived.Test.YtgbdpplnfcfhmaaIr0
set_option linter.unusedVariables false
set_option linter.unusedSimpArgs false
namespace Go.Proofs.Ytgbdpplnfcfhmaa.Lk
open Go.RowKit Go.Proofs.Ytgbdpplnfcfhmaa.B Go.Proofs.Ytgbdpplnfcfhmaa.Cw Go.Proofs.Ytgbdpplnfcfhmaa.Cr Go.Proofs.Ytgbdpplnfcfhmaa.Cd Go.Proofs.Ytgbdpplnfcfhmaa.Lt Go.Proofs.Ytgbdpplnfcfhmaa.Ib
open Go.Proofs.Ytgbdpplnfcfhmaa.Cm (stN)
/-- What the reference's Take leaves: where it is no letter, any one. -/
def RkOut (F : Nat → Prop) (p : Nat) (q : L × List Int × Bool × Bool) (w : World) (e : Ending) (w' : World) : Prop :=
  ∃ x v A c, e = .returned (.tuple #[val x v, .bool q.2.2.2]) ∧ (q.2.2.2 = true → x = q.1) ∧ (In w' x v ∧ ∀ k, v.ownBlock = some k → w.heap.size ≤ k ∧ ∃ cs, Blk w' k 2 cs) ∧ Rr 83 w' F p A c q.2.1 q.2.2.1 ∧ Upd (fun k => k = p) w w'
theorem RkOut.of {F : Nat → Prop} {p : Nat} {q : L × List Int × Bool × Bool} {w : World} {e : Ending} {w' : World}
    (h : ∃ x v A c, e = .returned (.tuple #[val x v, .bool q.2.2.2]) ∧ (q.2.2.2 = true → x = q.1) ∧ (In w' x v ∧ ∀ k, v.ownBlock = some k → w.heap.size ≤ k ∧ ∃ cs, Blk w' k 2 cs) ∧ Rr 83 w' F p A c q.2.1 q.2.2.1 ∧ Upd (fun k => k = p) w w') : RkOut F p q w e w' := h
theorem two {w : World} {g : Nat} {t : TypeId} {a b : Value} (h : Blk w g t #[a, b]) : w.cell? ⟨g, 0, none⟩ = some a ∧ w.cell? ⟨g, 1, none⟩ = some b := ⟨by simpa using h.cell 0, by simpa using h.cell 1⟩
/-- Behind j arguments. -/
def Tir (w : World) (h t : Nat) (F : Nat → Prop) (p : Nat) (st : ByteArray) (n kk : Int) (r : List Int) (b : Bool) (j : Nat) (W : World) : Prop :=
  ∃ va A c, Blk W t 30 #[.string ⟨#[]⟩, .int .u64 0, .int .i64 0, .slice none 0 0] ∧ Blk W h 30 #[.string st, .int .u64 n, .int .i64 kk, va] ∧ W.ownsRow (h + 1) 2 1 va (tk r b j).1.length (nums .i64 (tk r b j).1) ∧ Rr 83 W F p A c (tk r b j).2.1 (tk r b j).2.2 ∧ Upd (fun k => k = p) w W
set_option maxHeartbeats 4000000 in
set_option maxRecDepth 100000 in
theorem rtake_ (F : Nat → Prop) (p c : Nat) (A : Option Addr) (l : List Int) (bd : Bool) (w : World) (h : Rr 83 w F p A c l bd) :
    Calls Try.prog 50 #[.pointer (some ⟨p, 0, none⟩)] w (RkOut F p (takeL l bd) w) := by
  have hpl := h.lt p h.here
  have hal : Upd No w (w.alloc (.cells #[.string ⟨#[]⟩, .int .u64 0, .int .i64 0, .slice none 0 0] 30)) := (Upd.refl _ _).alloc _
  have hb1 := Blk.fresh w 30 #[.string ⟨#[]⟩, .int .u64 0, .int .i64 0, .slice none 0 0]
  have h1 := h.keep hal (fun k _ => no_ k)
  obtain ⟨t, r1, b1, hs1⟩ : ∃ t r1 b1, stT l bd = (t, r1, b1) := ⟨_, _, _, rfl⟩
  obtain ⟨n, r2, b2, hs2⟩ : ∃ n r2 b2, stN r1 b1 = (n, r2, b2) := ⟨_, _, _, rfl⟩
  obtain ⟨k, r3, b3, hs3⟩ : ∃ k r3 b3, stN r2 b2 = (k, r3, b3) := ⟨_, _, _, rfl⟩
  obtain ⟨m, r4, b4, hs4⟩ : ∃ m r4 b4, stN r3 b3 = (m, r4, b4) := ⟨_, _, _, rfl⟩
  have hhd : hd l bd = (strOfNums t, n, uz k, m, r4, b4) := by simp only [hd, hs1, hs2, hs3, hs4]
  have hHD := hid hhd
  have hS1 := hid hs1
  have hS2 := hid hs2
  have hS3 := hid hs3
  have hS4 := hid hs4
  clear hhd hs1 hs2 hs3 hs4
  go_enter Try.func50, Try.ntmps50
  go_wp2_with (fail)
  generalize hw1 : w.alloc (.cells #[.string ⟨#[]⟩, .int .u64 0, .int .i64 0, .slice none 0 0] 30) = w1 at *
  have hsz1 : w1.heap.size = w.heap.size + 1 := by rw [← hw1]; simp
  have HSz := hid hsz1
  clear hw1 hsz1
  refine (text_eq h1 hS1.out).mono ?_
  rintro e w2 ⟨rfl, A2, c2, h2, hu2⟩
  go_wp2_with (fail)
  refine (Ce.number_eq h2 hS2.out).mono ?_
  rintro e w3 ⟨rfl, A3, c3, h3, hu3⟩
  go_wp2_with (fail)
  refine (int_eq h3 hS3.out rfl).mono ?_
  rintro e w4 ⟨rfl, A4, c4, h4, hu4⟩
  have hu24 : Upd (fun k => k = p) w w4 := (((hal.mono fun _ _ h => h.elim).next hu2).next hu3).next hu4
  have hne : ¬ w.heap.size = p := by omega
  have hb4 := ((hb1.upd hu2 hne).upd hu3 hne).upd hu4 hne
  have HW5 : Hid (∃ w5 g, w5 = w4.alloc (.cells #[.string (strOfNums t), .int .u64 n, .int .i64 (uz k), .slice none 0 0] 30) ∧ g = w4.heap.size ∧ Blk w5 w.heap.size 30 #[.string ⟨#[]⟩, .int .u64 0, .int .i64 0, .slice none 0 0] ∧ Blk w5 g 30 #[.string (strOfNums t), .int .u64 n, .int .i64 (uz k), .slice none 0 0] ∧ Rr 83 w5 F p A4 c4 r3 b3 ∧ Upd (fun k => k = p) w w5 ∧ w.heap.size < g) :=
    hid ⟨_, _, rfl, rfl, hb4.alloc _, Blk.fresh _ _ _, h4.keep ((Upd.refl _ _).alloc _) (fun k _ => no_ k), hu24.alloc _, hb4.lt⟩
  have hF : ∀ k, F k → ¬ k = w.heap.size := fun k hk e => by have := h.lt k hk; omega
  have hFg : ∀ k, F k → k < w.heap.size := h.lt
  clear hu2 hu3 hu4 h2 h3 h4 hb1 hb4 h1 hal hu24
  go_wp2_with (fail)
  obtain ⟨w5, g, hw5, hg, hbt, hbg, h5, hu5, hwg⟩ := HW5.out
  rw [← hw5, ← hg]
  clear hw5 hg HW5
  have hmr : 0 ≤ m := by
    have := (stN_range r3 b3 h5.byte).1
    rw [hS4.out] at this
    exact this
  have HC := hid (Ce.number_eq h5 hS4.out)
  have HB4 : Hid (b4 = true → m = 0 ∧ r4 = []) := hid fun hb => by
    have := Ce.stN_bad r3 b3 h5.nil (by rw [hS4.out]; exact hb)
    rw [hS4.out] at this
    exact this
  have HS5 := hid (And.intro hbt (And.intro hbg hu5))
  clear hbt hbg hu5 h5
  refine HC.out.mono ?_
  rintro e w8 ⟨rfl, A8, c8, h8, hu8⟩
  have hnp : ¬ g = p := by omega
  have hbt8 := HS5.out.1.upd hu8 hne
  have hbg8 := HS5.out.2.1.upd hu8 hnp
  have hu8' := HS5.out.2.2.next hu8
  have hbb : w8.cell? ⟨p, 1, none⟩ = some (.bool b4) := by simpa using h8.blk.cell 1
  have HNil := hid h8.nil
  clear hu8 HC HS5
  rcases b4 with _ | _
  · by_cases hm : 4 < m
    · have hout : takeL l bd = (zero, r4, false, false) := by simp [takeL, hHD.out, hm]
      have hout' := hid hout
      clear hout
      obtain ⟨y0, y1, y2, y3⟩ := box hbt8
      have f0 := hbt8.free 0
      have f1 := hbt8.free 1
      have f2 := hbt8.free 2
      have f3 := hbt8.free 3
      have hle := Nat.le_refl w.heap.size
      have HB := hid (put4_blk hbt8 zero (.slice none 0 0))
      have HU : Hid (Upd (fun k => k = p) w (put4 w8 w.heap.size zero (.slice none 0 0))) := hid ((((hu8'.set (.inr hle) _).set (.inr hle) _).set (.inr hle) _).set (.inr hle) _)
      have HR := hid (h8.keep (put4_upd w8 w.heap.size zero (.slice none 0 0)) hF)
      clear hbt8 hu8' h8
      go_wp2
      simp only [put4, zero] at HB HU HR
      generalize (((w8.setCell ⟨w.heap.size, 0, none⟩ (.string ⟨#[]⟩)).setCell ⟨w.heap.size, 1, none⟩ (.int .u64 0)).setCell ⟨w.heap.size, 2, none⟩ (.int .i64 0)).setCell ⟨w.heap.size, 3, none⟩ (.slice none 0 0) = W5 at *
      obtain ⟨q0, q1, q2, q3⟩ := box HB.out
      exact bodyPost_ret (v := .tuple #[val zero (.slice none 0 0), .bool false]) (by simp [results, go_sem, q0, q1, q2, q3, val, zero]) rfl (by rw [hout'.out]; exact .of ⟨zero, .slice none 0 0, _, _, rfl, fun _ => rfl, ⟨In.nil _, fun k hk => by simp [Value.ownBlock] at hk⟩, HR.out, HU.out⟩)
    · obtain ⟨mm, rfl⟩ := Int.eq_ofNat_of_zero_le hmr
      have hm4 : mm ≤ 4 := by omega
      have hout : takeL l bd = (if (tk r4 false mm).2.2 || !formed (strOfNums t, n, uz k, (tk r4 false mm).1) then (zero, (tk r4 false mm).2.1, (tk r4 false mm).2.2, false) else ((strOfNums t, n, uz k, (tk r4 false mm).1), (tk r4 false mm).2.1, (tk r4 false mm).2.2, true)) := by
        simp only [takeL, hHD.out, hm, if_false, Int.toNat_natCast]
      have hout' := hid hout
      clear hout
      have hI0 : Tir w g w.heap.size F p (strOfNums t) n (uz k) r4 false 0 w8 := ⟨_, _, _, hbt8, hbg8, World.ownsRow_nil _ _ _ _, h8, hu8'⟩
      have HI0 := hid hI0
      clear hbt8 hbg8 h8 hu8' hI0
      go_wp2_with (fail)
      clear hbb
      go_loopw [25] (fun vv W => ∃ j : Nat, j ≤ mm ∧ vv = .int .u64 j ∧ Hid (Tir w g w.heap.size F p (strOfNums t) n (uz k) r4 false j W)) (fun vv _ => mm - (intOf vv).toNat)
      case atStart => exact ⟨0, by omega, rfl, HI0⟩
      case round =>
        obtain ⟨j, hj, rfl, hH⟩ := hrel
        obtain ⟨va, A9, c9, hbt, hb, ho, hr, hu⟩ := hH.out
        obtain ⟨Aa, ca, rfl, _, _⟩ := own_shape ho
        have htl := tk_length r4 false j
        by_cases hlt : j < mm
        · obtain ⟨z, r', b', hz⟩ : ∃ z r' b', stN (tk r4 false j).2.1 (tk r4 false j).2.2 = (z, r', b') := ⟨_, _, _, rfl⟩
          have HN : Hid (tk r4 false (j + 1) = ((tk r4 false j).1 ++ [uz z], r', b')) := hid (by simp only [tk, hz])
          have HZ := hid hz
          clear hz hH
          generalize tk r4 false j = q at *
          obtain ⟨xs, rr, bb⟩ := q
          simp only at hb ho hr htl HN HZ
          have hsz := hu.size
          have hbl := hb.lt
          have HO := hid ho
          have HR := hid hr
          have c0 := box hb
          have HM := hid htl
          have hxl : xs.length ≤ 4 := by omega
          have HT := hid hbt
          clear htl hbt
          go_wp2_with (fail)
          refine wp_region_held_drew (S := fun _ => True) (by kernel_rfl) trivial (fun hS => ?_)
          refine rg_at 0 (by decide) (fun oi hoi => ?_)
          have ho2 := hoi; simp only [List.getElem?_toArray, List.getElem?_cons_succ, List.getElem?_cons_zero, Option.some.injEq] at ho2; subst ho2
          refine rg_take (v := ?_) 0 hoi (by kernel_rfl) (by kernel_rfl) (by kernel_rfl) (fun _ _ _ h => h) (by rfl) ?_ hS ?_
          rotate_left
          · intro w _; go_simp; try with_reducible rfl
          clear hoi; try simp only [Act.put, List.setIfInBounds_toArray, List.set_cons_zero, List.set_cons_succ]
          refine rg_at 2 (by decide) (fun oi hoi => ?_)
          have ho2 := hoi; simp only [List.getElem?_toArray, List.getElem?_cons_succ, List.getElem?_cons_zero, Option.some.injEq] at ho2; subst ho2
          refine rg_take (v := ?_) 2 hoi (by kernel_rfl) (by kernel_rfl) (by kernel_rfl) (fun _ _ _ h => h) (by rfl) ?_ hS ?_
          rotate_left
          · intro w _; go_simp; try with_reducible rfl
          clear hoi; try simp only [Act.put, List.setIfInBounds_toArray, List.set_cons_zero, List.set_cons_succ]
          refine rg_two 1 3 (by kernel_rfl) ?_ ?_
          · refine rg_op_at 1 (by decide) (fun oi hoi => ?_)
            have ho2 := hoi; simp only [List.getElem?_toArray, List.getElem?_cons_succ, List.getElem?_cons_zero, Option.some.injEq] at ho2; subst ho2
            refine rg_step 1 hoi (by rfl) (fun K hK => ?_)
            clear hoi
            skip
            go_simp
            refine hK.out _ _ (trivial) (fun hS => ?_)
            clear hK K
            try simp only [Act.put, List.setIfInBounds_toArray, List.set_cons_zero, List.set_cons_succ]
            refine rg_at 3 (by decide) (fun oi hoi => ?_)
            have ho2 := hoi; simp only [List.getElem?_toArray, List.getElem?_cons_succ, List.getElem?_cons_zero, Option.some.injEq] at ho2; subst ho2
            refine rg_call 3 (by kernel_rfl) hoi (by rfl) (fun K hK => ?_)
            clear hoi
            go_simp
            refine (int_eq (w := wr.drew) (HR.out.keep (Upd.drew (Upd.refl No wr)) (fun k _ => no_ k)) HZ.out rfl).mono ?_
            rintro e w3 ⟨rfl, A3, c3, h3, hu3⟩
            have hu3' := Upd.of_drew hu3
            have b3' := hb.upd hu3' hnp
            have d3 := box b3'
            have e3 : ∀ o, (w3.alloc o).cell? ⟨g, 3, none⟩ = some (.slice Aa xs.length ca) := fun o => (box (b3'.alloc o)).2.2.2
            go_wp2_with (fail)
            refine hK.out _ _ (trivial) (fun hS => ?_)
            clear hK K
            try simp only [Act.put, List.setIfInBounds_toArray, List.set_cons_zero, List.set_cons_succ]
            refine rg_at 4 (by decide) (fun oi hoi => ?_)
            have ho2 := hoi; simp only [List.getElem?_toArray, List.getElem?_cons_succ, List.getElem?_cons_zero, Option.some.injEq] at ho2; subst ho2
            refine rg_call 4 (by kernel_rfl) hoi (by rfl) (fun K hK => ?_)
            clear hoi
            skip
            go_simp
            refine hK.out _ _ (trivial) (fun hS => ?_)
            clear hK K
            try simp only [Act.put, List.setIfInBounds_toArray, List.set_cons_zero, List.set_cons_succ]
            refine rg_at 5 (by decide) (fun oi hoi => ?_)
            have ho2 := hoi; simp only [List.getElem?_toArray, List.getElem?_cons_succ, List.getElem?_cons_zero, Option.some.injEq] at ho2; subst ho2
            refine rg_call 5 (by kernel_rfl) hoi (by rfl) (fun K hK => ?_)
            clear hoi
            refine wp_ap_one (base := g + 1) (.tmp 28) (.tmp 31) 22 2 (.int .i64 0) 8 (by rfl) Try.underlying22 i64_info rfl (.slice Aa xs.length ca) xs.length (nums .i64 xs) (.int .i64 (uz z)) (by rfl) (by rfl) (Blk.fresh w3 _ _) rfl (own_upd HO.out (hu3'.alloc _) (fun k hk e => by have := (World.ownsRow.lt HO.out k hk).1; omega)) (by omega) (by omega) ?_ (by have := hu3'.size; simp; omega)
            intro g1 c1 w1 ho1 hg1 hat1
            have hgu : ∀ k, (Value.slice Aa xs.length ca).ownBlock = some k → g + 1 ≤ k := fun k hk => (World.ownsRow.lt HO.out k hk).1
            have bg := (b3'.alloc (.cells #[.int .i64 (uz z)] 2)).grown hg1 (fun e => by have := hgu _ e.symm; omega)
            have dg := box bg
            have fg := bg.free 3
            refine hK.out _ _ (trivial) (fun hS => ?_)
            clear hK K
            try simp only [Act.put, List.setIfInBounds_toArray, List.set_cons_zero, List.set_cons_succ]
            refine rg_at 6 (by decide) (fun oi hoi => ?_)
            have ho2 := hoi; simp only [List.getElem?_toArray, List.getElem?_cons_succ, List.getElem?_cons_zero, Option.some.injEq] at ho2; subst ho2
            refine rg_take (v := ?_) 6 hoi (by kernel_rfl) (by kernel_rfl) (by kernel_rfl) (fun _ _ _ h => h) (by rfl) ?_ hS ?_
            rotate_left
            · intro w _; go_simp; try with_reducible rfl
            clear hoi; try simp only [Act.put, List.setIfInBounds_toArray, List.set_cons_zero, List.set_cons_succ]
            refine rg_at 7 (by decide) (fun oi hoi => ?_)
            have ho2 := hoi; simp only [List.getElem?_toArray, List.getElem?_cons_succ, List.getElem?_cons_zero, Option.some.injEq] at ho2; subst ho2
            refine rg_call 7 (by kernel_rfl) hoi (by rfl) (fun K hK => ?_)
            clear hoi
            skip
            go_simp
            refine hK.out _ _ (trivial) (fun hS => ?_)
            clear hK K
            try simp only [Act.put, List.setIfInBounds_toArray, List.set_cons_zero, List.set_cons_succ]
            refine wpAnyH_done (by kernel_rfl) ?_ _
            have hRes : Hid (Tir w g w.heap.size F p (strOfNums t) n (uz k) r4 false (j + 1) (w1.setCell ⟨g, 3, none⟩ (.slice (some ⟨g1, 0, none⟩) (xs.length + 1) c1))) := hid (by
            have U := ((((Upd.refl (fun k => g ≤ k) w3).alloc (.cells #[.int .i64 (uz z)] 2)).grown hg1 (fun k hk => .inl (by have := hgu k hk; omega))).set (p := ⟨g, 3, none⟩) (.inl (Nat.le_refl _)) (.slice (some ⟨g1, 0, none⟩) (xs.length + 1) c1))
            have V := (((hu.next hu3').alloc (.cells #[.int .i64 (uz z)] 2)).grown hg1 (fun k hk => .inr (by have := hgu k hk; omega))).set (p := ⟨g, 3, none⟩) (.inr (Nat.le_of_lt hwg)) (.slice (some ⟨g1, 0, none⟩) (xs.length + 1) c1)
            have P := bg.put 3 (.slice (some ⟨g1, 0, none⟩) (xs.length + 1) c1)
            unfold Tir
            rw [HN.out]
            refine ⟨.slice (some ⟨g1, 0, none⟩) (xs.length + 1) c1, A3, c3, (HT.out.upd hu3' hne).upd U (by show ¬ g ≤ w.heap.size; omega), by simpa using P, ?_, h3.keep U (fun k hk e => by have := hFg k hk; omega), V⟩
            rw [nums_append, List.length_append]
            exact own_upd ho1 ((Upd.refl (fun k => k = g) w1).set1 3 _) (fun k hk e => by have := (World.ownsRow.lt ho1 k hk).1; omega))
            go_wp2
            go_roundw
            case rel => exact ⟨j + 1, by omega, by go_num, hRes⟩
            case measure => simp [intOf]; omega
          · refine rg_op_at 3 (by decide) (fun oi hoi => ?_)
            have ho2 := hoi; simp only [List.getElem?_toArray, List.getElem?_cons_succ, List.getElem?_cons_zero, Option.some.injEq] at ho2; subst ho2
            refine rg_step 3 hoi (by rfl) (fun K hK => ?_)
            clear hoi
            go_simp
            refine (int_eq (w := wr.drew) (HR.out.keep (Upd.drew (Upd.refl No wr)) (fun k _ => no_ k)) HZ.out rfl).mono ?_
            rintro e w3 ⟨rfl, A3, c3, h3, hu3⟩
            have hu3' := Upd.of_drew hu3
            have b3' := hb.upd hu3' hnp
            have d3 := box b3'
            have e3 : ∀ o, (w3.alloc o).cell? ⟨g, 3, none⟩ = some (.slice Aa xs.length ca) := fun o => (box (b3'.alloc o)).2.2.2
            go_wp2_with (fail)
            refine hK.out _ _ (trivial) (fun hS => ?_)
            clear hK K
            try simp only [Act.put, List.setIfInBounds_toArray, List.set_cons_zero, List.set_cons_succ]
            refine rg_two 1 4 (by kernel_rfl) ?_ ?_
            · refine rg_op_at 1 (by decide) (fun oi hoi => ?_)
              have ho2 := hoi; simp only [List.getElem?_toArray, List.getElem?_cons_succ, List.getElem?_cons_zero, Option.some.injEq] at ho2; subst ho2
              refine rg_step 1 hoi (by rfl) (fun K hK => ?_)
              clear hoi
              skip
              go_simp
              refine hK.out _ _ (trivial) (fun hS => ?_)
              clear hK K
              try simp only [Act.put, List.setIfInBounds_toArray, List.set_cons_zero, List.set_cons_succ]
              refine rg_at 4 (by decide) (fun oi hoi => ?_)
              have ho2 := hoi; simp only [List.getElem?_toArray, List.getElem?_cons_succ, List.getElem?_cons_zero, Option.some.injEq] at ho2; subst ho2
              refine rg_call 4 (by kernel_rfl) hoi (by rfl) (fun K hK => ?_)
              clear hoi
              skip
              go_simp
              refine hK.out _ _ (trivial) (fun hS => ?_)
              clear hK K
              try simp only [Act.put, List.setIfInBounds_toArray, List.set_cons_zero, List.set_cons_succ]
              refine rg_at 5 (by decide) (fun oi hoi => ?_)
              have ho2 := hoi; simp only [List.getElem?_toArray, List.getElem?_cons_succ, List.getElem?_cons_zero, Option.some.injEq] at ho2; subst ho2
              refine rg_call 5 (by kernel_rfl) hoi (by rfl) (fun K hK => ?_)
              clear hoi
              refine wp_ap_one (base := g + 1) (.tmp 28) (.tmp 31) 22 2 (.int .i64 0) 8 (by rfl) Try.underlying22 i64_info rfl (.slice Aa xs.length ca) xs.length (nums .i64 xs) (.int .i64 (uz z)) (by rfl) (by rfl) (Blk.fresh w3 _ _) rfl (own_upd HO.out (hu3'.alloc _) (fun k hk e => by have := (World.ownsRow.lt HO.out k hk).1; omega)) (by omega) (by omega) ?_ (by have := hu3'.size; simp; omega)
              intro g1 c1 w1 ho1 hg1 hat1
              have hgu : ∀ k, (Value.slice Aa xs.length ca).ownBlock = some k → g + 1 ≤ k := fun k hk => (World.ownsRow.lt HO.out k hk).1
              have bg := (b3'.alloc (.cells #[.int .i64 (uz z)] 2)).grown hg1 (fun e => by have := hgu _ e.symm; omega)
              have dg := box bg
              have fg := bg.free 3
              refine hK.out _ _ (trivial) (fun hS => ?_)
              clear hK K
              try simp only [Act.put, List.setIfInBounds_toArray, List.set_cons_zero, List.set_cons_succ]
              refine rg_at 6 (by decide) (fun oi hoi => ?_)
              have ho2 := hoi; simp only [List.getElem?_toArray, List.getElem?_cons_succ, List.getElem?_cons_zero, Option.some.injEq] at ho2; subst ho2
              refine rg_take (v := ?_) 6 hoi (by kernel_rfl) (by kernel_rfl) (by kernel_rfl) (fun _ _ _ h => h) (by rfl) ?_ hS ?_
              rotate_left
              · intro w _; go_simp; try with_reducible rfl
              clear hoi; try simp only [Act.put, List.setIfInBounds_toArray, List.set_cons_zero, List.set_cons_succ]
              refine rg_at 7 (by decide) (fun oi hoi => ?_)
              have ho2 := hoi; simp only [List.getElem?_toArray, List.getElem?_cons_succ, List.getElem?_cons_zero, Option.some.injEq] at ho2; subst ho2
              refine rg_call 7 (by kernel_rfl) hoi (by rfl) (fun K hK => ?_)
              clear hoi
              skip
              go_simp
              refine hK.out _ _ (trivial) (fun hS => ?_)
              clear hK K
              try simp only [Act.put, List.setIfInBounds_toArray, List.set_cons_zero, List.set_cons_succ]
              refine wpAnyH_done (by kernel_rfl) ?_ _
              have hRes : Hid (Tir w g w.heap.size F p (strOfNums t) n (uz k) r4 false (j + 1) (w1.setCell ⟨g, 3, none⟩ (.slice (some ⟨g1, 0, none⟩) (xs.length + 1) c1))) := hid (by
              have U := ((((Upd.refl (fun k => g ≤ k) w3).alloc (.cells #[.int .i64 (uz z)] 2)).grown hg1 (fun k hk => .inl (by have := hgu k hk; omega))).set (p := ⟨g, 3, none⟩) (.inl (Nat.le_refl _)) (.slice (some ⟨g1, 0, none⟩) (xs.length + 1) c1))
              have V := (((hu.next hu3').alloc (.cells #[.int .i64 (uz z)] 2)).grown hg1 (fun k hk => .inr (by have := hgu k hk; omega))).set (p := ⟨g, 3, none⟩) (.inr (Nat.le_of_lt hwg)) (.slice (some ⟨g1, 0, none⟩) (xs.length + 1) c1)
              have P := bg.put 3 (.slice (some ⟨g1, 0, none⟩) (xs.length + 1) c1)
              unfold Tir
              rw [HN.out]
              refine ⟨.slice (some ⟨g1, 0, none⟩) (xs.length + 1) c1, A3, c3, (HT.out.upd hu3' hne).upd U (by show ¬ g ≤ w.heap.size; omega), by simpa using P, ?_, h3.keep U (fun k hk e => by have := hFg k hk; omega), V⟩
              rw [nums_append, List.length_append]
              exact own_upd ho1 ((Upd.refl (fun k => k = g) w1).set1 3 _) (fun k hk e => by have := (World.ownsRow.lt ho1 k hk).1; omega))
              go_wp2
              go_roundw
              case rel => exact ⟨j + 1, by omega, by go_num, hRes⟩
              case measure => simp [intOf]; omega
            · refine rg_op_at 4 (by decide) (fun oi hoi => ?_)
              have ho2 := hoi; simp only [List.getElem?_toArray, List.getElem?_cons_succ, List.getElem?_cons_zero, Option.some.injEq] at ho2; subst ho2
              refine rg_step 4 hoi (by rfl) (fun K hK => ?_)
              clear hoi
              skip
              go_simp
              refine hK.out _ _ (trivial) (fun hS => ?_)
              clear hK K
              try simp only [Act.put, List.setIfInBounds_toArray, List.set_cons_zero, List.set_cons_succ]
              refine rg_at 1 (by decide) (fun oi hoi => ?_)
              have ho2 := hoi; simp only [List.getElem?_toArray, List.getElem?_cons_succ, List.getElem?_cons_zero, Option.some.injEq] at ho2; subst ho2
              refine rg_call 1 (by kernel_rfl) hoi (by rfl) (fun K hK => ?_)
              clear hoi
              skip
              go_simp
              refine hK.out _ _ (trivial) (fun hS => ?_)
              clear hK K
              try simp only [Act.put, List.setIfInBounds_toArray, List.set_cons_zero, List.set_cons_succ]
              refine rg_at 5 (by decide) (fun oi hoi => ?_)
              have ho2 := hoi; simp only [List.getElem?_toArray, List.getElem?_cons_succ, List.getElem?_cons_zero, Option.some.injEq] at ho2; subst ho2
              refine rg_call 5 (by kernel_rfl) hoi (by rfl) (fun K hK => ?_)
              clear hoi
              refine wp_ap_one (base := g + 1) (.tmp 28) (.tmp 31) 22 2 (.int .i64 0) 8 (by rfl) Try.underlying22 i64_info rfl (.slice Aa xs.length ca) xs.length (nums .i64 xs) (.int .i64 (uz z)) (by rfl) (by rfl) (Blk.fresh w3 _ _) rfl (own_upd HO.out (hu3'.alloc _) (fun k hk e => by have := (World.ownsRow.lt HO.out k hk).1; omega)) (by omega) (by omega) ?_ (by have := hu3'.size; simp; omega)
              intro g1 c1 w1 ho1 hg1 hat1
              have hgu : ∀ k, (Value.slice Aa xs.length ca).ownBlock = some k → g + 1 ≤ k := fun k hk => (World.ownsRow.lt HO.out k hk).1
              have bg := (b3'.alloc (.cells #[.int .i64 (uz z)] 2)).grown hg1 (fun e => by have := hgu _ e.symm; omega)
              have dg := box bg
              have fg := bg.free 3
              refine hK.out _ _ (trivial) (fun hS => ?_)
              clear hK K
              try simp only [Act.put, List.setIfInBounds_toArray, List.set_cons_zero, List.set_cons_succ]
              refine rg_at 6 (by decide) (fun oi hoi => ?_)
              have ho2 := hoi; simp only [List.getElem?_toArray, List.getElem?_cons_succ, List.getElem?_cons_zero, Option.some.injEq] at ho2; subst ho2
              refine rg_take (v := ?_) 6 hoi (by kernel_rfl) (by kernel_rfl) (by kernel_rfl) (fun _ _ _ h => h) (by rfl) ?_ hS ?_
              rotate_left
              · intro w _; go_simp; try with_reducible rfl
              clear hoi; try simp only [Act.put, List.setIfInBounds_toArray, List.set_cons_zero, List.set_cons_succ]
              refine rg_at 7 (by decide) (fun oi hoi => ?_)
              have ho2 := hoi; simp only [List.getElem?_toArray, List.getElem?_cons_succ, List.getElem?_cons_zero, Option.some.injEq] at ho2; subst ho2
              refine rg_call 7 (by kernel_rfl) hoi (by rfl) (fun K hK => ?_)
              clear hoi
              skip
              go_simp
              refine hK.out _ _ (trivial) (fun hS => ?_)
              clear hK K
              try simp only [Act.put, List.setIfInBounds_toArray, List.set_cons_zero, List.set_cons_succ]
              refine wpAnyH_done (by kernel_rfl) ?_ _
              have hRes : Hid (Tir w g w.heap.size F p (strOfNums t) n (uz k) r4 false (j + 1) (w1.setCell ⟨g, 3, none⟩ (.slice (some ⟨g1, 0, none⟩) (xs.length + 1) c1))) := hid (by
              have U := ((((Upd.refl (fun k => g ≤ k) w3).alloc (.cells #[.int .i64 (uz z)] 2)).grown hg1 (fun k hk => .inl (by have := hgu k hk; omega))).set (p := ⟨g, 3, none⟩) (.inl (Nat.le_refl _)) (.slice (some ⟨g1, 0, none⟩) (xs.length + 1) c1))
              have V := (((hu.next hu3').alloc (.cells #[.int .i64 (uz z)] 2)).grown hg1 (fun k hk => .inr (by have := hgu k hk; omega))).set (p := ⟨g, 3, none⟩) (.inr (Nat.le_of_lt hwg)) (.slice (some ⟨g1, 0, none⟩) (xs.length + 1) c1)
              have P := bg.put 3 (.slice (some ⟨g1, 0, none⟩) (xs.length + 1) c1)
              unfold Tir
              rw [HN.out]
              refine ⟨.slice (some ⟨g1, 0, none⟩) (xs.length + 1) c1, A3, c3, (HT.out.upd hu3' hne).upd U (by show ¬ g ≤ w.heap.size; omega), by simpa using P, ?_, h3.keep U (fun k hk e => by have := hFg k hk; omega), V⟩
              rw [nums_append, List.length_append]
              exact own_upd ho1 ((Upd.refl (fun k => k = g) w1).set1 3 _) (fun k hk e => by have := (World.ownsRow.lt ho1 k hk).1; omega))
              go_wp2
              go_roundw
              case rel => exact ⟨j + 1, by omega, by go_num, hRes⟩
              case measure => simp [intOf]; omega
        · obtain rfl : j = mm := by omega
          clear hH
          have HO := hid ho
          generalize tk r4 false j = q at *
          obtain ⟨xs, rr, bb⟩ := q
          simp only at hbt hb ho hr htl HO hout'
          have hxl : xs.length ≤ 4 := by omega
          have hIn : In wr.drew (strOfNums t, n, uz k, xs) (.slice Aa xs.length ca) := by
            obtain ⟨_, _, he, q1, q2⟩ := Sl.shape (Sl.of_own HO.out)
            simp only [Value.slice.injEq, true_and] at he
            obtain ⟨_, rfl⟩ := he
            exact ⟨Aa, ca, rfl, Rd.of_own HO.out, q1, q2⟩
          have HF := hid (Ir.rformed_ (strOfNums t, n, uz k, xs) (.slice Aa xs.length ca) wr.drew hIn)
          unfold val at HF
          simp only at HF
          have HIn := hid hIn
          have hle := Nat.le_refl w.heap.size
          have hpu := fun W => put4_upd W w.heap.size (strOfNums t, n, uz k, xs) (.slice Aa xs.length ca)
          have hgo : ∀ k, (Value.slice Aa xs.length ca).ownBlock = some k → ¬ k = w.heap.size := fun k hk e => by have := (HO.out.lt k hk).1; omega
          have HGo : Hid (∀ k, (Value.slice Aa xs.length ca).ownBlock = some k → w.heap.size ≤ k) := hid fun k hk => by have := (HO.out.lt k hk).1; omega
          have hng : ¬ g = w.heap.size := by omega
          have hnq : ¬ p = w.heap.size := fun e => hne e.symm
          clear hIn htl ho
          rcases bb with _ | _
          · have HT : Hid (takeL l bd = ((if formed (strOfNums t, n, uz k, xs) then (strOfNums t, n, uz k, xs) else zero), rr, false, formed (strOfNums t, n, uz k, xs))) := hid (by
              rw [hout'.out]
              rcases formed (strOfNums t, n, uz k, xs) with _ | _ <;> rfl)
            generalize hfo : formed (strOfNums t, n, uz k, xs) = fo at *
            clear hfo hout'
            go_wp2_with (fail)
            refine wp_region_held_drew (S := fun W => Blk W g 30 #[.string (strOfNums t), .int .u64 n, .int .i64 (uz k), .slice Aa xs.length ca] ∧ Blk W p 83 #[.slice A9 rr.length c9, .bool false]) (by kernel_rfl) ⟨hb.drew, hr.blk.drew⟩ (fun hS => ?_)
            refine rg_at 0 (by decide) (fun oi hoi => ?_)
            have ho2 := hoi; simp only [List.getElem?_toArray, List.getElem?_cons_succ, List.getElem?_cons_zero, Option.some.injEq] at ho2; subst ho2
            refine rg_take (v := ?_) 0 hoi (by kernel_rfl) (by kernel_rfl) (by kernel_rfl) (fun _ _ _ h => h) (by rfl) ?_ hS ?_
            rotate_left
            · intro w hw; have hf := box hw.1; clear hw; go_simp; try with_reducible rfl
            clear hoi; try simp only [Act.put, List.setIfInBounds_toArray, List.set_cons_zero, List.set_cons_succ]
            refine rg_at 1 (by decide) (fun oi hoi => ?_)
            have ho2 := hoi; simp only [List.getElem?_toArray, List.getElem?_cons_succ, List.getElem?_cons_zero, Option.some.injEq] at ho2; subst ho2
            refine rg_take (v := ?_) 1 hoi (by kernel_rfl) (by kernel_rfl) (by kernel_rfl) (fun _ _ _ h => h) (by rfl) ?_ hS ?_
            rotate_left
            · intro w _; go_simp; try with_reducible rfl
            clear hoi; try simp only [Act.put, List.setIfInBounds_toArray, List.set_cons_zero, List.set_cons_succ]
            refine rg_at 2 (by decide) (fun oi hoi => ?_)
            have ho2 := hoi; simp only [List.getElem?_toArray, List.getElem?_cons_succ, List.getElem?_cons_zero, Option.some.injEq] at ho2; subst ho2
            refine rg_take (v := ?_) 2 hoi (by kernel_rfl) (by kernel_rfl) (by kernel_rfl) (fun _ _ _ h => h) (by rfl) ?_ hS ?_
            rotate_left
            · intro w _; go_simp; try with_reducible rfl
            clear hoi; try simp only [Act.put, List.setIfInBounds_toArray, List.set_cons_zero, List.set_cons_succ]
            refine rg_at 3 (by decide) (fun oi hoi => ?_)
            have ho2 := hoi; simp only [List.getElem?_toArray, List.getElem?_cons_succ, List.getElem?_cons_zero, Option.some.injEq] at ho2; subst ho2
            refine rg_take (v := ?_) 3 hoi (by kernel_rfl) (by kernel_rfl) (by kernel_rfl) (fun _ _ _ h => h) (by rfl) ?_ hS ?_
            rotate_left
            · intro w _; go_simp; try with_reducible rfl
            clear hoi; try simp only [Act.put, List.setIfInBounds_toArray, List.set_cons_zero, List.set_cons_succ]
            refine rg_at 4 (by decide) (fun oi hoi => ?_)
            have ho2 := hoi; simp only [List.getElem?_toArray, List.getElem?_cons_succ, List.getElem?_cons_zero, Option.some.injEq] at ho2; subst ho2
            refine rg_take (v := ?_) 4 hoi (by kernel_rfl) (by kernel_rfl) (by kernel_rfl) (fun _ _ _ h => h) (by rfl) ?_ hS ?_
            rotate_left
            · intro w hw; have hf := (two hw.2).2; clear hw; go_simp; try with_reducible rfl
            clear hoi; try simp only [Act.put, List.setIfInBounds_toArray, List.set_cons_zero, List.set_cons_succ]
            refine rg_at 5 (by decide) (fun oi hoi => ?_)
            have ho2 := hoi; simp only [List.getElem?_toArray, List.getElem?_cons_succ, List.getElem?_cons_zero, Option.some.injEq] at ho2; subst ho2
            refine rg_take (v := ?_) 5 hoi (by kernel_rfl) (by kernel_rfl) (by kernel_rfl) (fun _ _ _ h => h) (by rfl) ?_ hS ?_
            rotate_left
            · intro w _; go_simp; try with_reducible rfl
            clear hoi; try simp only [Act.put, List.setIfInBounds_toArray, List.set_cons_zero, List.set_cons_succ]
            refine rg_at 6 (by decide) (fun oi hoi => ?_)
            have ho2 := hoi; simp only [List.getElem?_toArray, List.getElem?_cons_succ, List.getElem?_cons_zero, Option.some.injEq] at ho2; subst ho2
            refine rg_take (v := ?_) 6 hoi (by kernel_rfl) (by kernel_rfl) (by kernel_rfl) (fun _ _ _ h => h) (by rfl) ?_ hS ?_
            rotate_left
            · intro w _; go_simp; try with_reducible rfl
            clear hoi; try simp only [Act.put, List.setIfInBounds_toArray, List.set_cons_zero, List.set_cons_succ]
            refine rg_at 7 (by decide) (fun oi hoi => ?_)
            have ho2 := hoi; simp only [List.getElem?_toArray, List.getElem?_cons_succ, List.getElem?_cons_zero, Option.some.injEq] at ho2; subst ho2
            refine rg_take (v := ?_) 7 hoi (by kernel_rfl) (by kernel_rfl) (by kernel_rfl) (fun _ _ _ h => h) (by rfl) ?_ hS ?_
            rotate_left
            · intro w hw; have hf := box hw.1; clear hw; go_simp; try with_reducible rfl
            clear hoi; try simp only [Act.put, List.setIfInBounds_toArray, List.set_cons_zero, List.set_cons_succ]
            refine rg_at 8 (by decide) (fun oi hoi => ?_)
            have ho2 := hoi; simp only [List.getElem?_toArray, List.getElem?_cons_succ, List.getElem?_cons_zero, Option.some.injEq] at ho2; subst ho2
            refine rg_call 8 (by kernel_rfl) hoi (by rfl) (fun K hK => ?_)
            clear hoi
            go_simp
            refine HF.out.mono ?_
            rintro e w10 ⟨rfl, hu10⟩
            have hu10' := Upd.of_drew hu10
            have hbt10 := hbt.upd hu10' (no_ _)
            have hb10 := hb.upd hu10' (no_ _)
            have hr10 := hr.keep hu10' (fun _ _ => no_ _)
            obtain ⟨y0, y1, y2, y3⟩ := box hbt10
            have f0 := hbt10.free 0
            have f1 := hbt10.free 1
            have f2 := hbt10.free 2
            have f3 := hbt10.free 3
            have HB := hid (put4_blk hbt10 (strOfNums t, n, uz k, xs) (.slice Aa xs.length ca))
            have HU : Hid (Upd (fun k => k = p) w (put4 w10 w.heap.size (strOfNums t, n, uz k, xs) (.slice Aa xs.length ca))) := hid (((((hu.next (hu10'.mono fun _ _ h => h.elim)).set (.inr hle) _).set (.inr hle) _).set (.inr hle) _).set (.inr hle) _)
            have HR := hid (hr10.keep (hpu w10) hF)
            have HV := hid ((HIn.out.upd hu10 (fun _ _ => no_ _)).upd (hpu w10) hgo)
            have HVB : Hid (∀ k', (Value.slice Aa xs.length ca).ownBlock = some k' → ∃ cs, Blk (put4 w10 w.heap.size (strOfNums t, n, uz k, xs) (.slice Aa xs.length ca)) k' 2 cs) := hid fun k' hk' => (Sl.blk (Sl.of_own HO.out) hk').elim fun cs h => ⟨cs, (h.upd hu10' (no_ _)).upd (hpu w10) (hgo k' hk')⟩
            go_wp2_with (fail)
            refine hK.out _ _ (⟨hb10, hr10.blk⟩) (fun hS => ?_)
            clear hK K
            try simp only [Act.put, List.setIfInBounds_toArray, List.set_cons_zero, List.set_cons_succ]
            refine rg_at 9 (by decide) (fun oi hoi => ?_)
            have ho2 := hoi; simp only [List.getElem?_toArray, List.getElem?_cons_succ, List.getElem?_cons_zero, Option.some.injEq] at ho2; subst ho2
            refine rg_take (v := ?_) 9 hoi (by kernel_rfl) (by kernel_rfl) (by kernel_rfl) (fun _ _ _ h => h) (by rfl) ?_ hS ?_
            rotate_left
            · intro w _; go_simp; try with_reducible rfl
            clear hoi; try simp only [Act.put, List.setIfInBounds_toArray, List.set_cons_zero, List.set_cons_succ]
            refine rg_at 10 (by decide) (fun oi hoi => ?_)
            have ho2 := hoi; simp only [List.getElem?_toArray, List.getElem?_cons_succ, List.getElem?_cons_zero, Option.some.injEq] at ho2; subst ho2
            refine rg_call 10 (by kernel_rfl) hoi (by rfl) (fun K hK => ?_)
            clear hoi
            skip
            go_simp
            refine hK.out _ _ (⟨hb10.upd (hpu w10) hng, hr10.blk.upd (hpu w10) hnq⟩) (fun hS => ?_)
            clear hK K
            try simp only [Act.put, List.setIfInBounds_toArray, List.set_cons_zero, List.set_cons_succ]
            refine rg_at 11 (by decide) (fun oi hoi => ?_)
            have ho2 := hoi; simp only [List.getElem?_toArray, List.getElem?_cons_succ, List.getElem?_cons_zero, Option.some.injEq] at ho2; subst ho2
            refine rg_take (v := ?_) 11 hoi (by kernel_rfl) (by kernel_rfl) (by kernel_rfl) (fun _ _ _ h => h) (by rfl) ?_ hS ?_
            rotate_left
            · intro w _; go_simp; try with_reducible rfl
            clear hoi; try simp only [Act.put, List.setIfInBounds_toArray, List.set_cons_zero, List.set_cons_succ]
            refine wpAnyH_done (by kernel_rfl) ?_ _
            clear hbt10 hb10 hr10 hu10 hu10' hS y0 y1 y2 y3 f0 f1 f2 f3
            go_wp2
            simp only [put4] at HB HU HR HV HVB
            generalize (((w10.setCell ⟨w.heap.size, 0, none⟩ (.string (strOfNums t))).setCell ⟨w.heap.size, 1, none⟩ (.int .u64 n)).setCell ⟨w.heap.size, 2, none⟩ (.int .i64 (uz k))).setCell ⟨w.heap.size, 3, none⟩ (.slice Aa xs.length ca) = W5 at *
            obtain ⟨q0, q1, q2, q3⟩ := box HB.out
            exact bodyPost_ret (v := .tuple #[val (strOfNums t, n, uz k, xs) (.slice Aa xs.length ca), .bool fo]) (by simp [results, go_sem, q0, q1, q2, q3, val]) rfl (by rw [HT.out]; exact .of ⟨_, _, _, _, rfl, fun h => by subst h; rfl, ⟨HV.out, fun k hk => ⟨HGo.out k hk, HVB.out k hk⟩⟩, HR.out, HU.out⟩)
          · have HT : Hid (takeL l bd = (zero, rr, true, false)) := hid (by rw [hout'.out]; rfl)
            clear hout'
            obtain ⟨y0, y1, y2, y3⟩ := box hbt
            have f0 := hbt.free 0
            have f1 := hbt.free 1
            have f2 := hbt.free 2
            have f3 := hbt.free 3
            have HB := hid (put4_blk hbt (strOfNums t, n, uz k, xs) (.slice Aa xs.length ca)).drew
            have HU : Hid (Upd (fun k => k = p) w (put4 wr w.heap.size (strOfNums t, n, uz k, xs) (.slice Aa xs.length ca)).drew) := hid ((((hu.set (.inr hle) _).set (.inr hle) _).set (.inr hle) _).set (.inr hle) _).drew
            have HR := hid (hr.keep (hpu wr).drew hF)
            have HV := hid ((show In wr _ _ from HIn.out).upd (hpu wr).drew hgo)
            have HVB : Hid (∀ k', (Value.slice Aa xs.length ca).ownBlock = some k' → ∃ cs, Blk (put4 wr w.heap.size (strOfNums t, n, uz k, xs) (.slice Aa xs.length ca)).drew k' 2 cs) := hid fun k' hk' => (Sl.blk (Sl.of_own HO.out) hk').elim fun cs h => ⟨cs, h.upd (hpu wr).drew (hgo k' hk')⟩
            go_wp2_with (fail)
            refine wp_region_held_drew (S := fun W => Blk W g 30 #[.string (strOfNums t), .int .u64 n, .int .i64 (uz k), .slice Aa xs.length ca] ∧ Blk W p 83 #[.slice A9 rr.length c9, .bool true]) (by kernel_rfl) ⟨hb.drew, hr.blk.drew⟩ (fun hS => ?_)
            refine rg_at 0 (by decide) (fun oi hoi => ?_)
            have ho2 := hoi; simp only [List.getElem?_toArray, List.getElem?_cons_succ, List.getElem?_cons_zero, Option.some.injEq] at ho2; subst ho2
            refine rg_take (v := ?_) 0 hoi (by kernel_rfl) (by kernel_rfl) (by kernel_rfl) (fun _ _ _ h => h) (by rfl) ?_ hS ?_
            rotate_left
            · intro w hw; have hf := box hw.1; clear hw; go_simp; try with_reducible rfl
            clear hoi; try simp only [Act.put, List.setIfInBounds_toArray, List.set_cons_zero, List.set_cons_succ]
            refine rg_at 1 (by decide) (fun oi hoi => ?_)
            have ho2 := hoi; simp only [List.getElem?_toArray, List.getElem?_cons_succ, List.getElem?_cons_zero, Option.some.injEq] at ho2; subst ho2
            refine rg_take (v := ?_) 1 hoi (by kernel_rfl) (by kernel_rfl) (by kernel_rfl) (fun _ _ _ h => h) (by rfl) ?_ hS ?_
            rotate_left
            · intro w _; go_simp; try with_reducible rfl
            clear hoi; try simp only [Act.put, List.setIfInBounds_toArray, List.set_cons_zero, List.set_cons_succ]
            refine rg_at 2 (by decide) (fun oi hoi => ?_)
            have ho2 := hoi; simp only [List.getElem?_toArray, List.getElem?_cons_succ, List.getElem?_cons_zero, Option.some.injEq] at ho2; subst ho2
            refine rg_take (v := ?_) 2 hoi (by kernel_rfl) (by kernel_rfl) (by kernel_rfl) (fun _ _ _ h => h) (by rfl) ?_ hS ?_
            rotate_left
            · intro w _; go_simp; try with_reducible rfl
            clear hoi; try simp only [Act.put, List.setIfInBounds_toArray, List.set_cons_zero, List.set_cons_succ]
            refine rg_at 3 (by decide) (fun oi hoi => ?_)
            have ho2 := hoi; simp only [List.getElem?_toArray, List.getElem?_cons_succ, List.getElem?_cons_zero, Option.some.injEq] at ho2; subst ho2
            refine rg_take (v := ?_) 3 hoi (by kernel_rfl) (by kernel_rfl) (by kernel_rfl) (fun _ _ _ h => h) (by rfl) ?_ hS ?_
            rotate_left
            · intro w _; go_simp; try with_reducible rfl
            clear hoi; try simp only [Act.put, List.setIfInBounds_toArray, List.set_cons_zero, List.set_cons_succ]
            refine rg_at 4 (by decide) (fun oi hoi => ?_)
            have ho2 := hoi; simp only [List.getElem?_toArray, List.getElem?_cons_succ, List.getElem?_cons_zero, Option.some.injEq] at ho2; subst ho2
            refine rg_take (v := ?_) 4 hoi (by kernel_rfl) (by kernel_rfl) (by kernel_rfl) (fun _ _ _ h => h) (by rfl) ?_ hS ?_
            rotate_left
            · intro w hw; have hf := (two hw.2).2; clear hw; go_simp; try with_reducible rfl
            clear hoi; try simp only [Act.put, List.setIfInBounds_toArray, List.set_cons_zero, List.set_cons_succ]
            refine rg_at 5 (by decide) (fun oi hoi => ?_)
            have ho2 := hoi; simp only [List.getElem?_toArray, List.getElem?_cons_succ, List.getElem?_cons_zero, Option.some.injEq] at ho2; subst ho2
            refine rg_take (v := ?_) 5 hoi (by kernel_rfl) (by kernel_rfl) (by kernel_rfl) (fun _ _ _ h => h) (by rfl) ?_ hS ?_
            rotate_left
            · intro w _; go_simp; try with_reducible rfl
            clear hoi; try simp only [Act.put, List.setIfInBounds_toArray, List.set_cons_zero, List.set_cons_succ]
            refine rg_at 6 (by decide) (fun oi hoi => ?_)
            have ho2 := hoi; simp only [List.getElem?_toArray, List.getElem?_cons_succ, List.getElem?_cons_zero, Option.some.injEq] at ho2; subst ho2
            refine rg_take (v := ?_) 6 hoi (by kernel_rfl) (by kernel_rfl) (by kernel_rfl) (fun _ _ _ h => h) (by rfl) ?_ hS ?_
            rotate_left
            · intro w _; go_simp; try with_reducible rfl
            clear hoi; try simp only [Act.put, List.setIfInBounds_toArray, List.set_cons_zero, List.set_cons_succ]
            refine rg_at 7 (by decide) (fun oi hoi => ?_)
            have ho2 := hoi; simp only [List.getElem?_toArray, List.getElem?_cons_succ, List.getElem?_cons_zero, Option.some.injEq] at ho2; subst ho2
            refine rg_skip 7 hoi (by kernel_rfl) (by kernel_rfl) (by kernel_rfl) (fun _ _ _ h => h) (by rfl) hS ?_
            clear hoi; try simp only [Act.put, List.setIfInBounds_toArray, List.set_cons_zero, List.set_cons_succ]
            refine rg_at 8 (by decide) (fun oi hoi => ?_)
            have ho2 := hoi; simp only [List.getElem?_toArray, List.getElem?_cons_succ, List.getElem?_cons_zero, Option.some.injEq] at ho2; subst ho2
            refine rg_skip 8 hoi (by kernel_rfl) (by kernel_rfl) (by kernel_rfl) (fun _ _ _ h => h) (by rfl) hS ?_
            clear hoi; try simp only [Act.put, List.setIfInBounds_toArray, List.set_cons_zero, List.set_cons_succ]
            refine rg_at 9 (by decide) (fun oi hoi => ?_)
            have ho2 := hoi; simp only [List.getElem?_toArray, List.getElem?_cons_succ, List.getElem?_cons_zero, Option.some.injEq] at ho2; subst ho2
            refine rg_take (v := ?_) 9 hoi (by kernel_rfl) (by kernel_rfl) (by kernel_rfl) (fun _ _ _ h => h) (by rfl) ?_ hS ?_
            rotate_left
            · intro w _; go_simp; try with_reducible rfl
            clear hoi; try simp only [Act.put, List.setIfInBounds_toArray, List.set_cons_zero, List.set_cons_succ]
            refine rg_at 10 (by decide) (fun oi hoi => ?_)
            have ho2 := hoi; simp only [List.getElem?_toArray, List.getElem?_cons_succ, List.getElem?_cons_zero, Option.some.injEq] at ho2; subst ho2
            refine rg_call 10 (by kernel_rfl) hoi (by rfl) (fun K hK => ?_)
            clear hoi
            skip
            go_simp
            refine hK.out _ _ (⟨hb.drew.upd (hpu wr.drew) hng, hr.blk.drew.upd (hpu wr.drew) hnq⟩) (fun hS => ?_)
            clear hK K
            try simp only [Act.put, List.setIfInBounds_toArray, List.set_cons_zero, List.set_cons_succ]
            refine rg_at 11 (by decide) (fun oi hoi => ?_)
            have ho2 := hoi; simp only [List.getElem?_toArray, List.getElem?_cons_succ, List.getElem?_cons_zero, Option.some.injEq] at ho2; subst ho2
            refine rg_take (v := ?_) 11 hoi (by kernel_rfl) (by kernel_rfl) (by kernel_rfl) (fun _ _ _ h => h) (by rfl) ?_ hS ?_
            rotate_left
            · intro w _; go_simp; try with_reducible rfl
            clear hoi; try simp only [Act.put, List.setIfInBounds_toArray, List.set_cons_zero, List.set_cons_succ]
            refine wpAnyH_done (by kernel_rfl) ?_ _
            clear hS y0 y1 y2 y3 f0 f1 f2 f3 hb hbt hr hu
            go_wp2
            simp only [put4] at HB HU HR HV HVB
            generalize ((((wr.setCell ⟨w.heap.size, 0, none⟩ (.string (strOfNums t))).setCell ⟨w.heap.size, 1, none⟩ (.int .u64 n)).setCell ⟨w.heap.size, 2, none⟩ (.int .i64 (uz k))).setCell ⟨w.heap.size, 3, none⟩ (.slice Aa xs.length ca)).drew = W5 at *
            obtain ⟨q0, q1, q2, q3⟩ := box HB.out
            exact bodyPost_ret (v := .tuple #[val (strOfNums t, n, uz k, xs) (.slice Aa xs.length ca), .bool false]) (by simp [results, go_sem, q0, q1, q2, q3, val]) rfl (by rw [HT.out]; exact .of ⟨_, _, _, _, rfl, fun h => (by cases h), ⟨HV.out, fun k hk => ⟨HGo.out k hk, HVB.out k hk⟩⟩, HR.out, HU.out⟩)
  · have hout' : Hid (takeL l bd = (zero, r4, true, false)) := hid (by
      obtain ⟨rfl, rfl⟩ := HB4.out rfl
      simp [takeL, hHD.out, tk])
    obtain ⟨y0, y1, y2, y3⟩ := box hbt8
    have f0 := hbt8.free 0
    have f1 := hbt8.free 1
    have f2 := hbt8.free 2
    have f3 := hbt8.free 3
    have hle := Nat.le_refl w.heap.size
    have HB := hid (put4_blk hbt8 zero (.slice none 0 0))
    have HU : Hid (Upd (fun k => k = p) w (put4 w8 w.heap.size zero (.slice none 0 0))) := hid ((((hu8'.set (.inr hle) _).set (.inr hle) _).set (.inr hle) _).set (.inr hle) _)
    have HR := hid (h8.keep (put4_upd w8 w.heap.size zero (.slice none 0 0)) hF)
    clear hbt8 hu8' h8
    go_wp2
    simp only [put4, zero] at HB HU HR
    generalize (((w8.setCell ⟨w.heap.size, 0, none⟩ (.string ⟨#[]⟩)).setCell ⟨w.heap.size, 1, none⟩ (.int .u64 0)).setCell ⟨w.heap.size, 2, none⟩ (.int .i64 0)).setCell ⟨w.heap.size, 3, none⟩ (.slice none 0 0) = W5 at *
    obtain ⟨q0, q1, q2, q3⟩ := box HB.out
    exact bodyPost_ret (v := .tuple #[val zero (.slice none 0 0), .bool false]) (by simp [results, go_sem, q0, q1, q2, q3, val, zero]) rfl (by rw [hout'.out]; exact .of ⟨zero, .slice none 0 0, _, _, rfl, fun _ => rfl, ⟨In.nil _, fun k hk => by simp [Value.ownBlock] at hk⟩, HR.out, HU.out⟩)
end Go.Proofs.Ytgbdpplnfcfhmaa.Lk
