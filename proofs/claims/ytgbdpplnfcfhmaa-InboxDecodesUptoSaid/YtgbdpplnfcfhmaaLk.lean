/-
  Letters out of bytes: package letter's take.
-/
import Derived.Test.YtgbdpplnfcfhmaaCf
import Derived.Test.YtgbdpplnfcfhmaaIb0
import Derived.Test.YtgbdpplnfcfhmaaRg
set_option linter.unusedVariables false
set_option linter.unusedSimpArgs false
namespace Go.Proofs.Ytgbdpplnfcfhmaa.Lk
open Go.RowKit Go.Proofs.Ytgbdpplnfcfhmaa.B Go.Proofs.Ytgbdpplnfcfhmaa.Cw Go.Proofs.Ytgbdpplnfcfhmaa.Cr Go.Proofs.Ytgbdpplnfcfhmaa.Cd Go.Proofs.Ytgbdpplnfcfhmaa.Lt Go.Proofs.Ytgbdpplnfcfhmaa.Ib
open Go.Proofs.Ytgbdpplnfcfhmaa.Cm (stN)
/-- Behind j whole numbers: them, the rest, whether it is bad. -/
def tk (l : List Int) (b : Bool) : Nat → List Int × List Int × Bool
  | 0 => ([], l, b)
  | j + 1 => ((tk l b j).1 ++ [uz (stN (tk l b j).2.1 (tk l b j).2.2).1], (stN (tk l b j).2.1 (tk l b j).2.2).2.1, (stN (tk l b j).2.1 (tk l b j).2.2).2.2)
theorem tk_length (l : List Int) (b : Bool) (j : Nat) : (tk l b j).1.length = j := by
  induction j with
  | zero => rfl
  | succ j ih => simp [tk, ih]
/-- A letter's head, its count of arguments: the text, the serial, the kind, the count, the rest, whether it is bad. -/
def hd (l : List Int) (b : Bool) : ByteArray × Int × Int × Int × List Int × Bool :=
  let t := stT l b
  let n := stN t.2.1 t.2.2
  let k := stN n.2.1 n.2.2
  let m := stN k.2.1 k.2.2
  (strOfNums t.1, n.1, uz k.1, m.1, m.2.1, m.2.2)
/-- The letter that bytes begin with: it, the rest, whether it is bad, whether it is one. -/
def takeL (l : List Int) (b : Bool) : L × List Int × Bool × Bool :=
  let h := hd l b
  if 4 < h.2.2.2.1 then (zero, h.2.2.2.2.1, h.2.2.2.2.2, false)
  else
    let a := tk h.2.2.2.2.1 h.2.2.2.2.2 h.2.2.2.1.toNat
    if a.2.2 || !formed (h.1, h.2.1, h.2.2.1, a.1) then (zero, a.2.1, a.2.2, false) else ((h.1, h.2.1, h.2.2.1, a.1), a.2.1, a.2.2, true)
/-- What take leaves. -/
def TkOut (T : TypeId) (F : Nat → Prop) (p : Nat) (q : L × List Int × Bool × Bool) (w : World) (e : Ending) (w' : World) : Prop :=
  ∃ v A c, e = .returned (.tuple #[val q.1 v, .bool q.2.2.2]) ∧ In w' q.1 v ∧ (∀ k, v.ownBlock = some k → w.heap.size ≤ k ∧ ∃ cs, Blk w' k 2 cs) ∧ Rr T w' F p A c q.2.1 q.2.2.1 ∧ Upd (fun k => k = p) w w'
theorem TkOut.of {T : TypeId} {F : Nat → Prop} {p : Nat} {q : L × List Int × Bool × Bool} {w : World} {e : Ending} {w' : World}
    (h : ∃ v A c, e = .returned (.tuple #[val q.1 v, .bool q.2.2.2]) ∧ In w' q.1 v ∧ (∀ k, v.ownBlock = some k → w.heap.size ≤ k ∧ ∃ cs, Blk w' k 2 cs) ∧ Rr T w' F p A c q.2.1 q.2.2.1 ∧ Upd (fun k => k = p) w w') : TkOut T F p q w e w' := h
/-- Behind j arguments. -/
def Tin (w : World) (F : Nat → Prop) (p : Nat) (st : ByteArray) (n kk : Int) (r : List Int) (b : Bool) (j : Nat) (W : World) : Prop :=
  ∃ va A c, Blk W w.heap.size 30 #[.string st, .int .u64 n, .int .i64 kk, va] ∧ W.ownsRow (w.heap.size + 1) 2 1 va (tk r b j).1.length (nums .i64 (tk r b j).1) ∧ Rr 91 W F p A c (tk r b j).2.1 (tk r b j).2.2 ∧ Upd (fun k => k = p) w W
set_option maxHeartbeats 4000000 in
set_option maxRecDepth 100000 in
theorem take_ (F : Nat → Prop) (p c : Nat) (A : Option Addr) (l : List Int) (bd : Bool) (w : World) (h : Rr 91 w F p A c l bd) :
    Calls Try.prog 46 #[.pointer (some ⟨p, 0, none⟩)] w (TkOut 91 F p (takeL l bd) w) := by
  have hpl := h.lt p h.here
  have hal : Upd No w (w.alloc (.cells #[.string ⟨#[]⟩, .int .u64 0, .int .i64 0, .slice none 0 0] 30)) := (Upd.refl _ _).alloc _
  have hb1 := Blk.fresh w 30 #[.string ⟨#[]⟩, .int .u64 0, .int .i64 0, .slice none 0 0]
  have h1 := h.keep hal (fun k _ => no_ k)
  obtain ⟨t, r1, b1, hs1⟩ : ∃ t r1 b1, stT l bd = (t, r1, b1) := ⟨_, _, _, rfl⟩
  obtain ⟨n, r2, b2, hs2⟩ : ∃ n r2 b2, stN r1 b1 = (n, r2, b2) := ⟨_, _, _, rfl⟩
  obtain ⟨k, r3, b3, hs3⟩ : ∃ k r3 b3, stN r2 b2 = (k, r3, b3) := ⟨_, _, _, rfl⟩
  obtain ⟨m, r4, b4, hs4⟩ : ∃ m r4 b4, stN r3 b3 = (m, r4, b4) := ⟨_, _, _, rfl⟩
  have hhd : hd l bd = (strOfNums t, n, uz k, m, r4, b4) := by simp only [hd, hs1, hs2, hs3, hs4]
  have hHD := hid hhd
  have hS1 := hid hs1
  have hS2 := hid hs2
  have hS3 := hid hs3
  have hS4 := hid hs4
  clear hhd hs1 hs2 hs3 hs4
  obtain ⟨y0, y1, y2, y3⟩ := box hb1
  go_enter Try.func46, Try.ntmps46
  go_wp2_with (fail)
  generalize w.alloc (.cells #[.string ⟨#[]⟩, .int .u64 0, .int .i64 0, .slice none 0 0] 30) = w1 at *
  refine (rtext_eq h1 hS1.out).mono ?_
  rintro e w2 ⟨rfl, A2, c2, h2, hu2⟩
  go_wp2_with (fail)
  refine (rnumber_eq h2 hS2.out).mono ?_
  rintro e w3 ⟨rfl, A3, c3, h3, hu3⟩
  go_wp2_with (fail)
  refine (rint_eq h3 hS3.out rfl).mono ?_
  rintro e w4 ⟨rfl, A4, c4, h4, hu4⟩
  have hu24 : Upd (fun k => k = p) w w4 := (((hal.mono fun _ _ h => h.elim).next hu2).next hu3).next hu4
  have hne : ¬ w.heap.size = p := by omega
  have hb4 := ((hb1.upd hu2 hne).upd hu3 hne).upd hu4 hne
  clear y0 y1 y2 y3
  obtain ⟨y0, y1, y2, y3⟩ := box hb4
  have f0 := hb4.free 0
  have f1 := hb4.free 1
  have f2 := hb4.free 2
  have hb7 := ((hb4.put 0 (.string (strOfNums t))).put 1 (.int .u64 n)).put 2 (.int .i64 (uz k))
  simp only [List.setIfInBounds_toArray, List.set_cons_zero, List.set_cons_succ] at hb7
  have hu7 : Upd (fun k => k = p) w (((w4.setCell ⟨w.heap.size, 0, none⟩ (.string (strOfNums t))).setCell ⟨w.heap.size, 1, none⟩ (.int .u64 n)).setCell ⟨w.heap.size, 2, none⟩ (.int .i64 (uz k))) := ((hu24.set (.inr (Nat.le_refl _)) _).set (.inr (Nat.le_refl _)) _).set (.inr (Nat.le_refl _)) _
  have hF : ∀ k, F k → ¬ k = w.heap.size := fun k hk e => by have := h.lt k hk; omega
  have h7 := h4.keep ((((Upd.refl (fun k => k = w.heap.size) w4).set1 0 (.string (strOfNums t))).set1 1 (.int .u64 n)).set1 2 (.int .i64 (uz k))) hF
  clear hu2 hu3 hu4 h2 h3 h4 hb1 hb4 h1 hal hu24
  go_wp2_with (fail)
  generalize (((w4.setCell ⟨w.heap.size, 0, none⟩ (.string (strOfNums t))).setCell ⟨w.heap.size, 1, none⟩ (.int .u64 n)).setCell ⟨w.heap.size, 2, none⟩ (.int .i64 (uz k))) = w7 at *
  refine (rnumber_eq h7 hS4.out).mono ?_
  rintro e w8 ⟨rfl, A8, c8, h8, hu8⟩
  have hu8' := hu7.next hu8
  have hb8 := hb7.upd hu8 hne
  have hmr : 0 ≤ m := by
    have := (stN_range r3 b3 h7.byte).1
    rw [hS4.out] at this
    exact this
  clear hu7 hu8 hb7 h7 f0 f1 f2 y0 y1 y2 y3
  by_cases hm : 4 < m
  · have hout : takeL l bd = (zero, r4, b4, false) := by simp [takeL, hHD.out, hm]
    have hout' := hid hout
    clear hout
    obtain ⟨y0, y1, y2, y3⟩ := box hb8
    have f0 := hb8.free 0
    have f1 := hb8.free 1
    have f2 := hb8.free 2
    have f3 := hb8.free 3
    have hle := Nat.le_refl w.heap.size
    have HB := hid (put4_blk hb8 zero (.slice none 0 0))
    have HU : Hid (Upd (fun k => k = p) w (put4 w8 w.heap.size zero (.slice none 0 0))) := hid ((((hu8'.set (.inr hle) _).set (.inr hle) _).set (.inr hle) _).set (.inr hle) _)
    have HR := hid (h8.keep (put4_upd w8 w.heap.size zero (.slice none 0 0)) hF)
    clear hb8 hu8' h8 hF h
    go_wp2
    simp only [put4, zero] at HB HU HR
    generalize (((w8.setCell ⟨w.heap.size, 0, none⟩ (.string ⟨#[]⟩)).setCell ⟨w.heap.size, 1, none⟩ (.int .u64 0)).setCell ⟨w.heap.size, 2, none⟩ (.int .i64 0)).setCell ⟨w.heap.size, 3, none⟩ (.slice none 0 0) = W5 at *
    obtain ⟨q0, q1, q2, q3⟩ := box HB.out
    exact bodyPost_ret (v := .tuple #[val zero (.slice none 0 0), .bool false]) (by simp [results, go_sem, q0, q1, q2, q3, val, zero]) rfl (by rw [hout'.out]; exact .of ⟨_, _, _, rfl, In.nil _, fun k hk => by simp [Value.ownBlock] at hk, HR.out, HU.out⟩)
  · obtain ⟨mm, rfl⟩ := Int.eq_ofNat_of_zero_le hmr
    have hm4 : mm ≤ 4 := by omega
    have hout : takeL l bd = (if (tk r4 b4 mm).2.2 || !formed (strOfNums t, n, uz k, (tk r4 b4 mm).1) then (zero, (tk r4 b4 mm).2.1, (tk r4 b4 mm).2.2, false) else ((strOfNums t, n, uz k, (tk r4 b4 mm).1), (tk r4 b4 mm).2.1, (tk r4 b4 mm).2.2, true)) := by
      simp only [takeL, hHD.out, hm, if_false, Int.toNat_natCast]
    have hout' := hid hout
    clear hout
    have hI0 : Tin w F p (strOfNums t) n (uz k) r4 b4 0 w8 := ⟨_, _, _, hb8, World.ownsRow_nil _ _ _ _, h8, hu8'⟩
    clear hb8 h8 hu8'
    go_wp2_with (fail)
    obtain ⟨wo, hwo⟩ : ∃ wo : World, wo = w8 := ⟨_, rfl⟩
    go_loopw [20] (fun vv W => ∃ j : Nat, j ≤ mm ∧ vv = .int .u64 j ∧ Hid (Tin w F p (strOfNums t) n (uz k) r4 b4 j W)) (fun vv _ => mm - (intOf vv).toNat)
    case atStart => exact ⟨0, by omega, rfl, hid hI0⟩
    case round =>
      obtain ⟨j, hj, rfl, hH⟩ := hrel
      obtain ⟨va, A9, c9, hb, ho, hr, hu⟩ := hH.out
      obtain ⟨Aa, ca, rfl, _, _⟩ := own_shape ho
      have htl := tk_length r4 b4 j
      by_cases hlt : j < mm
      · obtain ⟨z, r', b', hz⟩ : ∃ z r' b', stN (tk r4 b4 j).2.1 (tk r4 b4 j).2.2 = (z, r', b') := ⟨_, _, _, rfl⟩
        have HN : Hid (tk r4 b4 (j + 1) = ((tk r4 b4 j).1 ++ [uz z], r', b')) := hid (by simp only [tk, hz])
        have HZ := hid hz
        clear hz hH
        generalize tk r4 b4 j = q at *
        obtain ⟨xs, rr, bb⟩ := q
        simp only at hb ho hr htl HN HZ
        have hsz := hu.size
        have hbl := hb.lt
        have HO := hid ho
        have HR := hid hr
        have c0 := box hb
        have hbF : ¬ w.heap.size = p := hne
        have HM := hid htl
        have hxl : xs.length ≤ 4 := by omega
        clear htl
        go_wp2_with (fail)
        refine wp_region_held_drew (S := fun _ => True) (by kernel_rfl) trivial (fun hS => ?_)
        refine rg_at 0 (by decide) (fun oi hoi => ?_)
        have ho2 := hoi; simp only [List.getElem?_toArray, List.getElem?_cons_succ, List.getElem?_cons_zero, Option.some.injEq] at ho2; subst ho2
        refine rg_take (v := ?_) 0 hoi (by kernel_rfl) (by kernel_rfl) (by kernel_rfl) (fun _ _ _ h => h) (by rfl) ?_ hS ?_
        rotate_left
        · intro w _; go_simp; try with_reducible rfl
        clear hoi; try simp only [Act.put, List.setIfInBounds_toArray, List.set_cons_zero, List.set_cons_succ]
        refine rg_at 2 (by decide) (fun oi hoi => ?_)
        have ho2 := hoi; simp only [List.getElem?_toArray, List.getElem?_cons_succ, List.getElem?_cons_zero, Option.some.injEq] at ho2; subst ho2
        refine rg_take (v := ?_) 2 hoi (by kernel_rfl) (by kernel_rfl) (by kernel_rfl) (fun _ _ _ h => h) (by rfl) ?_ hS ?_
        rotate_left
        · intro w _; go_simp; try with_reducible rfl
        clear hoi; try simp only [Act.put, List.setIfInBounds_toArray, List.set_cons_zero, List.set_cons_succ]
        refine rg_two 1 3 (by kernel_rfl) ?_ ?_
        · refine rg_op_at 1 (by decide) (fun oi hoi => ?_)
          have ho2 := hoi; simp only [List.getElem?_toArray, List.getElem?_cons_succ, List.getElem?_cons_zero, Option.some.injEq] at ho2; subst ho2
          refine rg_step 1 hoi (by rfl) (fun K hK => ?_)
          clear hoi
          skip
          go_simp
          refine hK.out _ _ (trivial) (fun hS => ?_)
          clear hK K
          try simp only [Act.put, List.setIfInBounds_toArray, List.set_cons_zero, List.set_cons_succ]
          refine rg_at 3 (by decide) (fun oi hoi => ?_)
          have ho2 := hoi; simp only [List.getElem?_toArray, List.getElem?_cons_succ, List.getElem?_cons_zero, Option.some.injEq] at ho2; subst ho2
          refine rg_call 3 (by kernel_rfl) hoi (by rfl) (fun K hK => ?_)
          clear hoi
          go_simp
          refine (rint_eq (w := wr.drew) (HR.out.keep (Upd.drew (Upd.refl No wr)) (fun k _ => no_ k)) HZ.out rfl).mono ?_
          rintro e w3 ⟨rfl, A3, c3, h3, hu3⟩
          have hu3' := Upd.of_drew hu3
          have b3' := hb.upd hu3' hbF
          have d3 := box b3'
          have e3 : ∀ o, (w3.alloc o).cell? ⟨w.heap.size, 3, none⟩ = some (.slice Aa xs.length ca) := fun o => (box (b3'.alloc o)).2.2.2
          go_wp2_with (fail)
          refine hK.out _ _ (trivial) (fun hS => ?_)
          clear hK K
          try simp only [Act.put, List.setIfInBounds_toArray, List.set_cons_zero, List.set_cons_succ]
          refine rg_at 4 (by decide) (fun oi hoi => ?_)
          have ho2 := hoi; simp only [List.getElem?_toArray, List.getElem?_cons_succ, List.getElem?_cons_zero, Option.some.injEq] at ho2; subst ho2
          refine rg_call 4 (by kernel_rfl) hoi (by rfl) (fun K hK => ?_)
          clear hoi
          skip
          go_simp
          refine hK.out _ _ (trivial) (fun hS => ?_)
          clear hK K
          try simp only [Act.put, List.setIfInBounds_toArray, List.set_cons_zero, List.set_cons_succ]
          refine rg_at 5 (by decide) (fun oi hoi => ?_)
          have ho2 := hoi; simp only [List.getElem?_toArray, List.getElem?_cons_succ, List.getElem?_cons_zero, Option.some.injEq] at ho2; subst ho2
          refine rg_call 5 (by kernel_rfl) hoi (by rfl) (fun K hK => ?_)
          clear hoi
          refine wp_ap_one (base := w.heap.size + 1) (.tmp 23) (.tmp 26) 22 2 (.int .i64 0) 8 (by rfl) Try.underlying22 i64_info rfl (.slice Aa xs.length ca) xs.length (nums .i64 xs) (.int .i64 (uz z)) (by rfl) (by rfl) (Blk.fresh w3 _ _) rfl (own_upd HO.out (hu3'.alloc _) (fun k hk e => by have := (World.ownsRow.lt HO.out k hk).1; omega)) (by omega) (by omega) ?_ (by have := hu3'.size; simp; omega)
          intro g1 c1 w1 ho1 hg1 hat1
          have hgu : ∀ k, (Value.slice Aa xs.length ca).ownBlock = some k → w.heap.size + 1 ≤ k := fun k hk => (World.ownsRow.lt HO.out k hk).1
          have bg := (b3'.alloc (.cells #[.int .i64 (uz z)] 2)).grown hg1 (fun e => by have := hgu _ e.symm; omega)
          have dg := box bg
          have fg := bg.free 3
          refine hK.out _ _ (trivial) (fun hS => ?_)
          clear hK K
          try simp only [Act.put, List.setIfInBounds_toArray, List.set_cons_zero, List.set_cons_succ]
          refine rg_at 6 (by decide) (fun oi hoi => ?_)
          have ho2 := hoi; simp only [List.getElem?_toArray, List.getElem?_cons_succ, List.getElem?_cons_zero, Option.some.injEq] at ho2; subst ho2
          refine rg_take (v := ?_) 6 hoi (by kernel_rfl) (by kernel_rfl) (by kernel_rfl) (fun _ _ _ h => h) (by rfl) ?_ hS ?_
          rotate_left
          · intro w _; go_simp; try with_reducible rfl
          clear hoi; try simp only [Act.put, List.setIfInBounds_toArray, List.set_cons_zero, List.set_cons_succ]
          refine rg_at 7 (by decide) (fun oi hoi => ?_)
          have ho2 := hoi; simp only [List.getElem?_toArray, List.getElem?_cons_succ, List.getElem?_cons_zero, Option.some.injEq] at ho2; subst ho2
          refine rg_call 7 (by kernel_rfl) hoi (by rfl) (fun K hK => ?_)
          clear hoi
          skip
          go_simp
          refine hK.out _ _ (trivial) (fun hS => ?_)
          clear hK K
          try simp only [Act.put, List.setIfInBounds_toArray, List.set_cons_zero, List.set_cons_succ]
          refine wpAnyH_done (by kernel_rfl) ?_ _
          have hRes : Hid (Tin w F p (strOfNums t) n (uz k) r4 b4 (j + 1) (w1.setCell ⟨w.heap.size, 3, none⟩ (.slice (some ⟨g1, 0, none⟩) (xs.length + 1) c1))) := hid (by
          have U := ((((Upd.refl (fun k => w.heap.size ≤ k) w3).alloc (.cells #[.int .i64 (uz z)] 2)).grown hg1 (fun k hk => .inl (by have := hgu k hk; omega))).set (p := ⟨w.heap.size, 3, none⟩) (.inl (Nat.le_refl _)) (.slice (some ⟨g1, 0, none⟩) (xs.length + 1) c1))
          have V := (((hu.next hu3').alloc (.cells #[.int .i64 (uz z)] 2)).grown hg1 (fun k hk => .inr (by have := hgu k hk; omega))).set (p := ⟨w.heap.size, 3, none⟩) (.inr (Nat.le_refl _)) (.slice (some ⟨g1, 0, none⟩) (xs.length + 1) c1)
          have P := bg.put 3 (.slice (some ⟨g1, 0, none⟩) (xs.length + 1) c1)
          unfold Tin
          rw [HN.out]
          refine ⟨.slice (some ⟨g1, 0, none⟩) (xs.length + 1) c1, A3, c3, by simpa using P, ?_, h3.keep U (fun k hk e => by have := h.lt k hk; omega), V⟩
          rw [nums_append, List.length_append]
          exact own_upd ho1 ((Upd.refl (fun k => k = w.heap.size) w1).set1 3 _) (fun k hk e => by have := (World.ownsRow.lt ho1 k hk).1; omega))
          go_wp2
          go_roundw
          case rel => exact ⟨j + 1, by omega, by go_num, hRes⟩
          case measure => simp [intOf]; omega
        · refine rg_op_at 3 (by decide) (fun oi hoi => ?_)
          have ho2 := hoi; simp only [List.getElem?_toArray, List.getElem?_cons_succ, List.getElem?_cons_zero, Option.some.injEq] at ho2; subst ho2
          refine rg_step 3 hoi (by rfl) (fun K hK => ?_)
          clear hoi
          go_simp
          refine (rint_eq (w := wr.drew) (HR.out.keep (Upd.drew (Upd.refl No wr)) (fun k _ => no_ k)) HZ.out rfl).mono ?_
          rintro e w3 ⟨rfl, A3, c3, h3, hu3⟩
          have hu3' := Upd.of_drew hu3
          have b3' := hb.upd hu3' hbF
          have d3 := box b3'
          have e3 : ∀ o, (w3.alloc o).cell? ⟨w.heap.size, 3, none⟩ = some (.slice Aa xs.length ca) := fun o => (box (b3'.alloc o)).2.2.2
          go_wp2_with (fail)
          refine hK.out _ _ (trivial) (fun hS => ?_)
          clear hK K
          try simp only [Act.put, List.setIfInBounds_toArray, List.set_cons_zero, List.set_cons_succ]
          refine rg_two 1 4 (by kernel_rfl) ?_ ?_
          · refine rg_op_at 1 (by decide) (fun oi hoi => ?_)
            have ho2 := hoi; simp only [List.getElem?_toArray, List.getElem?_cons_succ, List.getElem?_cons_zero, Option.some.injEq] at ho2; subst ho2
            refine rg_step 1 hoi (by rfl) (fun K hK => ?_)
            clear hoi
            skip
            go_simp
            refine hK.out _ _ (trivial) (fun hS => ?_)
            clear hK K
            try simp only [Act.put, List.setIfInBounds_toArray, List.set_cons_zero, List.set_cons_succ]
            refine rg_at 4 (by decide) (fun oi hoi => ?_)
            have ho2 := hoi; simp only [List.getElem?_toArray, List.getElem?_cons_succ, List.getElem?_cons_zero, Option.some.injEq] at ho2; subst ho2
            refine rg_call 4 (by kernel_rfl) hoi (by rfl) (fun K hK => ?_)
            clear hoi
            skip
            go_simp
            refine hK.out _ _ (trivial) (fun hS => ?_)
            clear hK K
            try simp only [Act.put, List.setIfInBounds_toArray, List.set_cons_zero, List.set_cons_succ]
            refine rg_at 5 (by decide) (fun oi hoi => ?_)
            have ho2 := hoi; simp only [List.getElem?_toArray, List.getElem?_cons_succ, List.getElem?_cons_zero, Option.some.injEq] at ho2; subst ho2
            refine rg_call 5 (by kernel_rfl) hoi (by rfl) (fun K hK => ?_)
            clear hoi
            refine wp_ap_one (base := w.heap.size + 1) (.tmp 23) (.tmp 26) 22 2 (.int .i64 0) 8 (by rfl) Try.underlying22 i64_info rfl (.slice Aa xs.length ca) xs.length (nums .i64 xs) (.int .i64 (uz z)) (by rfl) (by rfl) (Blk.fresh w3 _ _) rfl (own_upd HO.out (hu3'.alloc _) (fun k hk e => by have := (World.ownsRow.lt HO.out k hk).1; omega)) (by omega) (by omega) ?_ (by have := hu3'.size; simp; omega)
            intro g1 c1 w1 ho1 hg1 hat1
            have hgu : ∀ k, (Value.slice Aa xs.length ca).ownBlock = some k → w.heap.size + 1 ≤ k := fun k hk => (World.ownsRow.lt HO.out k hk).1
            have bg := (b3'.alloc (.cells #[.int .i64 (uz z)] 2)).grown hg1 (fun e => by have := hgu _ e.symm; omega)
            have dg := box bg
            have fg := bg.free 3
            refine hK.out _ _ (trivial) (fun hS => ?_)
            clear hK K
            try simp only [Act.put, List.setIfInBounds_toArray, List.set_cons_zero, List.set_cons_succ]
            refine rg_at 6 (by decide) (fun oi hoi => ?_)
            have ho2 := hoi; simp only [List.getElem?_toArray, List.getElem?_cons_succ, List.getElem?_cons_zero, Option.some.injEq] at ho2; subst ho2
            refine rg_take (v := ?_) 6 hoi (by kernel_rfl) (by kernel_rfl) (by kernel_rfl) (fun _ _ _ h => h) (by rfl) ?_ hS ?_
            rotate_left
            · intro w _; go_simp; try with_reducible rfl
            clear hoi; try simp only [Act.put, List.setIfInBounds_toArray, List.set_cons_zero, List.set_cons_succ]
            refine rg_at 7 (by decide) (fun oi hoi => ?_)
            have ho2 := hoi; simp only [List.getElem?_toArray, List.getElem?_cons_succ, List.getElem?_cons_zero, Option.some.injEq] at ho2; subst ho2
            refine rg_call 7 (by kernel_rfl) hoi (by rfl) (fun K hK => ?_)
            clear hoi
            skip
            go_simp
            refine hK.out _ _ (trivial) (fun hS => ?_)
            clear hK K
            try simp only [Act.put, List.setIfInBounds_toArray, List.set_cons_zero, List.set_cons_succ]
            refine wpAnyH_done (by kernel_rfl) ?_ _
            have hRes : Hid (Tin w F p (strOfNums t) n (uz k) r4 b4 (j + 1) (w1.setCell ⟨w.heap.size, 3, none⟩ (.slice (some ⟨g1, 0, none⟩) (xs.length + 1) c1))) := hid (by
            have U := ((((Upd.refl (fun k => w.heap.size ≤ k) w3).alloc (.cells #[.int .i64 (uz z)] 2)).grown hg1 (fun k hk => .inl (by have := hgu k hk; omega))).set (p := ⟨w.heap.size, 3, none⟩) (.inl (Nat.le_refl _)) (.slice (some ⟨g1, 0, none⟩) (xs.length + 1) c1))
            have V := (((hu.next hu3').alloc (.cells #[.int .i64 (uz z)] 2)).grown hg1 (fun k hk => .inr (by have := hgu k hk; omega))).set (p := ⟨w.heap.size, 3, none⟩) (.inr (Nat.le_refl _)) (.slice (some ⟨g1, 0, none⟩) (xs.length + 1) c1)
            have P := bg.put 3 (.slice (some ⟨g1, 0, none⟩) (xs.length + 1) c1)
            unfold Tin
            rw [HN.out]
            refine ⟨.slice (some ⟨g1, 0, none⟩) (xs.length + 1) c1, A3, c3, by simpa using P, ?_, h3.keep U (fun k hk e => by have := h.lt k hk; omega), V⟩
            rw [nums_append, List.length_append]
            exact own_upd ho1 ((Upd.refl (fun k => k = w.heap.size) w1).set1 3 _) (fun k hk e => by have := (World.ownsRow.lt ho1 k hk).1; omega))
            go_wp2
            go_roundw
            case rel => exact ⟨j + 1, by omega, by go_num, hRes⟩
            case measure => simp [intOf]; omega
          · refine rg_op_at 4 (by decide) (fun oi hoi => ?_)
            have ho2 := hoi; simp only [List.getElem?_toArray, List.getElem?_cons_succ, List.getElem?_cons_zero, Option.some.injEq] at ho2; subst ho2
            refine rg_step 4 hoi (by rfl) (fun K hK => ?_)
            clear hoi
            skip
            go_simp
            refine hK.out _ _ (trivial) (fun hS => ?_)
            clear hK K
            try simp only [Act.put, List.setIfInBounds_toArray, List.set_cons_zero, List.set_cons_succ]
            refine rg_at 1 (by decide) (fun oi hoi => ?_)
            have ho2 := hoi; simp only [List.getElem?_toArray, List.getElem?_cons_succ, List.getElem?_cons_zero, Option.some.injEq] at ho2; subst ho2
            refine rg_call 1 (by kernel_rfl) hoi (by rfl) (fun K hK => ?_)
            clear hoi
            skip
            go_simp
            refine hK.out _ _ (trivial) (fun hS => ?_)
            clear hK K
            try simp only [Act.put, List.setIfInBounds_toArray, List.set_cons_zero, List.set_cons_succ]
            refine rg_at 5 (by decide) (fun oi hoi => ?_)
            have ho2 := hoi; simp only [List.getElem?_toArray, List.getElem?_cons_succ, List.getElem?_cons_zero, Option.some.injEq] at ho2; subst ho2
            refine rg_call 5 (by kernel_rfl) hoi (by rfl) (fun K hK => ?_)
            clear hoi
            refine wp_ap_one (base := w.heap.size + 1) (.tmp 23) (.tmp 26) 22 2 (.int .i64 0) 8 (by rfl) Try.underlying22 i64_info rfl (.slice Aa xs.length ca) xs.length (nums .i64 xs) (.int .i64 (uz z)) (by rfl) (by rfl) (Blk.fresh w3 _ _) rfl (own_upd HO.out (hu3'.alloc _) (fun k hk e => by have := (World.ownsRow.lt HO.out k hk).1; omega)) (by omega) (by omega) ?_ (by have := hu3'.size; simp; omega)
            intro g1 c1 w1 ho1 hg1 hat1
            have hgu : ∀ k, (Value.slice Aa xs.length ca).ownBlock = some k → w.heap.size + 1 ≤ k := fun k hk => (World.ownsRow.lt HO.out k hk).1
            have bg := (b3'.alloc (.cells #[.int .i64 (uz z)] 2)).grown hg1 (fun e => by have := hgu _ e.symm; omega)
            have dg := box bg
            have fg := bg.free 3
            refine hK.out _ _ (trivial) (fun hS => ?_)
            clear hK K
            try simp only [Act.put, List.setIfInBounds_toArray, List.set_cons_zero, List.set_cons_succ]
            refine rg_at 6 (by decide) (fun oi hoi => ?_)
            have ho2 := hoi; simp only [List.getElem?_toArray, List.getElem?_cons_succ, List.getElem?_cons_zero, Option.some.injEq] at ho2; subst ho2
            refine rg_take (v := ?_) 6 hoi (by kernel_rfl) (by kernel_rfl) (by kernel_rfl) (fun _ _ _ h => h) (by rfl) ?_ hS ?_
            rotate_left
            · intro w _; go_simp; try with_reducible rfl
            clear hoi; try simp only [Act.put, List.setIfInBounds_toArray, List.set_cons_zero, List.set_cons_succ]
            refine rg_at 7 (by decide) (fun oi hoi => ?_)
            have ho2 := hoi; simp only [List.getElem?_toArray, List.getElem?_cons_succ, List.getElem?_cons_zero, Option.some.injEq] at ho2; subst ho2
            refine rg_call 7 (by kernel_rfl) hoi (by rfl) (fun K hK => ?_)
            clear hoi
            skip
            go_simp
            refine hK.out _ _ (trivial) (fun hS => ?_)
            clear hK K
            try simp only [Act.put, List.setIfInBounds_toArray, List.set_cons_zero, List.set_cons_succ]
            refine wpAnyH_done (by kernel_rfl) ?_ _
            have hRes : Hid (Tin w F p (strOfNums t) n (uz k) r4 b4 (j + 1) (w1.setCell ⟨w.heap.size, 3, none⟩ (.slice (some ⟨g1, 0, none⟩) (xs.length + 1) c1))) := hid (by
            have U := ((((Upd.refl (fun k => w.heap.size ≤ k) w3).alloc (.cells #[.int .i64 (uz z)] 2)).grown hg1 (fun k hk => .inl (by have := hgu k hk; omega))).set (p := ⟨w.heap.size, 3, none⟩) (.inl (Nat.le_refl _)) (.slice (some ⟨g1, 0, none⟩) (xs.length + 1) c1))
            have V := (((hu.next hu3').alloc (.cells #[.int .i64 (uz z)] 2)).grown hg1 (fun k hk => .inr (by have := hgu k hk; omega))).set (p := ⟨w.heap.size, 3, none⟩) (.inr (Nat.le_refl _)) (.slice (some ⟨g1, 0, none⟩) (xs.length + 1) c1)
            have P := bg.put 3 (.slice (some ⟨g1, 0, none⟩) (xs.length + 1) c1)
            unfold Tin
            rw [HN.out]
            refine ⟨.slice (some ⟨g1, 0, none⟩) (xs.length + 1) c1, A3, c3, by simpa using P, ?_, h3.keep U (fun k hk e => by have := h.lt k hk; omega), V⟩
            rw [nums_append, List.length_append]
            exact own_upd ho1 ((Upd.refl (fun k => k = w.heap.size) w1).set1 3 _) (fun k hk e => by have := (World.ownsRow.lt ho1 k hk).1; omega))
            go_wp2
            go_roundw
            case rel => exact ⟨j + 1, by omega, by go_num, hRes⟩
            case measure => simp [intOf]; omega
      · obtain rfl : j = mm := by omega
        clear hH
        have HO := hid ho
        generalize tk r4 b4 j = q at *
        obtain ⟨xs, rr, bb⟩ := q
        simp only at hb ho hr htl HO hout'
        have hxl : xs.length ≤ 4 := by omega
        have hBad := bad p bb _ wr hr.blk
        have HBad := hid hBad
        have HS := hid (And.intro hb (And.intro hu hr))
        have hus := hu.size
        clear hBad htl ho hb hu hr
        rcases bb with _ | _
        · obtain ⟨y0, y1, y2, y3⟩ := box HS.out.1
          go_wp2_with (fail)
          refine HBad.out.mono ?_
          rintro e w9 ⟨rfl, rfl⟩
          have hIn : In wr (strOfNums t, n, uz k, xs) (.slice Aa xs.length ca) := by
            obtain ⟨_, _, he, q1, q2⟩ := Sl.shape (Sl.of_own HO.out)
            simp only [Value.slice.injEq, true_and] at he
            obtain ⟨_, rfl⟩ := he
            exact ⟨Aa, ca, rfl, Rd.of_own HO.out, q1, q2⟩
          have HF := hid (formed_ (strOfNums t, n, uz k, xs) (.slice Aa xs.length ca) wr hIn)
          unfold val at HF
          simp only at HF
          have HIn := hid hIn
          clear hIn
          rcases hfo : formed (strOfNums t, n, uz k, xs) with _ | _
          · have hout2 : Hid (takeL l bd = (zero, rr, false, false)) := hid (by rw [hout'.out, hfo]; rfl)
            rw [hfo] at HF
            clear hfo hout'
            go_wp2_with (fail)
            refine HF.out.mono ?_
            rintro e w10 ⟨rfl, hu10⟩
            have hb10 := HS.out.1.upd hu10 (no_ _)
            have hu10' := HS.out.2.1.next (hu10.mono fun _ _ h => h.elim)
            have hr10 := HS.out.2.2.keep hu10 (fun _ _ => no_ _)
            clear y0 y1 y2 y3
            obtain ⟨y0, y1, y2, y3⟩ := box hb10
            have f0 := hb10.free 0
            have f1 := hb10.free 1
            have f2 := hb10.free 2
            have f3 := hb10.free 3
            have hle := Nat.le_refl w.heap.size
            have HB := hid (put4_blk hb10 zero (.slice none 0 0))
            have HU : Hid (Upd (fun k => k = p) w (put4 w10 w.heap.size zero (.slice none 0 0))) := hid ((((hu10'.set (.inr hle) _).set (.inr hle) _).set (.inr hle) _).set (.inr hle) _)
            have HR := hid (hr10.keep (put4_upd w10 w.heap.size zero (.slice none 0 0)) hF)
            clear hb10 hu10' hr10
            go_wp2
            simp only [put4, zero] at HB HU HR
            generalize (((w10.setCell ⟨w.heap.size, 0, none⟩ (.string ⟨#[]⟩)).setCell ⟨w.heap.size, 1, none⟩ (.int .u64 0)).setCell ⟨w.heap.size, 2, none⟩ (.int .i64 0)).setCell ⟨w.heap.size, 3, none⟩ (.slice none 0 0) = W5 at *
            obtain ⟨q0, q1, q2, q3⟩ := box HB.out
            exact bodyPost_ret (v := .tuple #[val zero (.slice none 0 0), .bool false]) (by simp [results, go_sem, q0, q1, q2, q3, val, zero]) rfl (by rw [hout2.out]; exact .of ⟨_, _, _, rfl, In.nil _, fun k hk => by simp [Value.ownBlock] at hk, HR.out, HU.out⟩)
          · have hout2 : Hid (takeL l bd = ((strOfNums t, n, uz k, xs), rr, false, true)) := hid (by rw [hout'.out, hfo]; rfl)
            rw [hfo] at HF
            clear hfo hout'
            go_wp2_with (fail)
            refine HF.out.mono ?_
            rintro e w10 ⟨rfl, hu10⟩
            have hb10 := HS.out.1.upd hu10 (no_ _)
            have hu10' := HS.out.2.1.next (hu10.mono fun _ _ h => h.elim)
            have hr10 := HS.out.2.2.keep hu10 (fun _ _ => no_ _)
            have HW10 : Hid (In w10 (strOfNums t, n, uz k, xs) (.slice Aa xs.length ca) ∧ ∀ g, (Value.slice Aa xs.length ca).ownBlock = some g → w.heap.size + 1 ≤ g ∧ ∃ cs, Blk w10 g 2 cs) := hid ⟨HIn.out.upd hu10 (fun _ _ => no_ _), fun g hg => ⟨(HO.out.lt g hg).1, (Sl.blk (Sl.of_own HO.out) hg).elim fun cs h => ⟨cs, h.upd hu10 (no_ _)⟩⟩⟩
            clear y0 y1 y2 y3
            obtain ⟨y0, y1, y2, y3⟩ := box hb10
            have f0 := hb10.free 0
            have f1 := hb10.free 1
            have f2 := hb10.free 2
            have f3 := hb10.free 3
            have hle := Nat.le_refl w.heap.size
            have HB := hid (put4_blk hb10 (strOfNums t, n, uz k, xs) (.slice Aa xs.length ca))
            have HU : Hid (Upd (fun k => k = p) w (put4 w10 w.heap.size (strOfNums t, n, uz k, xs) (.slice Aa xs.length ca))) := hid ((((hu10'.set (.inr hle) _).set (.inr hle) _).set (.inr hle) _).set (.inr hle) _)
            have hpu := put4_upd w10 w.heap.size (strOfNums t, n, uz k, xs) (.slice Aa xs.length ca)
            have HR := hid (hr10.keep hpu hF)
            have HV := hid (And.intro (HW10.out.1.upd hpu fun g hg e => by have := (HW10.out.2 g hg).1; omega) (fun g hg => (HW10.out.2 g hg).2.elim fun cs h => (⟨cs, h.upd hpu fun e => by have := (HW10.out.2 g hg).1; omega⟩ : ∃ cs, Blk _ g 2 cs)))
            have HG := hid (fun g hg => (HW10.out.2 g hg).1)
            clear hb10 hu10' hr10 hpu HW10 hu10
            go_wp2
            simp only [put4] at HB HU HR HV
            generalize (((w10.setCell ⟨w.heap.size, 0, none⟩ (.string (strOfNums t))).setCell ⟨w.heap.size, 1, none⟩ (.int .u64 n)).setCell ⟨w.heap.size, 2, none⟩ (.int .i64 (uz k))).setCell ⟨w.heap.size, 3, none⟩ (.slice Aa xs.length ca) = W5 at *
            obtain ⟨q0, q1, q2, q3⟩ := box HB.out
            exact bodyPost_ret (v := .tuple #[val (strOfNums t, n, uz k, xs) (.slice Aa xs.length ca), .bool true]) (by simp [results, go_sem, q0, q1, q2, q3, val]) rfl (by rw [hout2.out]; exact .of ⟨_, _, _, rfl, HV.out.1, fun g hg => ⟨by have := HG.out g hg; omega, HV.out.2 g hg⟩, HR.out, HU.out⟩)
        · have hout2 : Hid (takeL l bd = (zero, rr, true, false)) := hid (by rw [hout'.out]; rfl)
          clear hout'
          obtain ⟨y0, y1, y2, y3⟩ := box HS.out.1
          go_wp2_with (fail)
          refine HBad.out.mono ?_
          rintro e w9 ⟨rfl, rfl⟩
          have hb10 := HS.out.1
          have hu10' := HS.out.2.1
          have hr10 := HS.out.2.2
          clear y0 y1 y2 y3
          obtain ⟨y0, y1, y2, y3⟩ := box hb10
          have f0 := hb10.free 0
          have f1 := hb10.free 1
          have f2 := hb10.free 2
          have f3 := hb10.free 3
          have hle := Nat.le_refl w.heap.size
          have HB := hid (put4_blk hb10 zero (.slice none 0 0))
          have HU : Hid (Upd (fun k => k = p) w (put4 wr w.heap.size zero (.slice none 0 0))) := hid ((((hu10'.set (.inr hle) _).set (.inr hle) _).set (.inr hle) _).set (.inr hle) _)
          have HR := hid (hr10.keep (put4_upd wr w.heap.size zero (.slice none 0 0)) hF)
          clear hb10 hu10' hr10
          go_wp2
          simp only [put4, zero] at HB HU HR
          generalize (((wr.setCell ⟨w.heap.size, 0, none⟩ (.string ⟨#[]⟩)).setCell ⟨w.heap.size, 1, none⟩ (.int .u64 0)).setCell ⟨w.heap.size, 2, none⟩ (.int .i64 0)).setCell ⟨w.heap.size, 3, none⟩ (.slice none 0 0) = W5 at *
          obtain ⟨q0, q1, q2, q3⟩ := box HB.out
          exact bodyPost_ret (v := .tuple #[val zero (.slice none 0 0), .bool false]) (by simp [results, go_sem, q0, q1, q2, q3, val, zero]) rfl (by rw [hout2.out]; exact .of ⟨_, _, _, rfl, In.nil _, fun k hk => by simp [Value.ownBlock] at hk, HR.out, HU.out⟩)
end Go.Proofs.Ytgbdpplnfcfhmaa.Lk
