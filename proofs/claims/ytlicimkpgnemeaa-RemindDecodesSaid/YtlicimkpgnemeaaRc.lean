/-
  The reference's queue: Set, Due, Serve.
-/
import Derived.Test.YtlicimkpgnemeaaRb
set_option linter.unusedVariables false
set_option linter.unusedSimpArgs false
namespace Go.Proofs.Ytlicimkpgnemeaa.Nd
open Go.RowKit Go.Proofs.Ytlicimkpgnemeaa.B Go.Proofs.Ytlicimkpgnemeaa.Op
set_option maxHeartbeats 4000000 in
set_option maxRecDepth 100000 in
theorem rset_ (q : Nat) (F : Nat → Prop) (l : List Rm) (r : Rm) (w : World) (h : Wq w F q l) (hl : l.length ≤ 900) :
    Calls Try.prog 14 #[.pointer (some ⟨q, 0, none⟩), rv r] w fun e w' => e = .returned (.int .i64 (setR l r).1) ∧ ∃ F', Wq w' F' q (setR l r).2 ∧ Mv F F' w w' := by
  have HSt : Hid (setR l r = if wrongR r ≠ 0 then (wrongR r, l) else if has r.actor r.name l = false ∧ 64 ≤ l.length then (6, l) else (0, ins (del r.actor r.name l) r)) := hid rfl
  have HQ := hid h
  have HWr := hid fun W => rwrong_ r W
  have HHs := hid fun (W : World) (hq : Wq W F q l) => rhas_ q F l r.actor r.name W hq (by omega)
  have HCa := hid fun (W : World) (hq : Wq W F q l) => rcancel_ q F l r.actor r.name W hq (by omega)
  have HLy := hid fun (W : World) (G : Nat → Prop) (hq : Wq W G q (del r.actor r.name l)) => rlay_ q G (del r.actor r.name l) r W hq (by have := del_le l r.actor r.name; omega)
  have HW1 : Hid (∃ w1 p, w1 = w.alloc (.cells (rc r).toArray 27) ∧ p = w.heap.size ∧ Blk w1 p 27 (rc r).toArray ∧ Upd No w w1) := hid ⟨_, _, rfl, rfl, Blk.fresh _ _ _, (Upd.refl _ _).alloc _⟩
  clear h
  obtain ⟨ac, an, ad, ap, ak⟩ := r
  unfold rv at HWr HLy ⊢
  simp only [rc] at HW1
  simp only at HWr HHs HCa HLy HSt ⊢
  generalize hwr : wrongR ⟨ac, an, ad, ap, ak⟩ = wr at *
  clear hwr
  go_enter Try.func14, Try.ntmps14
  go_wp2_with (fail)
  obtain ⟨w1, p, hw1, hp, hb1, hu1⟩ := HW1.out
  rw [← hw1]
  try rw [← hp]
  obtain ⟨v0, v1, v2, v3, v4⟩ := box5 hb1
  have HB1 := hid hb1
  have HU1 := hid hu1
  have HP : Hid (∀ k, F k → k ≠ p) := hid fun k hk e => by have := HQ.out.lt k hk; omega
  clear hw1 hp hb1 hu1 HW1
  try go_wp2_with (fail)
  refine (HWr.out _).mono ?_
  rintro e w2 ⟨rfl, hu2⟩
  have HU2 := hid (HU1.out.next hu2)
  have HB2 := hid (HB1.out.upd hu2 (no_ _))
  obtain ⟨x0, x1, x2, x3, x4⟩ := box5 HB2.out
  clear hu2 HWr HB1 v0 v1 v2 v3 v4
  by_cases hw : wr = 0
  case' neg =>
    rw [if_pos hw] at HSt
    have hw' : (wr == 0) = false := by simpa using hw
    have HE : Hid (∃ F', Wq w2 F' q l ∧ Mv F F' w w2) := hid ⟨F, HQ.out.quiet HU2.out, Mv.quiet (HU2.out.old (Nat.le_refl _))⟩
    clear hw
    go_wp2
    go_ret
    rw [HSt.out]
    exact ⟨rfl, HE.out⟩
  rw [if_neg (by simpa using hw)] at HSt
  subst hw
  have HHi := hid (HHs.out w2 (HQ.out.quiet HU2.out))
  clear HHs
  generalize hz : has ac an l = z at *
  go_wp2_with (fail)
  refine HHi.out.mono ?_
  rintro e w3 ⟨rfl, hu3⟩
  have HU3 := hid (HU2.out.next hu3)
  have HB3 := hid (HB2.out.upd hu3 (no_ _))
  have hq3 := HQ.out.quiet HU3.out
  obtain ⟨y0, y1, y2, y3, y4⟩ := box5 HB3.out
  obtain ⟨A, c, hc, _, hlc, _⟩ := hq3.cell
  clear hu3 HHi HB2 x0 x1 x2 x3 x4
  have HCb := hid (HCa.out w3 hq3)
  clear HCa
  by_cases hf : z = false ∧ 64 ≤ l.length
  · rw [if_pos hf] at HSt
    obtain ⟨rfl, hf⟩ := hf
    have hf' : (64 : Int) ≤ (l.length : Int) := by omega
    have HE : Hid (∃ F', Wq w3 F' q l ∧ Mv F F' w w3) := hid ⟨F, hq3, Mv.quiet (HU3.out.old (Nat.le_refl _))⟩
    clear hf hq3
    go_wp2
    go_ret
    rw [HSt.out]
    exact ⟨rfl, HE.out⟩
  · rw [if_neg hf] at HSt
    clear hq3
    cases z
    case' false => have hf' : ¬ (64 : Int) ≤ (l.length : Int) := by have : ¬ 64 ≤ l.length := fun h => hf ⟨rfl, h⟩; omega
    all_goals
      clear hf
      go_wp2_with (fail)
      refine HCb.out.mono ?_
      rintro e w4 ⟨rfl, F4, hq4, hm4⟩
      have hb4 := HB3.out.upd hm4.upd fun hk => HP.out p hk rfl
      have HL := hid (HLy.out w4 F4 hq4)
      have HM4 := hid (Mv.box HU3.out hm4)
      obtain ⟨z0, z1, z2, z3, z4⟩ := box5 hb4
      clear hq4 hm4 HCb HLy hb4
      go_wp2_with (fail)
      refine HL.out.mono ?_
      rintro e w6 ⟨rfl, F6, hq6, hm6⟩
      have HE : Hid (∃ F', Wq w6 F' q (ins (del ac an l) ⟨ac, an, ad, ap, ak⟩) ∧ Mv F F' w w6) := hid ⟨F6, hq6, Mv.trans HM4.out hm6⟩
      clear hq6 hm6 HL
      go_wp2
      go_ret
      rw [HSt.out]
      exact ⟨rfl, HE.out⟩
set_option maxHeartbeats 1000000 in
theorem rdue_none (v : Value) (now : Int) (w : World) (hv : ∃ q F, v = .pointer (some ⟨q, 0, none⟩) ∧ Wq w F q []) :
    Calls Try.prog 33 #[v, .int .i64 now] w fun e w' => e = .returned (tell none) ∧ Upd No w w' := by
  have hu1 : Upd No w (w.alloc (.cells #[.string ⟨#[]⟩, .string ⟨#[]⟩, .int .i64 0, .int .i64 0, .int .i64 0] 27)) := (Upd.refl _ _).alloc _
  have hb1 := Blk.fresh w 27 #[.string ⟨#[]⟩, .string ⟨#[]⟩, .int .i64 0, .int .i64 0, .int .i64 0]
  obtain ⟨z0, z1, z2, z3, z4⟩ := box5 hb1
  have g0 := hb1.free 0
  have g1 := hb1.free 1
  have g2 := hb1.free 2
  have g3 := hb1.free 3
  have g4 := hb1.free 4
  have HU := hid hu1
  obtain ⟨q, F, rfl, hq⟩ := hv
  · obtain ⟨A, c, hc, _, _, _⟩ := (hq.quiet hu1).cell
    clear hb1 hu1 hq
    go_enter Try.func33, Try.ntmps33
    go_wp2
    exact bodyPost_ret (v := tell none) (by simp [results, go_sem, z0, z1, z2, z3, z4, tell, rv, zr]) rfl ⟨rfl, HU.out⟩
set_option maxHeartbeats 1000000 in
theorem rdue_some (q : Nat) (F : Nat → Prop) (r : Rm) (t : List Rm) (now : Int) (w : World) (h : Wq w F q (r :: t)) (hl : t.length ≤ 1000) :
    Calls Try.prog 33 #[.pointer (some ⟨q, 0, none⟩), .int .i64 now] w fun e w' => e = .returned (tell (dueR (r :: t) now)) ∧ Upd No w w' := by
  have hu1 : Upd No w (w.alloc (.cells #[.string ⟨#[]⟩, .string ⟨#[]⟩, .int .i64 0, .int .i64 0, .int .i64 0] 27)) := (Upd.refl _ _).alloc _
  have hb1 := Blk.fresh w 27 #[.string ⟨#[]⟩, .string ⟨#[]⟩, .int .i64 0, .int .i64 0, .int .i64 0]
  obtain ⟨z0, z1, z2, z3, z4⟩ := box5 hb1
  have g0 := hb1.free 0
  have g1 := hb1.free 1
  have g2 := hb1.free 2
  have g3 := hb1.free 3
  have g4 := hb1.free 4
  have HU := hid hu1
  have HB2 := hid (Blk.fresh w 27 #[.string r.actor, .string r.name, .int .i64 r.due, .int .i64 r.per, .int .i64 r.kind])
  have HU2 : Hid (Upd No w (w.alloc (.cells #[.string r.actor, .string r.name, .int .i64 r.due, .int .i64 r.per, .int .i64 r.kind] 27))) := hid ((Upd.refl _ _).alloc _)
  obtain ⟨A, c, hc, hrd, hlc, hcm⟩ := (h.quiet hu1).cell
  obtain ⟨ad, rfl, hat⟩ := rm_at hrd (i := 0) (by simp)
  rw [Nat.zero_mul, add_none] at hat
  have hat0 : At (w.alloc (.cells #[.string ⟨#[]⟩, .string ⟨#[]⟩, .int .i64 0, .int .i64 0, .int .i64 0] 27)) ad r := hat
  obtain ⟨x0, x1, x2, x3, x4⟩ := hat0
  have HD : Hid (dueR (r :: t) now = if now < r.due then none else some r) := hid rfl
  obtain ⟨N, hN⟩ : ∃ N, N = (r :: t).length := ⟨_, rfl⟩
  rw [← hN] at hc
  have hN1 : (0 : Int) < (N : Int) := by rw [hN, List.length_cons]; omega
  have hN2 : ((N : Int) == 0) = false := by rw [beq_eq_false_iff_ne]; omega
  clear hb1 hu1 h hrd hat hlc hN
  obtain ⟨ac, an, du, ap, ak⟩ := r
  simp only at x0 x1 x2 x3 x4 HB2 HU2 HD ⊢
  by_cases hnd : now < du
  · rw [if_pos hnd] at HD
    rw [HD.out]
    go_enter Try.func33, Try.ntmps33
    go_wp2
    exact bodyPost_ret (v := tell none) (by simp [results, go_sem, z0, z1, z2, z3, z4, tell, rv, zr]) rfl ⟨rfl, HU.out⟩
  · rw [if_neg hnd] at HD
    rw [HD.out]
    go_enter Try.func33, Try.ntmps33
    go_wp2
    obtain ⟨q0, q1, q2, q3, q4⟩ := box5 HB2.out
    exact bodyPost_ret (v := tell (some ⟨ac, an, du, ap, ak⟩)) (by simp [results, go_sem, q0, q1, q2, q3, q4, tell, rv]) rfl ⟨rfl, HU2.out⟩
theorem rdue_ (q : Nat) (F : Nat → Prop) (l : List Rm) (now : Int) (w : World) (h : Wq w F q l) (hl : l.length ≤ 1000) :
    Calls Try.prog 33 #[.pointer (some ⟨q, 0, none⟩), .int .i64 now] w fun e w' => e = .returned (tell (dueR l now)) ∧ Upd No w w' := by
  cases l with
  | nil => exact rdue_none _ now w ⟨q, F, rfl, h⟩
  | cons r t => exact rdue_some q F r t now w h (by simp at hl; omega)
set_option maxHeartbeats 2000000 in
set_option maxRecDepth 100000 in
theorem rserve_none (q : Nat) (F : Nat → Prop) (l : List Rm) (now : Int) (w : World) (h : Wq w F q l) (hl : l.length ≤ 1000) (hd : dueR l now = none) :
    Calls Try.prog 16 #[.pointer (some ⟨q, 0, none⟩), .int .i64 now] w fun e w' => e = .returned (tell none) ∧ Upd No w w' := by
  have hu1 : Upd No w (w.alloc (.cells #[.string ⟨#[]⟩, .string ⟨#[]⟩, .int .i64 0, .int .i64 0, .int .i64 0] 27)) := (Upd.refl _ _).alloc _
  have hb1 := Blk.fresh w 27 #[.string ⟨#[]⟩, .string ⟨#[]⟩, .int .i64 0, .int .i64 0, .int .i64 0]
  have hdu := rdue_ q F l now _ (h.quiet hu1) hl
  rw [hd] at hdu
  simp only [tell, rv, zr, Option.getD_none, Option.isSome_none] at hdu
  have HD := hid hdu
  have HU1 := hid hu1
  have HB1 := hid hb1
  clear hdu hu1 hb1 h
  go_enter Try.func16, Try.ntmps16
  go_wp2_with (fail)
  refine HD.out.mono ?_
  rintro e w2 ⟨rfl, hu2⟩
  have HU3 : Hid (Upd No w (w2.alloc (.cells #[.string ⟨#[]⟩, .string ⟨#[]⟩, .int .i64 0, .int .i64 0, .int .i64 0] 27))) := hid ((HU1.out.next hu2).alloc _)
  have hb3 : Blk (w2.alloc (.cells #[.string ⟨#[]⟩, .string ⟨#[]⟩, .int .i64 0, .int .i64 0, .int .i64 0] 27)) w.heap.size 27 #[.string ⟨#[]⟩, .string ⟨#[]⟩, .int .i64 0, .int .i64 0, .int .i64 0] := (HB1.out.upd hu2 (no_ _)).alloc _
  obtain ⟨y0, y1, y2, y3, y4⟩ := box5 hb3
  have g0 := hb3.free 0
  have g1 := hb3.free 1
  have g2 := hb3.free 2
  have g3 := hb3.free 3
  have g4 := hb3.free 4
  have HB5 := hid (put5_blk hb3 zr)
  have HU5 := hid (put5_new HU3.out (Nat.le_refl _) zr)
  clear hu2 hb3
  go_wp2
  simp only [put5, zr] at HB5 HU5
  obtain ⟨q0, q1, q2, q3, q4⟩ := box5 HB5.out
  exact bodyPost_ret (v := tell none) (by simp [results, go_sem, q0, q1, q2, q3, q4, tell, rv, zr]) rfl ⟨rfl, HU5.out⟩
def RServeOut (q : Nat) (F : Nat → Prop) (o : Option Rm × List Rm) (w : World) (e : Ending) (w' : World) : Prop := e = .returned (tell o.1) ∧ ∃ F', Wq w' F' q o.2 ∧ Mv F F' w w'
theorem RServeOut.of {q : Nat} {F : Nat → Prop} {o : Option Rm × List Rm} {w : World} {e : Ending} {w' : World} (h : e = .returned (tell o.1) ∧ ∃ F', Wq w' F' q o.2 ∧ Mv F F' w w') : RServeOut q F o w e w' := h
set_option maxHeartbeats 2000000 in
set_option maxRecDepth 100000 in
theorem rserve_some (q : Nat) (F : Nat → Prop) (r : Rm) (t : List Rm) (now : Int) (w : World) (h : Wq w F q (r :: t)) (hi : Inv (r :: t)) (hd : dueR (r :: t) now = some r) :
    Calls Try.prog 16 #[.pointer (some ⟨q, 0, none⟩), .int .i64 now] w fun e w' => RServeOut q F (some r, nextR (r :: t) r) w e w' := by
  have hu1 : Upd No w (w.alloc (.cells #[.string ⟨#[]⟩, .string ⟨#[]⟩, .int .i64 0, .int .i64 0, .int .i64 0] 27)) := (Upd.refl _ _).alloc _
  have hb1 := Blk.fresh w 27 #[.string ⟨#[]⟩, .string ⟨#[]⟩, .int .i64 0, .int .i64 0, .int .i64 0]
  have hlen := hi.len
  have hdu := rdue_ q F (r :: t) now _ (h.quiet hu1) (by omega)
  rw [hd] at hdu
  simp only [tell, rv, Option.getD_some, Option.isSome_some] at hdu
  have HD := hid hdu
  have HU1 := hid hu1
  have HB1 := hid hb1
  have HQ := hid h
  have hor := (hi.ok r List.mem_cons_self)
  obtain ⟨hr1, hr2, _, _, _⟩ := hor.r
  have hr3 := hor.d.2
  have hr4 := hor.p.2
  have HCa := hid fun (W : World) (hq : Wq W F q (r :: t)) => rcancel_ q F (r :: t) r.actor r.name W hq (by omega)
  have HN : Hid (nextR (r :: t) r = if r.due + r.per ≤ 9223372036854775807 then ins (del r.actor r.name (r :: t)) { r with due := r.due + r.per } else del r.actor r.name (r :: t)) := hid rfl
  have HLy := hid fun (W : World) (G : Nat → Prop) (x : Rm) (hq : Wq W G q (del r.actor r.name (r :: t))) => rlay_ q G (del r.actor r.name (r :: t)) x W hq (by have := del_le (r :: t) r.actor r.name; omega)
  generalize del r.actor r.name (r :: t) = dl at *
  generalize has r.actor r.name (r :: t) = hz at *
  clear hdu hu1 hb1 h hi hd hor hlen
  obtain ⟨ac, an, du, ap, ak⟩ := r
  unfold rv at HLy
  simp only at HD hr1 hr2 hr3 hr4 HN HCa ⊢
  go_enter Try.func16, Try.ntmps16
  go_wp2_with (fail)
  refine HD.out.mono ?_
  rintro e w2 ⟨rfl, hu2⟩
  obtain ⟨w3, hw3⟩ : ∃ w3, w3 = w2.alloc (.cells #[.string ac, .string an, .int .i64 du, .int .i64 ap, .int .i64 ak] 27) := ⟨_, rfl⟩
  have hu3 : Upd No w w3 := by rw [hw3]; exact (HU1.out.next hu2).alloc _
  have hb3 : Blk w3 w.heap.size 27 #[.string ⟨#[]⟩, .string ⟨#[]⟩, .int .i64 0, .int .i64 0, .int .i64 0] := by rw [hw3]; exact (HB1.out.upd hu2 (no_ _)).alloc _
  obtain ⟨p4, hp4⟩ : ∃ p4, p4 = w.heap.size := ⟨_, rfl⟩
  obtain ⟨p6, hp6⟩ : ∃ p6, p6 = w2.heap.size := ⟨_, rfl⟩
  have hc3 : Blk w3 p6 27 #[.string ac, .string an, .int .i64 du, .int .i64 ap, .int .i64 ak] := by rw [hw3, hp6]; exact Blk.fresh _ _ _
  rw [← hp4] at hb3 ⊢
  have hq3 := HQ.out.quiet hu3
  have hs2 := (HU1.out.next hu2).size
  have HP : Hid (∀ k, F k → k ≠ p4 ∧ k ≠ p6) := hid fun k hk => by have := HQ.out.lt k hk; omega
  have HP2 : Hid (w.heap.size ≤ p4 ∧ w.heap.size ≤ p6 ∧ p4 ≠ p6) := hid ⟨by omega, by omega, fun e => by
    have := HU1.out.next hu2
    have h1 := (HB1.out.upd hu2 (no_ _)).lt
    omega⟩
  have HC4 := hid (HCa.out w3 hq3)
  have HU3 := hid hu3
  have HB3 := hid hb3
  have HC3 := hid hc3
  clear hu3 hb3 hc3 hq3 hs2 hu2 HB1 HD HCa
  go_wp2_with (fail)
  try rw [← hw3]
  try rw [← hp4]
  try rw [← hp6]
  clear hw3 hp4 hp6
  refine HC4.out.mono ?_
  rintro e w5 ⟨rfl, F5, hq5, hm5⟩
  have hb5 := HB3.out.upd hm5.upd fun hk => (HP.out p4 hk).1 rfl
  have hc5 := HC3.out.upd hm5.upd fun hk => (HP.out p6 hk).2 rfl
  have HP5 : Hid (∀ k, F5 k → k ≠ p4 ∧ k ≠ p6) := hid fun k hk => by
    rcases hm5.sub k hk with h | h
    · exact HP.out k h
    · have h1 := HB3.out.lt
      have h2 := HC3.out.lt
      omega
  have HM5 := hid (Mv.box HU3.out hm5)
  have HQ5 := hid hq5
  have HB5 := hid hb5
  have HC5 := hid hc5
  obtain ⟨x0, x1, x2, x3, x4⟩ := box5 hc5
  have y0 := hb5.free 0
  have y1 := hb5.free 1
  have y2 := hb5.free 2
  have y3 := hb5.free 3
  have y4 := hb5.free 4
  obtain ⟨t0, t1, t2, t3, t4⟩ := box5 hb5
  clear hq5 hm5 hb5 hc5 HC4 HB3 HC3 HP
  -- behind the last store
  have HFin : Hid (∀ (W : World) (G : Nat → Prop) (l' : List Rm), Wq W G q l' → Mv F G w W → Blk W p4 27 #[.string ⟨#[]⟩, .string ⟨#[]⟩, .int .i64 0, .int .i64 0, .int .i64 0] → (∀ k, G k → k ≠ p4) →
      Blk (put5 W p4 ⟨ac, an, du, ap, ak⟩) p4 27 #[.string ac, .string an, .int .i64 du, .int .i64 ap, .int .i64 ak] ∧ ∃ F', Wq (put5 W p4 ⟨ac, an, du, ap, ak⟩) F' q l' ∧ Mv F F' w (put5 W p4 ⟨ac, an, du, ap, ak⟩)) := hid fun W G l' hq hm hb hk => by
    have hu := put5_upd W p4 ⟨ac, an, du, ap, ak⟩
    refine ⟨put5_blk hb ⟨ac, an, du, ap, ak⟩, G, hq.upd hu fun k h e => hk k h e, hm.upd.trans hu fun i hi e => ?_, hm.sub⟩
    have := HP2.out.1
    omega
  have hk1 : IntKind.u64.wrap du = du := IntWalk.u64_in _ (by omega)
  have hk2 : IntKind.u64.wrap ap = ap := IntWalk.u64_in _ (by omega)
  have hk3 : IntKind.u64.wrap (du + ap) = du + ap := IntWalk.u64_in _ (by omega)
  by_cases hov : du + ap ≤ 9223372036854775807
  · rw [if_pos hov] at HN
    have hlt : du + ap < 9223372036854775808 := by omega
    have hk4 : IntKind.i64.wrap (du + ap) = du + ap := IntWalk.i64_in _ (by omega)
    have HL := hid (HLy.out w5 F5 ⟨ac, an, du + ap, ap, ak⟩ HQ5.out)
    go_wp2_with (fail)
    refine HL.out.mono ?_
    rintro e w6 ⟨rfl, F6, hq6, hm6⟩
    have hb6 := HB5.out.upd hm6.upd fun hk => (HP5.out p4 hk).1 rfl
    have hc6 := HC5.out.upd hm6.upd fun hk => (HP5.out p6 hk).2 rfl
    obtain ⟨HB7, HE⟩ := HFin.out w6 F6 _ hq6 (Mv.trans HM5.out hm6) hb6 (fun k hk => by
      rcases hm6.sub k hk with h | h
      · exact (HP5.out k h).1
      · have := HB5.out.lt
        omega)
    have HE2 := hid HE
    have HB8 := hid HB7
    obtain ⟨s0, s1, s2, s3, s4⟩ := box5 hb6
    obtain ⟨r0, r1, r2, r3, r4⟩ := box5 hc6
    have f0 := hb6.free 0
    have f1 := hb6.free 1
    have f2 := hb6.free 2
    have f3 := hb6.free 3
    have f4 := hb6.free 4
    clear hq6 hm6 hb6 hc6 HE HB7 HL HLy x0 x1 x2 x3 x4 y0 y1 y2 y3 y4 t0 t1 t2 t3 t4
    go_wp2
    simp only [put5] at HB8 HE2
    obtain ⟨q0, q1, q2, q3, q4⟩ := box5 HB8.out
    exact bodyPost_ret (v := tell (some ⟨ac, an, du, ap, ak⟩)) (by simp [results, go_sem, q0, q1, q2, q3, q4, tell, rv]) rfl (.of ⟨rfl, by rw [HN.out]; exact HE2.out⟩)
  · rw [if_neg hov] at HN
    have hlt : ¬ du + ap < 9223372036854775808 := by omega
    obtain ⟨HB7, HE⟩ := HFin.out w5 F5 dl HQ5.out HM5.out HB5.out (fun k hk => (HP5.out k hk).1)
    have HE2 := hid HE
    have HB8 := hid HB7
    clear hov HE HB7 HLy
    go_wp2
    simp only [put5] at HB8 HE2
    obtain ⟨q0, q1, q2, q3, q4⟩ := box5 HB8.out
    exact bodyPost_ret (v := tell (some ⟨ac, an, du, ap, ak⟩)) (by simp [results, go_sem, q0, q1, q2, q3, q4, tell, rv]) rfl (.of ⟨rfl, by rw [HN.out]; exact HE2.out⟩)
theorem rserve_ (q : Nat) (F : Nat → Prop) (l : List Rm) (now : Int) (w : World) (h : Wq w F q l) (hi : Inv l) :
    Calls Try.prog 16 #[.pointer (some ⟨q, 0, none⟩), .int .i64 now] w fun e w' => RServeOut q F (serveR l now) w e w' := by
  cases hd : dueR l now with
  | none =>
    have e : serveR l now = (none, l) := by unfold serveR; rw [hd]
    rw [e]
    refine (rserve_none q F l now w h (by have := hi.len; omega) hd).mono ?_
    rintro e w' ⟨rfl, hu⟩
    exact .of ⟨rfl, F, h.quiet hu, Mv.quiet (hu.old (Nat.le_refl _))⟩
  | some r =>
    have e : serveR l now = (some r, nextR l r) := by unfold serveR; rw [hd]
    rw [e]
    obtain ⟨t, rfl, _⟩ := due_mem hd
    exact rserve_some q F r t now w h hi hd
end Go.Proofs.Ytlicimkpgnemeaa.Nd
