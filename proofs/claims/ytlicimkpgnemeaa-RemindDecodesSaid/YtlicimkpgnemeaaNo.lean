/-
  Set, Cancel, Due, Serve, All of package remind.
-/
import Derived.Test.YtlicimkpgnemeaaNq
set_option linter.unusedVariables false
set_option linter.unusedSimpArgs false
namespace Go.Proofs.Ytlicimkpgnemeaa.Nd
open Go.RowKit Go.Proofs.Ytlicimkpgnemeaa.B Go.Proofs.Ytlicimkpgnemeaa.Op
/-- What a Delete of element i leaves, once it is stored. -/
def DelPost (w : World) (F : Nat → Prop) (q g c N1 : Nat) (l' : List Rm) (e : Ending) (w' : World) : Prop :=
  e = .returned (.slice (some ⟨g, 0, none⟩) N1 c) ∧ (∃ v, w'.cell? ⟨q, 0, none⟩ = some v) ∧ w'.frozen? ⟨q, 0, none⟩ = false ∧ ∃ F', Qo (w'.setCell ⟨q, 0, none⟩ (.slice (some ⟨g, 0, none⟩) N1 c)) F' q l' ∧ Mv F F' w (w'.setCell ⟨q, 0, none⟩ (.slice (some ⟨g, 0, none⟩) N1 c))
theorem del_call {w : World} {F : Nat → Prop} {q : Nat} {l : List Rm} (h : Qo w F q l) {i N1 : Nat} (hi : i < l.length) (hN : l.length = N1 + 1) (hl : l.length ≤ 1000) :
    ∃ g c, w.cell? ⟨q, 0, none⟩ = some (.slice (some ⟨g, 0, none⟩) l.length c) ∧ Calls Try.prog 27 #[.slice (some ⟨g, 0, none⟩) l.length c, .int .i64 i, .int .i64 ((i : Int) + 1)] w (DelPost w F q g c N1 (l.take i ++ l.drop (i + 1))) := by
  obtain ⟨A, c, hb, ho, hF, hlc, hcm⟩ := h.parts
  obtain ⟨g, cur, hA, _⟩ := own_parts ho (by omega)
  subst hA
  have e0 := hb.cell 0
  simp at e0
  have hd := delete 0 g c i (i + 1) l.length N1 (l.flatMap rc) w ho (flat_one l) rfl hN hi
  rw [show ((i + 1 : Nat) : Int) = (i : Int) + 1 from by omega] at hd
  refine ⟨g, c, e0, hd.mono ?_⟩
  rintro e w' ⟨rfl, ho1, hu1⟩
  have hgq : q ≠ g := fun e => own_blk_ne ho hb (by decide) (e ▸ rfl)
  have hb1 := hb.upd hu1 hgq
  have e1 := hb1.cell 0
  simp at e1
  have hlen : (l.take i ++ l.drop (i + 1)).length = N1 := by rw [List.length_append, List.length_take, List.length_drop]; omega
  have hfl : (l.take i ++ l.drop (i + 1)).flatMap rc = (l.flatMap rc).take (i * 5) ++ (l.flatMap rc).drop ((i + 1) * 5) := by rw [List.flatMap_append, flat_take, flat_drop]
  refine ⟨rfl, ⟨_, e1⟩, hb1.free 0, Qo.stored (l' := l.take i ++ l.drop (i + 1)) hb ho hF (hu1.mono fun k _ hk => by rw [hk]; rfl) (v' := .slice (some ⟨g, 0, none⟩) N1 c) (by rw [hlen, hfl]; exact ho1) (fun k hk => .inl hk) rfl⟩
theorem Mv.box {F F' : Nat → Prop} {w w1 w2 : World} (h : Upd No w w1) (k : Mv F F' w1 w2) : Mv F F' w w2 := Mv.trans (Mv.quiet (h.old (Nat.le_refl _))) k
theorem box5 {W : World} {p : Nat} {t : TypeId} {a0 a1 a2 a3 a4 : Value} (h : Blk W p t #[a0, a1, a2, a3, a4]) : W.cell? ⟨p, 0, none⟩ = some a0 ∧ W.cell? ⟨p, 1, none⟩ = some a1 ∧ W.cell? ⟨p, 2, none⟩ = some a2 ∧ W.cell? ⟨p, 3, none⟩ = some a3 ∧ W.cell? ⟨p, 4, none⟩ = some a4 := by
  have h0 := h.cell 0
  have h1 := h.cell 1
  have h2 := h.cell 2
  have h3 := h.cell 3
  have h4 := h.cell 4
  simp at h0 h1 h2 h3 h4
  exact ⟨h0, h1, h2, h3, h4⟩
set_option maxHeartbeats 4000000 in
set_option maxRecDepth 100000 in
theorem set_ (q : Nat) (F : Nat → Prop) (l : List Rm) (r : Rm) (w : World) (h : Qo w F q l) (hi : Inv l) :
    Calls Try.prog 12 #[.pointer (some ⟨q, 0, none⟩), rv r] w fun e w' => e = .returned (.int .i64 (setR l r).1) ∧ ∃ F', Qo w' F' q (setR l r).2 ∧ Mv F F' w w' := by
  have HSt : Hid (setR l r = if wrongR r ≠ 0 then (wrongR r, l) else if has r.actor r.name l = false ∧ 64 ≤ l.length then (6, l) else (0, ins (del r.actor r.name l) r)) := hid rfl
  have hl64 := hi.len
  have HI := hid hi
  have HQ := hid h
  have HWr := hid fun W => wrong_ r W
  have HFd := hid fun (W : World) (hq : Qo W F q l) => find_ q F l r.actor r.name W hq (by omega)
  have HLy := hid fun (W : World) (G : Nat → Prop) (l' : List Rm) (hq : Qo W G q l') (hs : l'.Pairwise fun a b => less a b = true) (hl : l'.length + 1 ≤ 1000) => lay_ q G l' r W hq hs hl
  have HW1 : Hid (∃ w1 p, w1 = w.alloc (.cells (rc r).toArray 30) ∧ p = w.heap.size ∧ Blk w1 p 30 (rc r).toArray ∧ Upd No w w1) := hid ⟨_, _, rfl, rfl, Blk.fresh _ _ _, (Upd.refl _ _).alloc _⟩
  clear h hi
  obtain ⟨ac, an, ad, ap, ak⟩ := r
  unfold rv at HWr HLy ⊢
  simp only [rc] at HW1
  simp only at HWr HFd HLy HSt ⊢
  generalize hwr : wrongR ⟨ac, an, ad, ap, ak⟩ = wr at *
  clear hwr
  go_enter Try.func12, Try.ntmps12
  go_wp2_with (fail)
  obtain ⟨w1, p, hw1, hp, hb1, hu1⟩ := HW1.out
  rw [← hw1]
  try rw [← hp]
  have HB1 := hid hb1
  have HU1 := hid hu1
  have HP : Hid (∀ k, F k → k ≠ p) := hid fun k hk e => by have := HQ.out.lt k hk; omega
  clear hw1 hp hb1 hu1 HW1
  refine (HWr.out _).mono ?_
  rintro e w2 ⟨rfl, hu2⟩
  have HU2 := hid (HU1.out.next hu2)
  have HB2 := hid (HB1.out.upd hu2 (no_ _))
  obtain ⟨x0, x1, x2, x3, x4⟩ := box5 HB2.out
  clear hu2 HWr HB1
  by_cases hw : wr = 0
  case' neg =>
    rw [if_pos hw] at HSt
    have hw' : (wr != 0) = true := by simpa using hw
    have HE : Hid (∃ F', Qo w2 F' q l ∧ Mv F F' w w2) := hid ⟨F, HQ.out.quiet HU2.out, Mv.quiet (HU2.out.old (Nat.le_refl _))⟩
    clear hw
    go_wp2
    go_ret
    rw [HSt.out]
    exact ⟨rfl, HE.out⟩
  rw [if_neg (by simpa using hw)] at HSt
  have hw' : (wr != 0) = false := by simpa using hw
  clear hw
  have hfd := HFd.out w2 (HQ.out.quiet HU2.out)
  unfold IxOut at hfd
  have HFi := hid hfd
  clear hfd HFd
  go_wp2_with (fail)
  refine HFi.out.mono ?_
  rintro e w3 ⟨ri, rfl, hix, hu3⟩
  have HU3 := hid (HU2.out.next hu3)
  have HB3 := hid (HB2.out.upd hu3 (no_ _))
  have hq3 := HQ.out.quiet HU3.out
  have HQ3 := hid hq3
  obtain ⟨y0, y1, y2, y3, y4⟩ := box5 HB3.out
  clear hu3 HFi HB2 x0 x1 x2 x3 x4
  rcases hix with ⟨rfl, hh⟩ | ⟨j, hj, rfl, hk⟩
  · obtain ⟨A, c, hc, _, hlc, _⟩ := hq3.cell
    by_cases hf : 64 ≤ l.length
    · have hf' : (64 : Int) ≤ (l.length : Int) := by omega
      rw [if_pos ⟨hh, hf⟩] at HSt
      have HE : Hid (∃ F', Qo w3 F' q l ∧ Mv F F' w w3) := hid ⟨F, HQ3.out, Mv.quiet (HU3.out.old (Nat.le_refl _))⟩
      clear hf hq3
      go_wp2
      go_ret
      rw [HSt.out]
      exact ⟨rfl, HE.out⟩
    · have hf' : ¬ (64 : Int) ≤ (l.length : Int) := by omega
      rw [if_neg (fun h => hf h.2), del_none hh] at HSt
      have HL := hid (HLy.out w3 F l hq3 HI.out.srt (by omega))
      clear hf hq3 HLy
      go_wp2_with (fail)
      refine HL.out.mono ?_
      rintro e w4 ⟨rfl, F4, hq4, hm4⟩
      have HE : Hid (∃ F', Qo w4 F' q (ins l ⟨ac, an, ad, ap, ak⟩) ∧ Mv F F' w w4) := hid ⟨F4, hq4, Mv.box HU3.out hm4⟩
      clear hq4 hm4 HL
      go_wp2
      go_ret
      rw [HSt.out]
      exact ⟨rfl, HE.out⟩
  · obtain ⟨N1, hN1⟩ : ∃ N1, l.length = N1 + 1 := ⟨l.length - 1, by omega⟩
    obtain ⟨g, c, hc, hdc⟩ := del_call hq3 hj hN1 (by omega)
    have hdel := del_at HI.out.unq hj hk
    rw [← hdel] at hdc
    unfold DelPost at hdc
    have HD := hid hdc
    have hhas : has ac an l = true := List.any_eq_true.2 ⟨_, List.getElem_mem hj, hk⟩
    rw [if_neg (fun h => by rw [hhas] at h; cases h.1)] at HSt
    have HInv := hid (HI.out.del ac an)
    have HLd := hid (del_lt hhas)
    have hj0 : (0 : Int) ≤ (j : Int) := by omega
    have hj6 : (j : Int) < 64 := by omega
    generalize del ac an l = l2 at *
    have hN := hid hN1
    clear hdc hdel hhas hk hq3 hN1
    go_wp2_with (fail)
    refine HD.out.mono ?_
    rintro e w4 ⟨rfl, ⟨v4, hv4⟩, hf4, F5, hq5, hm5⟩
    have HQ5 := hid hq5
    have HM5 := hid (Mv.box HU3.out hm5)
    have HB5 : Hid (Blk (w4.setCell ⟨q, 0, none⟩ (.slice (some ⟨g, 0, none⟩) N1 c)) p 30 #[.string ac, .string an, .int .i64 ad, .int .i64 ap, .int .i64 ak]) := hid (HB3.out.upd hm5.upd fun hk => HP.out p hk rfl)
    have HL := hid (HLy.out _ F5 l2 hq5 HInv.out.srt (by have := HLd.out; omega))
    obtain ⟨t0, t1, t2, t3, t4⟩ := box5 HB5.out
    generalize hw5 : w4.setCell ⟨q, 0, none⟩ (.slice (some ⟨g, 0, none⟩) N1 c) = w5 at *
    clear hq5 hm5 HD HLy
    go_wp2_with (fail)
    refine HL.out.mono ?_
    rintro e w6 ⟨rfl, F6, hq6, hm6⟩
    have HE : Hid (∃ F', Qo w6 F' q (ins l2 ⟨ac, an, ad, ap, ak⟩) ∧ Mv F F' w w6) := hid ⟨F6, hq6, Mv.trans HM5.out hm6⟩
    clear hq6 hm6 HL
    go_wp2
    go_ret
    rw [HSt.out]
    exact ⟨rfl, HE.out⟩
set_option maxHeartbeats 400000 in
theorem set_nil (r : Rm) (w : World) : Calls Try.prog 12 #[.pointer none, rv r] w fun e w' => e = .returned (.int .i64 1) ∧ Upd No w w' := by
  unfold rv
  have HU : Hid (Upd No w (w.alloc (.cells #[.string r.actor, .string r.name, .int .i64 r.due, .int .i64 r.per, .int .i64 r.kind] 30))) := hid ((Upd.refl _ _).alloc _)
  go_enter Try.func12, Try.ntmps12
  go_wp2
  go_ret
  exact ⟨rfl, HU.out⟩
set_option maxHeartbeats 400000 in
theorem cancel_nil (a n : ByteArray) (w : World) : Calls Try.prog 15 #[.pointer none, .string a, .string n] w fun e w' => e = .returned (.bool false) ∧ w = w' := by
  go_enter Try.func15, Try.ntmps15
  go_wp2
  go_ret
  exact ⟨rfl, rfl⟩
set_option maxHeartbeats 2000000 in
set_option maxRecDepth 100000 in
theorem cancel_ (q : Nat) (F : Nat → Prop) (l : List Rm) (a n : ByteArray) (w : World) (h : Qo w F q l) (hi : Inv l) :
    Calls Try.prog 15 #[.pointer (some ⟨q, 0, none⟩), .string a, .string n] w fun e w' => e = .returned (.bool (has a n l)) ∧ ∃ F', Qo w' F' q (del a n l) ∧ Mv F F' w w' := by
  have hl64 := hi.len
  have HI := hid hi
  have HQ := hid h
  have hfd := find_ q F l a n w h (by omega)
  unfold IxOut at hfd
  have HFi := hid hfd
  clear h hi hfd
  go_enter Try.func15, Try.ntmps15
  go_wp2_with (fail)
  refine HFi.out.mono ?_
  rintro e w3 ⟨ri, rfl, hix, hu3⟩
  have HU3 := hid hu3
  have hq3 := HQ.out.quiet HU3.out
  clear hu3 HFi
  rcases hix with ⟨rfl, hh⟩ | ⟨j, hj, rfl, hk⟩
  · have HE : Hid (has a n l = false ∧ ∃ F', Qo w3 F' q (del a n l) ∧ Mv F F' w w3) := hid ⟨hh, F, by rw [del_none hh]; exact hq3, Mv.quiet (HU3.out.old (Nat.le_refl _))⟩
    clear hh hq3
    go_wp2
    go_ret
    exact ⟨congrArg (fun z => Ending.returned (.bool z)) HE.out.1.symm, HE.out.2⟩
  · obtain ⟨N1, hN1⟩ : ∃ N1, l.length = N1 + 1 := ⟨l.length - 1, by omega⟩
    obtain ⟨g, c, hc, hdc⟩ := del_call hq3 hj hN1 (by omega)
    have hdel := del_at HI.out.unq hj hk
    rw [← hdel] at hdc
    unfold DelPost at hdc
    have HD := hid hdc
    have HH := hid (show has a n l = true from List.any_eq_true.2 ⟨_, List.getElem_mem hj, hk⟩)
    have hj0 : (0 : Int) ≤ (j : Int) := by omega
    have hj6 : (j : Int) < 64 := by omega
    have hN := hid hN1
    clear hdc hdel hk hq3 hN1
    go_wp2_with (fail)
    refine HD.out.mono ?_
    rintro e w4 ⟨rfl, ⟨v4, hv4⟩, hf4, F5, hq5, hm5⟩
    have HE : Hid (∃ F', Qo (w4.setCell ⟨q, 0, none⟩ (.slice (some ⟨g, 0, none⟩) N1 c)) F' q (del a n l) ∧ Mv F F' w (w4.setCell ⟨q, 0, none⟩ (.slice (some ⟨g, 0, none⟩) N1 c))) := hid ⟨F5, hq5, Mv.box HU3.out hm5⟩
    clear hq5 hm5 HD
    go_wp2
    go_ret
    exact ⟨congrArg (fun z => Ending.returned (.bool z)) HH.out.symm, HE.out⟩
/-! ### the first one -/
def zr : Rm := ⟨⟨#[]⟩, ⟨#[]⟩, 0, 0, 0⟩
def put5 (w : World) (p : Nat) (r : Rm) : World := ((((w.setCell ⟨p, 0, none⟩ (.string r.actor)).setCell ⟨p, 1, none⟩ (.string r.name)).setCell ⟨p, 2, none⟩ (.int .i64 r.due)).setCell ⟨p, 3, none⟩ (.int .i64 r.per)).setCell ⟨p, 4, none⟩ (.int .i64 r.kind)
theorem put5_blk {w : World} {p : Nat} {t : TypeId} {a0 a1 a2 a3 a4 : Value} (h : Blk w p t #[a0, a1, a2, a3, a4]) (r : Rm) : Blk (put5 w p r) p t #[.string r.actor, .string r.name, .int .i64 r.due, .int .i64 r.per, .int .i64 r.kind] := by
  have := ((((h.put 0 (.string r.actor)).put 1 (.string r.name)).put 2 (.int .i64 r.due)).put 3 (.int .i64 r.per)).put 4 (.int .i64 r.kind)
  simpa [put5] using this
theorem put5_upd (w : World) (p : Nat) (r : Rm) : Upd (fun k => k = p) w (put5 w p r) := ((((Upd.set1 (Upd.refl _ _) _ _).set1 _ _).set1 _ _).set1 _ _).set1 _ _
theorem put5_new {w w1 : World} {p : Nat} (h : Upd No w w1) (hp : w.heap.size ≤ p) (r : Rm) : Upd No w (put5 w1 p r) := h.trans (put5_upd w1 p r) fun i hi e => absurd hi (by omega)
/-- What Due and Serve tell. -/
def tell (o : Option Rm) : Value := .tuple #[rv (o.getD zr), .bool o.isSome]
set_option maxHeartbeats 1000000 in
theorem due_none (v : Value) (now : Int) (w : World) (hv : v = .pointer none ∨ ∃ q F, v = .pointer (some ⟨q, 0, none⟩) ∧ Qo w F q []) :
    Calls Try.prog 19 #[v, .int .i64 now] w fun e w' => e = .returned (tell none) ∧ Upd No w w' := by
  have hu1 : Upd No w (w.alloc (.cells #[.string ⟨#[]⟩, .string ⟨#[]⟩, .int .i64 0, .int .i64 0, .int .i64 0] 30)) := (Upd.refl _ _).alloc _
  have hb1 := Blk.fresh w 30 #[.string ⟨#[]⟩, .string ⟨#[]⟩, .int .i64 0, .int .i64 0, .int .i64 0]
  obtain ⟨z0, z1, z2, z3, z4⟩ := box5 hb1
  have g0 := hb1.free 0
  have g1 := hb1.free 1
  have g2 := hb1.free 2
  have g3 := hb1.free 3
  have g4 := hb1.free 4
  have HU := hid hu1
  rcases hv with rfl | ⟨q, F, rfl, hq⟩
  · clear hb1 hu1
    go_enter Try.func19, Try.ntmps19
    go_wp2
    exact bodyPost_ret (v := tell none) (by simp [results, go_sem, z0, z1, z2, z3, z4, tell, rv, zr]) rfl ⟨rfl, HU.out⟩
  · obtain ⟨A, c, hc, _, _, _⟩ := (hq.quiet hu1).cell
    clear hb1 hu1 hq
    go_enter Try.func19, Try.ntmps19
    go_wp2
    exact bodyPost_ret (v := tell none) (by simp [results, go_sem, z0, z1, z2, z3, z4, tell, rv, zr]) rfl ⟨rfl, HU.out⟩
set_option maxHeartbeats 1000000 in
theorem due_some (q : Nat) (F : Nat → Prop) (r : Rm) (t : List Rm) (now : Int) (w : World) (h : Qo w F q (r :: t)) (hl : t.length ≤ 1000) :
    Calls Try.prog 19 #[.pointer (some ⟨q, 0, none⟩), .int .i64 now] w fun e w' => e = .returned (tell (dueR (r :: t) now)) ∧ Upd No w w' := by
  have hu1 : Upd No w (w.alloc (.cells #[.string ⟨#[]⟩, .string ⟨#[]⟩, .int .i64 0, .int .i64 0, .int .i64 0] 30)) := (Upd.refl _ _).alloc _
  have hb1 := Blk.fresh w 30 #[.string ⟨#[]⟩, .string ⟨#[]⟩, .int .i64 0, .int .i64 0, .int .i64 0]
  obtain ⟨z0, z1, z2, z3, z4⟩ := box5 hb1
  have g0 := hb1.free 0
  have g1 := hb1.free 1
  have g2 := hb1.free 2
  have g3 := hb1.free 3
  have g4 := hb1.free 4
  have HU := hid hu1
  have HB2 := hid (Blk.fresh w 30 #[.string r.actor, .string r.name, .int .i64 r.due, .int .i64 r.per, .int .i64 r.kind])
  have HU2 : Hid (Upd No w (w.alloc (.cells #[.string r.actor, .string r.name, .int .i64 r.due, .int .i64 r.per, .int .i64 r.kind] 30))) := hid ((Upd.refl _ _).alloc _)
  obtain ⟨A, c, hc, hrd, hlc, hcm⟩ := (h.quiet hu1).cell
  obtain ⟨ad, rfl, hat⟩ := rm_at hrd (i := 0) (by simp)
  rw [Nat.zero_mul, add_none] at hat
  have hat0 : At (w.alloc (.cells #[.string ⟨#[]⟩, .string ⟨#[]⟩, .int .i64 0, .int .i64 0, .int .i64 0] 30)) ad r := hat
  obtain ⟨x0, x1, x2, x3, x4⟩ := hat0
  have HD : Hid (dueR (r :: t) now = if now < r.due then none else some r) := hid rfl
  obtain ⟨N, hN⟩ : ∃ N, N = (r :: t).length := ⟨_, rfl⟩
  rw [← hN] at hc
  have hN1 : (0 : Int) < (N : Int) := by rw [hN, List.length_cons]; omega
  have hN2 : ((N : Int) == 0) = false := by rw [beq_eq_false_iff_ne]; omega
  clear hb1 hu1 h hrd hat hlc hN
  obtain ⟨ac, an, du, ap, ak⟩ := r
  simp only at x0 x1 x2 x3 x4 HB2 HU2 HD ⊢
  by_cases hnd : now < du
  · rw [if_pos hnd] at HD
    rw [HD.out]
    go_enter Try.func19, Try.ntmps19
    go_wp2
    exact bodyPost_ret (v := tell none) (by simp [results, go_sem, z0, z1, z2, z3, z4, tell, rv, zr]) rfl ⟨rfl, HU.out⟩
  · rw [if_neg hnd] at HD
    rw [HD.out]
    go_enter Try.func19, Try.ntmps19
    go_wp2
    obtain ⟨q0, q1, q2, q3, q4⟩ := box5 HB2.out
    exact bodyPost_ret (v := tell (some ⟨ac, an, du, ap, ak⟩)) (by simp [results, go_sem, q0, q1, q2, q3, q4, tell, rv]) rfl ⟨rfl, HU2.out⟩
theorem due_ (q : Nat) (F : Nat → Prop) (l : List Rm) (now : Int) (w : World) (h : Qo w F q l) (hl : l.length ≤ 1000) :
    Calls Try.prog 19 #[.pointer (some ⟨q, 0, none⟩), .int .i64 now] w fun e w' => e = .returned (tell (dueR l now)) ∧ Upd No w w' := by
  cases l with
  | nil => exact due_none _ now w (.inr ⟨q, F, rfl, h⟩)
  | cons r t => exact due_some q F r t now w h (by simp at hl; omega)
end Go.Proofs.Ytlicimkpgnemeaa.Nd
