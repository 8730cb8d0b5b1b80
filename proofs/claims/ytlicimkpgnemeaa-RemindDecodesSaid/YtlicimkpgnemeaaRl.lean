/-
  The walk of Encode of a queue.
-/
import Derived.Test.YtlicimkpgnemeaaRk
set_option linter.unusedVariables false
set_option linter.unusedSimpArgs false
namespace Go.Proofs.Ytlicimkpgnemeaa.Nd
open Go.RowKit Go.Proofs.Ytlicimkpgnemeaa Go.Proofs.Ytlicimkpgnemeaa.B Go.Proofs.Ytlicimkpgnemeaa.Op Go.Proofs.Ytlicimkpgnemeaa.Cm Go.Proofs.Ytlicimkpgnemeaa.Cw
def EnOut (w : World) (l : List Int) (e : Ending) (w' : World) : Prop := ∃ A c, e = .returned (.slice A l.length c) ∧ l.length ≤ c ∧ c ≤ 9223372036854775807 ∧ Rn w' .u8 A l ∧ Upd No w w'
theorem EnOut.of {w : World} {l : List Int} {e : Ending} {w' : World} (h : ∃ A c, e = .returned (.slice A l.length c) ∧ l.length ≤ c ∧ c ≤ 9223372036854775807 ∧ Rn w' .u8 A l ∧ Upd No w w') : EnOut w l e w' := h
/-- A writer's progress: it is of the call's own. -/
structure Wo (w W : World) (F : Nat → Prop) (q : Nat) (bs : List Int) : Prop where
  wr : Wr W F q bs
  own : ∀ k, F k → w.heap.size ≤ k
  upd : Upd No w W
theorem Wo.moved {w W W' : World} {F F' : Nat → Prop} {q : Nat} {bs cs : List Int} (h : Wo w W F q bs) (hw : Wr W' F' q cs) (hm : Mv F F' W W') : Wo w W' F' q cs :=
  ⟨hw, fun k hk => (hm.sub k hk).elim (h.own k) fun hs => Nat.le_trans h.upd.size hs, h.upd.trans hm.upd fun i hi hf => by have := h.own i hf; omega⟩
theorem Wo.quiet {w W W' : World} {F : Nat → Prop} {q : Nat} {bs : List Int} (h : Wo w W F q bs) (hu : Upd No W W') : Wo w W' F q bs := ⟨h.wr.keep hu fun _ _ => no_ _, h.own, h.upd.next hu⟩
theorem enc_take {x : List Rm} {j : Nat} (hj : j < x.length) : (x.take (j + 1)).flatMap encR = (x.take j).flatMap encR ++ encR x[j] := by
  rw [List.take_succ_eq_append_getElem hj, List.flatMap_append]
  simp
theorem Wo.box {w W : World} {F : Nat → Prop} {q : Nat} {bs : List Int} (h : Wo w W F q bs) (o : Obj) : Wo w (W.alloc o) F q bs := h.quiet ((Upd.refl No W).alloc o)
theorem box_moved {W W' : World} {G G' : Nat → Prop} {p t : Nat} {cs : Array Value} (hb : Blk W p t cs ∧ ¬ G p) (hm : Mv G G' W W') : Blk W' p t cs ∧ ¬ G' p :=
  ⟨hb.1.upd hm.upd hb.2, fun hk => (hm.sub p hk).elim hb.2 (fun h1 => by have := hb.1.lt; omega)⟩
set_option maxHeartbeats 4000000 in
set_option maxRecDepth 100000 in
theorem encode_ {w : World} {F : Nat → Prop} {q0 : Nat} {x : List Rm} (h : Qo w F q0 x) (hok : Inv x) :
    Calls Try.prog 20 #[.pointer (some ⟨q0, 0, none⟩)] w fun e w' => EnOut w (encQ x) e w' := by
  have hlx := hok.len
  obtain ⟨A, k, hc, hrd, hk1, hk2⟩ := h.cell
  simp only [maxLen] at hk2
  have HC : Hid (∀ W, Upd No w W → W.cell? ⟨q0, 0, none⟩ = some (.slice A x.length k) ∧ Rd W 5 A x.length (x.flatMap rc)) := hid fun W hu => by
    obtain ⟨A', k', hb1, _⟩ := h.parts
    have h0 := hb1.cell 0
    simp at h0
    rw [h0] at hc
    injection hc with hc
    rw [hc] at hb1
    have h1 := (hb1.upd hu (no_ _)).cell 0
    simp at h1
    exact ⟨h1, Rd.upd hrd (by omega) hu fun _ _ => no_ _⟩
  have HE : Hid (encQ x = num (x.length : Int) ++ x.flatMap encR) := hid rfl
  have HL : Hid ((∀ j, ((x.take j).flatMap encR).length ≤ 8000) ∧ (num (x.length : Int)).length ≤ 9) := hid ⟨encQ_take_le hok, (num_length _).2⟩
  have HO := hid hok
  have hwn : IntKind.u64.wrap (x.length : Int) = (x.length : Int) := by
    rw [IntKind.wrap_u64]
    omega
  clear h hok hc hrd
  go_enter Try.func20, Try.ntmps20
  go_wp2_with (fail)
  refine Calls.mono (newWriter w) ?_
  rintro e w1 ⟨rfl, rfl⟩
  have HW : Hid (∃ w1 q F1, w1 = w.alloc (.cells #[.slice none 0 0] 96) ∧ q = w.heap.size ∧ Wo w w1 F1 q []) := hid ⟨_, _, _, rfl, rfl, ⟨Wr.new w, fun k hk => by omega, (Upd.refl _ _).alloc _⟩⟩
  obtain ⟨w1, q, F1, hw1, hq, hO1⟩ := HW.out
  rw [← hw1, ← hq]
  have HO1 := hid hO1
  clear hw1 hq hO1 HW
  have y0 := (HC.out w1 HO1.out.upd).1
  go_wp2_with (fail)
  refine Calls.mono (number q [] (x.length : Int) F1 w1 HO1.out.wr (by omega) (by omega) (by simp)) ?_
  rintro e w2 ⟨rfl, F2, hw2, hm2⟩
  have HO2 := hid (HO1.out.moved hw2 hm2)
  rw [List.nil_append] at HO2
  clear hw2 hm2 HO1 F1 hwn y0
  have y0 := (HC.out w2 HO2.out.upd).1
  go_wp2_with (fail)
  clear y0
  go_loopw [22] (fun v22 W => ∃ (j : Nat) (F' : Nat → Prop) (cs : List Int), j ≤ x.length ∧ v22 = .int .i64 j ∧ Hid (cs = num (x.length : Int) ++ (x.take j).flatMap encR) ∧ Hid (Wo w W F' q cs)) (fun v22 _ => x.length - (intOf v22).toNat)
  case atStart => exact ⟨0, F2, _, by omega, rfl, hid (by simp), HO2⟩
  case round =>
    clear HO2
    obtain ⟨j, F', cs, hj, rfl, HCs, HW⟩ := hrel
    by_cases hlt : j < x.length
    · obtain ⟨ad, rfl, hat⟩ := rm_at (HC.out wr HW.out.upd).2 hlt
      have hor := HO.out.ok _ (List.getElem_mem hlt)
      have HT : Hid ((x.take (j + 1)).flatMap encR = (x.take j).flatMap encR ++ encR x[j]) := hid (enc_take hlt)
      generalize x[j] = r at *
      have h5 := hor.r
      have hd := hor.d
      have hp := hor.p
      have hk := hor.k
      unfold I64 at hd hp hk
      obtain ⟨ra, rn, rd, rp, rk⟩ := r
      obtain ⟨x0, x1, x2, x3, x4⟩ := hat
      simp only at x0 x1 x2 x3 x4 h5 hd hp hk
      have hj1 : (0 : Int) ≤ (j : Int) := by omega
      have hj2 : (j : Int) < (x.length : Int) := by omega
      have hb1 : cs.length ≤ 9000 := by
        have h1 := HL.out.1 j
        have h2 := HL.out.2
        rw [HCs.out, List.length_append]
        omega
      have HBx : Hid (∃ W5 p5, W5 = wr.alloc (.cells #[.string ra, .string rn, .int .i64 rd, .int .i64 rp, .int .i64 rk] 30) ∧ p5 = wr.heap.size ∧ Blk W5 p5 30 #[.string ra, .string rn, .int .i64 rd, .int .i64 rp, .int .i64 rk] ∧ Wo w W5 F' q cs ∧ ¬ F' p5) := hid ⟨_, _, rfl, rfl, Blk.fresh _ _ _, HW.out.box _, fun hf => by have := HW.out.wr.lt _ hf; omega⟩
      obtain ⟨W5, p5, hW5, hp5, hB5, hO5, hn5⟩ := HBx.out
      have hnl : ∀ n : Int, (num n).length ≤ 9 := fun n => (num_length n).2
      have hsa := sb_length ra
      have hsn := sb_length rn
      have HN1 := hid (text_ q cs ra F' W5 hO5.wr (by omega))
      have HX5 := hid (And.intro hB5 (And.intro hO5 hn5))
      clear hB5 hO5 hn5 HBx hor
      go_wp2_with (fail)
      rw [← hW5]
      try rw [← hp5]
      clear hW5 hp5 x0 x1 x2 x3 x4
      refine Calls.mono HN1.out ?_
      rintro e w6 ⟨rfl, F6, hw6, hm6⟩
      have HB6 := hid (box_moved ⟨HX5.out.1, HX5.out.2.2⟩ hm6)
      have HO6 := hid (HX5.out.2.1.moved hw6 hm6)
      obtain ⟨y0, y1, y2, y3, y4⟩ := box5 HB6.out.1
      obtain ⟨c6, hc6⟩ : ∃ c6, c6 = cs ++ num ra.size ++ sb ra := ⟨_, rfl⟩
      have hl6 : c6.length ≤ 9100 := by rw [hc6]; simp only [List.length_append]; have := hnl ra.size; omega
      rw [← hc6] at HO6
      have HC6 := hid hc6
      have HN2 := hid (text_ q c6 rn F6 w6 HO6.out.wr (by omega))
      clear hw6 hm6 HN1 hc6 HX5
      go_wp2_with (fail)
      refine Calls.mono HN2.out ?_
      rintro e w7 ⟨rfl, F7, hw7, hm7⟩
      have HB7 := hid (box_moved HB6.out hm7)
      have HO7 := hid (HO6.out.moved hw7 hm7)
      clear y0 y1 y2 y3 y4
      obtain ⟨y0, y1, y2, y3, y4⟩ := box5 HB7.out.1
      obtain ⟨c7, hc7⟩ : ∃ c7, c7 = c6 ++ num rn.size ++ sb rn := ⟨_, rfl⟩
      have hl7 : c7.length ≤ 9200 := by rw [hc7]; simp only [List.length_append]; have := hnl rn.size; omega
      rw [← hc7] at HO7
      have HC7 := hid hc7
      have HN3 := hid (int_ q c7 rd F7 w7 HO7.out.wr hd.1 hd.2 (by omega))
      clear hw7 hm7 HN2 hc7 HB6 HO6
      go_wp2_with (fail)
      refine Calls.mono HN3.out ?_
      rintro e w8 ⟨rfl, F8, hw8, hm8⟩
      have HB8 := hid (box_moved HB7.out hm8)
      have HO8 := hid (HO7.out.moved hw8 hm8)
      clear y0 y1 y2 y3 y4
      obtain ⟨y0, y1, y2, y3, y4⟩ := box5 HB8.out.1
      obtain ⟨c8, hc8⟩ : ∃ c8, c8 = c7 ++ num (zz rd) := ⟨_, rfl⟩
      have hl8 : c8.length ≤ 9300 := by rw [hc8]; simp only [List.length_append]; have := hnl (zz rd); omega
      rw [← hc8] at HO8
      have HC8 := hid hc8
      have HN4 := hid (int_ q c8 rp F8 w8 HO8.out.wr hp.1 hp.2 (by omega))
      clear hw8 hm8 HN3 hc8 HB7 HO7
      go_wp2_with (fail)
      refine Calls.mono HN4.out ?_
      rintro e w9 ⟨rfl, F9, hw9, hm9⟩
      have HB9 := hid (box_moved HB8.out hm9)
      have HO9 := hid (HO8.out.moved hw9 hm9)
      clear y0 y1 y2 y3 y4
      obtain ⟨y0, y1, y2, y3, y4⟩ := box5 HB9.out.1
      obtain ⟨c9, hc9⟩ : ∃ c9, c9 = c8 ++ num (zz rp) := ⟨_, rfl⟩
      have hl9 : c9.length ≤ 9400 := by rw [hc9]; simp only [List.length_append]; have := hnl (zz rp); omega
      rw [← hc9] at HO9
      have HC9 := hid hc9
      have HN5 := hid (int_ q c9 rk F9 w9 HO9.out.wr hk.1 hk.2 (by omega))
      clear hw9 hm9 HN4 hc9 HB8 HO8
      go_wp2_with (fail)
      refine Calls.mono HN5.out ?_
      rintro e w10 ⟨rfl, F10, hw10, hm10⟩
      have HO10 := hid (HO9.out.moved hw10 hm10)
      have HD := hid (show c9 ++ num (zz rk) = num (x.length : Int) ++ (x.take (j + 1)).flatMap encR by
        rw [HC9.out, HC8.out, HC7.out, HC6.out, HCs.out, HT.out]
        simp [encR])
      generalize c9 ++ num (zz rk) = c10 at *
      clear hw10 hm10 HN5 HB9 HO9 y0 y1 y2 y3 y4
      go_wp2
      go_roundw
      case rel => exact ⟨j + 1, F10, c10, by omega, by go_num, HD, HO10⟩
      case measure => simp [intOf]; omega
    · obtain rfl : j = x.length := by omega
      have e : cs = encQ x := by rw [HCs.out, HE.out, List.take_length]
      subst e
      have hlen : (encQ x).length ≤ 9000 := by
        have h1 := HL.out.1 x.length
        rw [List.take_length] at h1
        have h2 := HL.out.2
        rw [HE.out, List.length_append]
        omega
      have HBy := hid (bytes_ q (encQ x) F' wr HW.out.wr (by omega))
      clear hlen HCs
      go_wp2_with (fail)
      refine Calls.mono HBy.out ?_
      rintro e w10 ⟨v, rfl, ho10, hb10⟩
      obtain ⟨A10, c10, rfl, hc10, hcm⟩ := own_shape ho10
      have HE2 : Hid ((encQ x).length ≤ c10 ∧ c10 ≤ 9223372036854775807 ∧ Rn w10 .u8 A10 (encQ x) ∧ Upd No w w10) := hid ⟨hc10, by simpa [maxLen] using hcm, Rd.of_own ho10, HW.out.upd.next (Upd.of_below No hb10)⟩
      clear ho10 hb10 hc10 hcm HBy
      go_wp2
      go_ret
      exact .of ⟨A10, c10, rfl, HE2.out⟩
end Go.Proofs.Ytlicimkpgnemeaa.Nd
