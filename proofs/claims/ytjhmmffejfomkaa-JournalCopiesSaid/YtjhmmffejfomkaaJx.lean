/-
  A journal's bytes; the walk of journal's Encode.
-/
import Derived.Test.YtjhmmffejfomkaaJs
import Derived.Test.YtjhmmffejfomkaaEw
set_option linter.unusedVariables false
set_option linter.unusedSimpArgs false
namespace Go.Proofs.Ytjhmmffejfomkaa.Jn
open Go.RowKit Go.Proofs.Ytjhmmffejfomkaa.B Go.Proofs.Ytjhmmffejfomkaa.Cw
open Go.Proofs.Ytjhmmffejfomkaa.Cm (num num_length)
def I64 (x : Int) : Prop := -9223372036854775808 ≤ x ∧ x ≤ 9223372036854775807
def ints (l : List Int) : List Int := l.flatMap fun z => num (zz z)
def evb (es : List Ev) : List Int := es.flatMap fun e => num e.1 ++ num (zz e.2)
theorem ints_take (l : List Int) (j : Nat) (hj : j < l.length) : ints (l.take (j + 1)) = ints (l.take j) ++ num (zz (gi l j)) := by
  rw [List.take_succ_eq_append_getElem hj]
  simp only [ints, gi, List.getD_eq_getElem?_getD, List.getElem?_eq_getElem hj, List.flatMap_append, List.flatMap_cons, List.flatMap_nil, List.append_nil, Option.getD_some]
theorem ints_le (l : List Int) : (ints l).length ≤ 9 * l.length := by
  induction l with
  | nil => simp [ints]
  | cons z r ih =>
    have := num_length (zz z)
    simp only [ints, List.flatMap_cons, List.length_append, List.length_cons] at *
    omega
theorem evb_le (l : List Ev) : (evb l).length ≤ 18 * l.length := by
  induction l with
  | nil => simp [evb]
  | cons z r ih =>
    have := num_length (zz z.2)
    have := num_length z.1
    simp only [evb, List.flatMap_cons, List.length_append, List.length_cons] at *
    omega
theorem evb_take (l : List Ev) (j : Nat) (hj : j < l.length) : evb (l.take (j + 1)) = evb (l.take j) ++ num l[j].1 ++ num (zz l[j].2) := by
  rw [List.take_succ_eq_append_getElem hj]
  unfold evb
  rw [List.flatMap_append, List.flatMap_cons, List.flatMap_nil, List.append_nil, List.append_assoc]
/-- A journal's bytes. -/
def encJ (s : S) : List Int := num s.2.2 ++ ints s.1 ++ num s.2.1.length ++ evb s.2.1
theorem encJ_le (s : S) (h8 : s.1.length = 8) : (encJ s).length ≤ 90 + 18 * s.2.1.length := by
  have h1 := num_length s.2.2
  have h2 := ints_le s.1
  have h3 := num_length (s.2.1.length : Int)
  have h4 := evb_le s.2.1
  simp only [encJ, List.length_append]
  omega
structure Rg (s : S) : Prop where
  v : 0 ≤ s.2.2 ∧ s.2.2 ≤ 18446744073709551615
  r : ∀ x ∈ s.1, I64 x
  e : ∀ x ∈ s.2.1, I64 x.2
theorem idx8 (b : List Int) : ∀ i, i < 8 → ∀ w, (Instr.index 27 (.agg (arr b)) (.int .i64 (i : Nat))).run Try.prog w = .ok (.int .i64 (gi b i)) w :=
  lt8 (fun _ => by kernel_rfl) (fun _ => by kernel_rfl) (fun _ => by kernel_rfl) (fun _ => by kernel_rfl) (fun _ => by kernel_rfl) (fun _ => by kernel_rfl) (fun _ => by kernel_rfl) (fun _ => by kernel_rfl)
def EncOut (w : World) (bs : List Int) (e : Ending) (w' : World) : Prop := ∃ A c, e = .returned (.slice A bs.length c) ∧ Rn w' .u8 A bs ∧ Upd No w w'
theorem EncOut.of {w : World} {bs : List Int} {e : Ending} {w' : World} (h : ∃ A c, e = .returned (.slice A bs.length c) ∧ Rn w' .u8 A bs ∧ Upd No w w') : EncOut w bs e w' := h
/-- A writer's progress: it is of the call's own. -/
structure Wo (w W : World) (F : Nat → Prop) (q : Nat) (bs : List Int) : Prop where
  wr : Wr W F q bs
  own : ∀ k, F k → w.heap.size ≤ k
  upd : Upd No w W
theorem Wo.moved {w W W' : World} {F F' : Nat → Prop} {q : Nat} {bs cs : List Int} (h : Wo w W F q bs) (hw : Wr W' F' q cs) (hm : Mv F F' W W') : Wo w W' F' q cs :=
  ⟨hw, fun k hk => (hm.sub k hk).elim (h.own k) fun hs => Nat.le_trans h.upd.size hs, h.upd.trans hm.upd fun i hi hf => by have := h.own i hf; omega⟩
theorem Wo.quiet {w W W' : World} {F : Nat → Prop} {q : Nat} {bs : List Int} (h : Wo w W F q bs) (hu : Upd No W W') : Wo w W' F q bs := ⟨h.wr.keep hu fun _ _ => no_ _, h.own, h.upd.next hu⟩
set_option maxHeartbeats 4000000 in
theorem encode {w : World} {F : Nat → Prop} {p : Nat} {s : S} (h : Jd w F p s) (hok : Ok s) (hg : Rg s) :
    Calls Try.prog 20 #[.pointer (some ⟨p, 0, none⟩)] w fun e w' => EncOut w (encJ s) e w' := by
  have hle := hok.le
  have hb8 := hok.b8
  have HG := hid hg
  have HL : Hid ((num s.2.2).length ≤ 9 ∧ (num (s.2.1.length : Int)).length ≤ 9) := hid ⟨(num_length _).2, (num_length _).2⟩
  have HOk := hid hok
  obtain ⟨v, h⟩ := h
  obtain ⟨A, c, hv, hc1, hc2⟩ := h.row.shape
  subst hv
  have HX := hid fun W (hu : Upd No w W) => h.upd hu fun _ _ => no_ _
  have hpl := h.lt p h.fp
  clear h hok hg
  go_enter Try.func20, Try.ntmps20
  go_wp2_with (fail)
  refine Calls.mono (newWriter w) ?_
  rintro e w1 ⟨rfl, rfl⟩
  have HW : Hid (∃ w1 q F1, w1 = w.alloc (.cells #[.slice none 0 0] 71) ∧ q = w.heap.size ∧ Wo w w1 F1 q []) := hid ⟨_, _, _, rfl, rfl, ⟨Wr.new w, fun k hk => by omega, (Upd.refl _ _).alloc _⟩⟩
  obtain ⟨w1, q, F1, hw1, hq, hO1⟩ := HW.out
  rw [← hw1, ← hq]
  have HO1 := hid hO1
  clear hw1 hq hO1 HW
  obtain ⟨_, c8, c9⟩ := jbox (HX.out _ HO1.out.upd).blk
  go_wp2_with (fail)
  refine Calls.mono (number q [] s.2.2 F1 w1 HO1.out.wr HG.out.v.1 HG.out.v.2 (by simp)) ?_
  rintro e w2 ⟨rfl, F2, hw2, hm2⟩
  have HO2 := hid (HO1.out.moved hw2 hm2)
  rw [List.nil_append] at HO2
  clear hw2 hm2 c8 c9 HO1 F1
  obtain ⟨⟨z0, z1, z2, z3, z4, z5, z6, z7⟩, c8, c9⟩ := jbox (HX.out _ HO2.out.upd).blk
  go_wp2_with (fail)
  clear z0 z1 z2 z3 z4 z5 z6 z7 c8 c9
  go_loopw [21] (fun v21 W => ∃ (j : Nat) (F' : Nat → Prop), j ≤ 8 ∧ v21 = .int .i64 j ∧ Hid (Wo w W F' q (num s.2.2 ++ ints (s.1.take j)))) (fun v21 _ => 8 - (intOf v21).toNat)
  case atStart => exact ⟨0, F2, by omega, rfl, hid (by simpa [ints] using HO2.out)⟩
  case round =>
    clear HO2
    obtain ⟨j, F', hj, rfl, HO⟩ := hrel
    by_cases hlt : j < 8
    · have hidx := idx8 s.1 j hlt
      unfold arr at hidx
      have hj2 : (j : Int) < 8 := by omega
      have hz := HG.out.r _ (gi_mem s.1 j (by omega))
      have HN := hid (ints_take s.1 j (by omega))
      have HLn := ints_le (s.1.take j)
      have hl9 := HL.out.1
      have hlen : (num s.2.2 ++ ints (s.1.take j)).length ≤ 140737488355000 := by
        rw [List.length_append]
        rw [List.length_take] at HLn
        omega
      have HI := hid (int_ q _ (gi s.1 j) F' wr HO.out.wr hz.1 hz.2 hlen)
      clear HLn hl9 hlen hz
      go_wp2_with (fail)
      refine Calls.mono HI.out ?_
      rintro e w3 ⟨rfl, F3, hw3, hm3⟩
      have HO3 : Hid (Wo w w3 F3 q (num s.2.2 ++ ints (s.1.take (j + 1)))) := hid (by rw [HN.out, ← List.append_assoc]; exact HO.out.moved hw3 hm3)
      clear hw3 hm3 hidx
      go_wp2
      go_roundw
      case rel => exact ⟨j + 1, F3, by omega, by go_num, HO3⟩
      case measure => simp [intOf]; omega
    · obtain rfl : j = 8 := by omega
      have HO4 : Hid (Wo w wr F' q (num s.2.2 ++ ints s.1)) := hid (by have := HO.out; rwa [List.take_of_length_le (by omega)] at this)
      clear HO
      obtain ⟨_, c8, c9⟩ := jbox (HX.out _ HO4.out.upd).blk
      have hwn : IntKind.u64.wrap (s.2.1.length : Int) = (s.2.1.length : Int) := by
        rw [show IntKind.u64.wrap (s.2.1.length : Int) = (s.2.1.length : Int) % 18446744073709551616 from rfl]
        omega
      go_wp2_with (fail)
      have HD := hid (And.intro HO4.out.wr HL.out.2)
      have hlen : (num s.2.2 ++ ints s.1).length ≤ 100 := by
        have h1 := HL.out.1
        have h2 := ints_le s.1
        rw [List.length_append]
        omega
      have HLen := hid hlen
      refine Calls.mono (number q (num s.2.2 ++ ints s.1) (s.2.1.length : Int) F' wr HO4.out.wr (by omega) (by omega) (by omega)) ?_
      rintro e w5 ⟨rfl, F5, hw5, hm5⟩
      have HO5 := hid (HO4.out.moved hw5 hm5)
      clear hw5 hm5 c8 c9 HD hlen hwn
      obtain ⟨pre, hpre⟩ : ∃ pre, pre = num s.2.2 ++ ints s.1 ++ num (s.2.1.length : Int) := ⟨_, rfl⟩
      rw [← hpre] at HO5
      have hpl9 : pre.length ≤ 109 := by
        have h1 := HLen.out
        have h2 := HL.out.2
        rw [hpre, List.length_append]
        omega
      have HPre := hid hpre
      clear hpre
      obtain ⟨_, c8, _⟩ := jbox (HX.out _ HO5.out.upd).blk
      go_wp2_with (fail)
      clear c8
      go_loopw [41] (fun v41 W => ∃ (j : Nat) (F' : Nat → Prop), j ≤ s.2.1.length ∧ v41 = .int .i64 j ∧ Hid (Wo w W F' q (pre ++ evb (s.2.1.take j)))) (fun v41 _ => s.2.1.length - (intOf v41).toNat)
      case atStart => exact ⟨0, F5, by omega, rfl, hid (by simpa [evb] using HO5.out)⟩
      case round =>
        clear HO5
        obtain ⟨j, F', hj, rfl, HO⟩ := hrel
        by_cases hje : j < s.2.1.length
        · obtain ⟨g, off, rfl, d0, d1, hgw⟩ := ev_at (HX.out _ HO.out.upd).row hje
          have hev := HOk.out.ev _ (List.getElem_mem hje)
          have hi := HG.out.e _ (List.getElem_mem hje)
          have HN := hid (evb_take s.2.1 j hje)
          have HLn := evb_le (s.2.1.take j)
          rw [List.length_take] at HLn
          have hj2 : (j : Int) < (s.2.1.length : Int) := by omega
          generalize s.2.1[j] = e0 at *
          obtain ⟨r, y⟩ := e0
          simp only at d0 d1 hev hi HN
          have hwr : IntKind.u64.wrap r = r := by
            rw [show IntKind.u64.wrap r = r % 18446744073709551616 from rfl]
            have := hev.1
            have := hev.2
            simp only at *
            omega
          have hlen : (pre ++ evb (s.2.1.take j)).length ≤ 20000 := by
            rw [List.length_append]
            omega
          generalize evb (s.2.1.take j) = eb at *
          have hnl := (num_length r).2
          have hr0 : 0 ≤ r ∧ r ≤ 18446744073709551615 := by
            have := hev.1
            have := hev.2
            simp only at *
            omega
          have HNum := hid fun W (h : Wr W F' q (pre ++ eb)) => number q (pre ++ eb) r F' W h hr0.1 hr0.2 (by omega)
          have HInt := hid fun W F2 (h : Wr W F2 q (pre ++ eb ++ num r)) => int_ q (pre ++ eb ++ num r) y F2 W h hi.1 hi.2 (by rw [List.length_append]; omega)
          have HNl := hid hnl
          clear hnl HLn hlen hi hr0
          go_wp2_with (fail)
          have HW : Hid (∃ w6 h6, w6 = wr.alloc (.cells #[.int .i64 r, .int .i64 y] 33) ∧ h6 = wr.heap.size ∧ Wo w w6 F' q (pre ++ eb) ∧ Blk w6 h6 33 #[.int .i64 r, .int .i64 y] ∧ ¬ F' h6) :=
            hid ⟨_, _, rfl, rfl, HO.out.quiet ((Upd.refl _ _).alloc _), Blk.fresh _ _ _, fun hf => by have := HO.out.wr.lt _ hf; omega⟩
          obtain ⟨w6, h6, hw6, hh6, hO6, hB6, hn6⟩ := HW.out
          rw [← hw6, ← hh6]
          have H6 := hid (And.intro hO6 (And.intro hB6 hn6))
          clear hw6 hh6 hO6 hB6 hn6 HW d0 d1 hgw
          try rw [hwr]
          refine Calls.mono (HNum.out _ H6.out.1.wr) ?_
          rintro e w7 ⟨rfl, F7, hw7, hm7⟩
          have HO7 := hid (H6.out.1.moved hw7 hm7)
          have hB7 := H6.out.2.1.upd hm7.upd H6.out.2.2
          obtain ⟨y0, y1⟩ := box2 hB7
          clear hw7 hm7 hwr
          go_wp2_with (fail)
          refine Calls.mono (HInt.out _ _ HO7.out.wr) ?_
          rintro e w8 ⟨rfl, F8, hw8, hm8⟩
          have HO8 := hid (HO7.out.moved hw8 hm8)
          clear hw8 hm8 y0 y1 hB7
          go_wp2
          go_roundw
          case rel => exact ⟨j + 1, F8, by omega, by go_num, hid (by rw [HN.out, ← List.append_assoc, ← List.append_assoc]; exact HO8.out)⟩
          case measure => simp [intOf]; omega
        · obtain rfl : j = s.2.1.length := by omega
          have HO9 : Hid (Wo w wr F' q (encJ s)) := hid (by
            have := HO.out
            rw [List.take_length, HPre.out] at this
            exact this)
          have hel := encJ_le s hb8
          go_wp2_with (fail)
          refine Calls.mono (bytes_ q (encJ s) F' wr HO9.out.wr (by omega)) ?_
          rintro e w10 ⟨v, rfl, ho10, hb10⟩
          obtain ⟨A10, c10, rfl, hc10⟩ := own_shape ho10
          have HE : Hid (Rn w10 .u8 A10 (encJ s) ∧ Upd No w w10) := hid ⟨Rd.of_own ho10, HO9.out.upd.next (Upd.of_below No hb10)⟩
          clear ho10 hb10
          go_wp2
          go_ret
          exact .of ⟨A10, c10, rfl, HE.out⟩
end Go.Proofs.Ytjhmmffejfomkaa.Jn
