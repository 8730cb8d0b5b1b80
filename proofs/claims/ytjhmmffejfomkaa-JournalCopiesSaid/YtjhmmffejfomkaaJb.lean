/-
  The walk of journal's Add.
-/
import Derived.Test.YtjhmmffejfomkaaJa
set_option linter.unusedVariables false
set_option linter.unusedSimpArgs false
namespace Go.Proofs.Ytjhmmffejfomkaa.Jn
open Go.RowKit Go.Proofs.Ytjhmmffejfomkaa.B
def bad (e : Ev) : Bool := decide (e.1 < 0) || decide (8 ≤ e.1)
theorem bad_iff (e : Ev) : bad e = false ↔ EvOk e := by
  unfold bad EvOk
  simp
  omega
/-- What Add answers, and the journal behind it. -/
def addS (s : S) (l : List Ev) : Int × S := if l.any bad then (3, s) else (0, foldS (s.1, s.2.1 ++ l, IntKind.u64.wrap (s.2.2 + l.length)) ((s.2.1 ++ l).length - 16))
set_option maxHeartbeats 1000000 in
/-- The closure of Add. -/
theorem add1 (e : Ev) (w : World) : Calls Try.prog 24 #[.agg #[.int .i64 e.1, .int .i64 e.2]] w fun r w' => r = .returned (.bool (bad e)) ∧ Upd No w w' := by
  obtain ⟨r, y⟩ := e
  have hu : Upd No w (w.alloc (.cells #[.int .i64 r, .int .i64 y] 33)) := (Upd.refl _ _).alloc _
  unfold bad
  simp only
  by_cases h0 : r < 0
  · rw [show decide (r < 0) = true from decide_eq_true h0]
    go_enter Try.func24, Try.ntmps24
    go_wp2
    go_ret
    exact ⟨rfl, hu⟩
  · rw [show decide (r < 0) = false from decide_eq_false h0, Bool.false_or]
    by_cases h8 : 8 ≤ r
    · rw [show decide (8 ≤ r) = true from decide_eq_true h8]
      go_enter Try.func24, Try.ntmps24
      go_wp2
      go_ret
      exact ⟨rfl, hu⟩
    · rw [show decide (8 ≤ r) = false from decide_eq_false h8]
      have h8' : decide (8 ≤ r) = false := decide_eq_false h8
      go_enter Try.func24, Try.ntmps24
      go_wp2
      go_ret
      exact ⟨congrArg (fun z => Ending.returned (.bool z)) (by first | rfl | exact h8'), hu⟩
theorem rd_ev {w : World} {A : Option Addr} {es : List Ev} (h : Rd w 2 A es.length (ecs es)) {j : Nat} (hj : j < es.length) :
    ∃ ad, A = some ad ∧ w.cell? (ad.add (j * 2)) = some (.int .i64 es[j].1) ∧ w.cell? (ad.add (j * 2 + 1)) = some (.int .i64 es[j].2) := by
  obtain ⟨ad, e, hc⟩ := h.2 (by omega)
  obtain ⟨h1, h2⟩ := ecs_get es j hj
  exact ⟨ad, e, hc _ _ h1, hc _ _ h2⟩
theorem add_field (ad : Addr) (m k : Nat) (hk : 0 < k) : ad.add (m + k) = ⟨(ad.add m).block, (ad.add m).off + k, none⟩ := by
  unfold Addr.add
  by_cases hm : m = 0
  · subst hm; simp; omega
  · simp [hm]; omega
def IdxOut (w : World) (b : Bool) (e : Ending) (w' : World) : Prop := ∃ r : Int, e = .returned (.int .i64 r) ∧ decide (0 ≤ r) = b ∧ Upd No w w'
theorem IdxOut.of {w : World} {b : Bool} {e : Ending} {w' : World} (h : ∃ r : Int, e = .returned (.int .i64 r) ∧ decide (0 ≤ r) = b ∧ Upd No w w') : IdxOut w b e w' := h
set_option maxHeartbeats 1000000 in
theorem idx {w : World} {A : Option Addr} {c : Nat} {l : List Ev} (hr : Rd w 2 A l.length (ecs l)) (hl : l.length ≤ 9223372036854775807) :
    Calls Try.prog 37 #[.slice A l.length c, .func (.func 24) #[] #[]] w fun e w' => IdxOut w (l.any bad) e w' := by
  go_enter Try.func37, Try.ntmps37
  go_wp2_with (fail)
  go_loopw [8] (fun v8 W => ∃ j : Nat, j ≤ l.length ∧ v8 = .int .i64 j ∧ Hid (∀ i (hi : i < l.length), i < j → bad l[i] = false) ∧ Hid (Upd No w W)) (fun v8 _ => l.length - (intOf v8).toNat)
  case atStart => exact ⟨0, by omega, rfl, hid fun i _ h => by omega, hid (Upd.refl _ _)⟩
  case round =>
    obtain ⟨j, hj, rfl, hH, HU⟩ := hrel
    by_cases hlt : j < l.length
    · obtain ⟨ad, rfl, d0, d1⟩ := rd_ev (hr.upd (by omega) HU.out fun _ _ => no_ _) hlt
      rw [add_field _ _ _ (by omega)] at d1
      have HN : Hid (bad l[j] = false → ∀ i (hi : i < l.length), i < j + 1 → bad l[i] = false) := hid fun h i hi hij => by
        by_cases h' : i < j
        · exact hH.out i hi h'
        · obtain rfl : i = j := by omega
          exact h
      have HY : Hid (bad l[j] = true → l.any bad = true) := hid fun h => List.any_eq_true.2 ⟨_, List.getElem_mem hlt, h⟩
      have hj2 : (j : Int) < (l.length : Int) := by omega
      have HC := hid (add1 l[j] wr)
      generalize l[j] = e0 at *
      rcases hb : bad e0 with _ | _
      · rw [hb] at HC
        replace HN := hid (HN.out hb)
        clear HY hb
        obtain ⟨r, y⟩ := e0
        simp only at d0 d1 HC
        go_wp2_with (fail)
        refine Calls.mono HC.out ?_
        rintro e w' ⟨rfl, hu⟩
        have HU2 := hid (HU.out.next hu)
        clear hu
        go_wp2
        go_roundw
        case rel => exact ⟨j + 1, by omega, by go_num, HN, HU2⟩
        case measure => simp [intOf]; omega
      · rw [hb] at HC
        replace HY := hid (HY.out hb)
        clear HN hb
        obtain ⟨r, y⟩ := e0
        simp only at d0 d1 HC
        go_wp2_with (fail)
        refine Calls.mono HC.out ?_
        rintro e w' ⟨rfl, hu⟩
        have HU2 := hid (HU.out.next hu)
        clear hu
        go_wp2
        go_ret
        exact .of ⟨(j : Int), rfl, by rw [HY.out]; simp, HU2.out⟩
    · obtain rfl : j = l.length := by omega
      have HY : Hid (l.any bad = false) := hid (List.any_eq_false.2 fun x hx => by
        obtain ⟨i, hi, rfl⟩ := List.getElem_of_mem hx
        rw [hH.out i hi hi]
        simp)
      go_wp2
      go_ret
      exact .of ⟨-1, rfl, by rw [HY.out]; simp, HU.out⟩
set_option maxHeartbeats 1000000 in
theorem has {w : World} {A : Option Addr} {c : Nat} {l : List Ev} (hr : Rd w 2 A l.length (ecs l)) (hl : l.length ≤ 9223372036854775807) :
    Calls Try.prog 23 #[.slice A l.length c, .func (.func 24) #[] #[]] w fun e w' => e = .returned (.bool (l.any bad)) ∧ Upd No w w' := by
  have HI := hid (idx (c := c) hr hl)
  generalize l.any bad = b at *
  clear hr
  go_enter Try.func23, Try.ntmps23
  go_wp2_with (fail)
  refine Calls.mono HI.out ?_
  rintro e w' ⟨r, rfl, hb, hu⟩
  have HH := hid (And.intro hb hu)
  clear hb hu
  go_wp2
  go_ret
  exact ⟨congrArg (fun z => Ending.returned (.bool z)) HH.out.1, HH.out.2⟩
theorem ev_info : (Try.prog.info? 33).map (fun i => (i.zero, i.size, i.bytes)) = some (some (.agg #[.int .i64 0, .int .i64 0]), 2, 16) := by kernel_rfl
def AddOut (w : World) (F : Nat → Prop) (p : Nat) (r : Int × S) (e : Ending) (w' : World) : Prop := e = .returned (.int .i64 r.1) ∧ ∃ F', Jd w' F' p r.2 ∧ Mv F F' w w'
theorem AddOut.of {w : World} {F : Nat → Prop} {p : Nat} {r : Int × S} {e : Ending} {w' : World} (h : e = .returned (.int .i64 r.1) ∧ ∃ F', Jd w' F' p r.2 ∧ Mv F F' w w') : AddOut w F p r e w' := h
set_option maxHeartbeats 2000000 in
theorem add {w : World} {F : Nat → Prop} {p : Nat} {s : S} {A : Option Addr} {c : Nat} {l : List Ev} (h : Jd w F p s) (hok : Ok s) (h16 : s.2.1.length ≤ 16) (hr : Rd w 2 A l.length (ecs l)) (hl : l.length ≤ 500) :
    Calls Try.prog 10 #[.pointer (some ⟨p, 0, none⟩), .slice A l.length c] w fun e w' => AddOut w F p (addS s l) e w' := by
  have HI := has (c := c) hr (by omega)
  rcases hb : l.any bad with _ | _
  · rw [hb] at HI
    have HA : Hid (addS s l = (0, foldS (s.1, s.2.1 ++ l, IntKind.u64.wrap (s.2.2 + l.length)) ((s.2.1 ++ l).length - 16))) := hid (by unfold addS; rw [hb]; rfl)
    rw [HA.out]
    obtain ⟨v, h⟩ := h
    obtain ⟨bs, es, ver⟩ := s
    simp only at h16
    obtain ⟨Av, cv, hv, hc1, hc2⟩ := h.row.shape
    subst hv
    simp only at hc1
    have HX := hid h
    have HR := hid hr
    have HI2 := hid HI
    obtain ⟨n, hn⟩ : ∃ n, n = es.length + l.length - 16 := ⟨_, rfl⟩
    have hev : ∀ e ∈ es ++ l, EvOk e := fun e he => by
      rcases List.mem_append.1 he with he | he
      · exact hok.ev e he
      · rw [List.any_eq_false] at hb
        exact (bad_iff e).1 (by simpa using hb e he)
    have HOk : Hid (Ok (bs, es ++ l, IntKind.u64.wrap (ver + l.length))) := hid ⟨hok.b8, by simp; omega, hev⟩
    rw [show (es ++ l).length - 16 = n from by simp; omega]
    have HN : Hid (n ≤ (es ++ l).length) := hid (by simp; omega)
    have hcase : ((es.length : Int) + (l.length : Int) - 16 < 0 ∧ (n : Int) = 0) ∨ (¬ (es.length : Int) + (l.length : Int) - 16 < 0 ∧ (es.length : Int) + (l.length : Int) - 16 = (n : Int)) := by omega
    have HF := hid fun W (F2 : Nat → Prop) (h2 : Jd W F2 p (bs, es ++ l, IntKind.u64.wrap (ver + l.length))) => fold n h2 HOk.out HN.out
    clear h hok hb hev HA hr HI hn
    rcases hcase with ⟨hc0, hc3⟩ | ⟨hc0, hc3⟩
    case' inl =>
      rw [hc3] at HF
    all_goals
      have HC := hid hc0
      have HC3 := hid hc3
      clear hc0 hc3
      go_enter Try.func10, Try.ntmps10
      go_wp2_with (fail)
      refine Calls.mono HI2.out ?_
      rintro e w1 ⟨rfl, hu1⟩
      have HU1 := hid hu1
      have hX1 := HX.out.upd hu1 fun _ _ => no_ _
      obtain ⟨_, c8, c9⟩ := jbox hX1.blk
      have hr1 := HR.out.upd (by omega) hu1 (fun _ _ => no_ _)
      have HX1 := hid hX1
      have HR1 := hid hr1
      simp only at c8 c9
      clear hu1 hX1 hr1
      go_wp2_with (at_builtin; go_must (refine ap_sl 0 rfl (.tmp 13) (.tmp 14) 34 33 (.agg #[.int .i64 0, .int .i64 0]) 2 16 rfl Try.underlying34 ev_info rfl (by omega) (.slice Av es.length cv) es.length (ecs es) A l.length c (ecs l) rfl rfl HX1.out.row HR1.out (ecs_one _) (by omega) (by omega) (Nat.zero_le _) ?_); intro A2 c2 w2 ho2 hu2 hat2; have b2 := HX1.out.blk.upd hu2 (fun e => HX1.out.vp _ e rfl); obtain ⟨_, e8, e9⟩ := jbox b2; have f8 := b2.free 8; have b3 := jput8 b2 (.slice A2 (es.length + l.length) c2); obtain ⟨_, i8, i9⟩ := jbox b3; have j9 := b3.free 9; have b4 := jput9 b3 (IntKind.u64.wrap (ver + l.length)); obtain ⟨_, m8, m9⟩ := jbox b4; have hcc := HC.out; have hcc3 := HC3.out)
      have HE : Hid (∃ F', Jd ((w2.setCell ⟨p, 8, none⟩ (.slice A2 (es.length + l.length) c2)).setCell ⟨p, 9, none⟩ (.int .u64 (IntKind.u64.wrap (ver + l.length)))) F' p (bs, es ++ l, IntKind.u64.wrap (ver + l.length)) ∧ Mv F F' w ((w2.setCell ⟨p, 8, none⟩ (.slice A2 (es.length + l.length) c2)).setCell ⟨p, 9, none⟩ (.int .u64 (IntKind.u64.wrap (ver + l.length))))) := by
        have hpl := HX1.out.lt p HX1.out.fp
        have hne : ∀ k, (Value.slice A2 (es.length + l.length) c2).ownBlock = some k → k ≠ p := fun k hk => (hat2 k hk).elim (fun h => HX1.out.vp k h) fun h => by omega
        have hz1 := HU1.out.size
        refine hid (HX.out.fin (((HU1.out.mono fun _ _ h => h.elim).next (hu2.mono fun k _ h => HX.out.fv k h)).set (p := ⟨p, 8, none⟩) (.inl HX.out.fp) _ |>.set (p := ⟨p, 9, none⟩) (.inl HX.out.fp) _) b4 ?_ (fun k hk => (hat2 k hk).imp (HX.out.fv k) fun h => by omega))
        have := (ho2.upd ((Upd.refl (fun k => k = p) _).set1 8 (.slice A2 (es.length + l.length) c2)) fun k hk e => hne k hk e).upd ((Upd.refl (fun k => k = p) _).set1 9 (.int .u64 (IntKind.u64.wrap (ver + l.length)))) fun k hk e => hne k hk e
        simpa [ecs_append] using this
      have HO := hid (And.intro ho2 (And.intro hu2 hat2))
      clear ho2 hu2 hat2 b2 b3 b4
      obtain ⟨F2, hE1, hE2⟩ := HE.out
      have HE2 := hid hE2
      refine Calls.mono (HF.out _ F2 hE1) ?_
      rintro e w3 ⟨rfl, F3, h3, hm3⟩
      have H3 := hid (And.intro h3 (HE2.out.trans hm3))
      clear h3 hm3 hE1 hE2
      go_wp2
      go_ret
      exact .of ⟨rfl, F3, H3.out⟩
  · rw [hb] at HI
    have HA : Hid (addS s l = (3, s)) := hid (by unfold addS; rw [hb]; rfl)
    rw [HA.out]
    have HH := hid h
    have HI2 := hid HI
    clear h hr HI
    go_enter Try.func10, Try.ntmps10
    go_wp2_with (fail)
    refine Calls.mono HI2.out ?_
    rintro e w1 ⟨rfl, hu1⟩
    have HU1 := hid hu1
    clear hu1
    go_wp2
    go_ret
    exact .of ⟨rfl, F, HH.out.upd HU1.out fun _ _ => no_ _, HU1.out.mono fun _ _ h => h.elim, fun k hk => .inl hk⟩
end Go.Proofs.Ytjhmmffejfomkaa.Jn
