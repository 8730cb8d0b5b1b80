/-
  The walk of LogCuts.
-/
import Derived.Test.YtheopehhpoikdaaGc
set_option linter.unusedVariables false
set_option linter.unusedSimpArgs false
namespace Go.Proofs.Ytheopehhpoikdaa.Gl
open Go.RowKit Go.Proofs.Ytheopehhpoikdaa Go.Proofs.Ytheopehhpoikdaa.B Go.Proofs.Ytheopehhpoikdaa.Cm Go.Proofs.Ytheopehhpoikdaa.Sm Go.Proofs.Ytheopehhpoikdaa.Dk Go.Proofs.Ytheopehhpoikdaa.Gp
theorem Cu.step {m : Lm} {d : Dm} {fr count nb n : Nat} {ep : Int} {es : List Nat} (h : Cu m d es) (hl : Live m d fr count ep nb n) {u : List Int} (hb : Byte u) (hn : n ≤ 1000) :
    Cu (m.ap d u).2.2 (m.ap d u).2.1 (if apC m u = 0 then es ++ [(m.ap d u).2.1.log.length] else es) := by
  by_cases hc : apC m u = 0
  · have hf : d.fuse < 0 := by rw [hl.fuse]; decide
    obtain ⟨h1, h2, h3⟩ := apC_ok hc
    have h4 := nbl_le h2
    have h5 := hl.size
    rw [if_pos hc, ap_alive hl.over hl.down hf hc]
    exact h.add hl.snd hc (hl.snd.add hc hb (.inl hf) (by omega))
  · rw [if_neg hc, ap_stop hl.over d hc]
    exact h
/-- The ends as a row of numbers. -/
def en (n : Nat) : Value := .int .i64 n
theorem int_info : (Try.prog.info? 3).map (fun i => (i.zero, i.size, i.bytes)) = some (some (.int .i64 0), 1, 8) := by kernel_rfl
structure En (w W : World) (F D : Nat → Prop) (v : Value) (es : List Nat) : Prop where
  tx : W.ownsRow 0 3 1 v es.length (es.map en)
  tn : ∀ g, v.ownBlock = some g → w.heap.size ≤ g ∧ ¬ F g ∧ ¬ D g
section
variable {w W W' : World} {F D F' D' G : Nat → Prop} {q p : Nat} {m m' : Lm} {d d' : Dm} {v : Value} {es : List Nat}
theorem En.quiet (h : En w W F D v es) (hu : Upd No W W') : En w W' F D v es := ⟨own_upd h.tx hu fun _ _ => no_ _, h.tn⟩
theorem En.upd (h : En w W F D v es) (hu : Upd G W W') (hG : ∀ g, v.ownBlock = some g → ¬ G g) : En w W' F D v es := ⟨own_upd h.tx hu hG, h.tn⟩
theorem En.sub (h : En w W F D v es) (hs : ∀ k, (F' k ∨ D' k) → (F k ∨ D k) ∨ W.heap.size ≤ k) : ∀ g, v.ownBlock = some g → w.heap.size ≤ g ∧ ¬ F' g ∧ ¬ D' g := fun g hg => by
  obtain ⟨t1, t2, t3⟩ := h.tn g hg
  have hlt := (h.tx.lt g hg).2
  refine ⟨t1, fun h' => ?_, fun h' => ?_⟩
  · rcases hs g (.inl h') with h' | h'
    · exact h'.elim t2 t3
    · omega
  · rcases hs g (.inr h') with h' | h'
    · exact h'.elim t2 t3
    · omega
theorem En.moved (h : En w W F D v es) (hu : Upd (fun k => F k ∨ D k) W W') (hs : ∀ k, (F' k ∨ D' k) → (F k ∨ D k) ∨ W.heap.size ≤ k) : En w W' F' D' v es :=
  ⟨own_upd h.tx hu fun g hg h' => h'.elim (h.tn g hg).2.1 (h.tn g hg).2.2, h.sub hs⟩
theorem Ts.sub (h : Ts w W F D q p m d v) (hs : ∀ k, (F' k ∨ D' k) → (F k ∨ D k) ∨ W.heap.size ≤ k) : ∀ g, v.ownBlock = some g → w.heap.size ≤ g ∧ ¬ F' g ∧ ¬ D' g := fun g hg => by
  obtain ⟨t1, t2, t3⟩ := h.tn g hg
  have hlt := (h.tx.lt g hg).2
  refine ⟨t1, fun h' => ?_, fun h' => ?_⟩
  · rcases hs g (.inl h') with h' | h'
    · exact h'.elim t2 t3
    · omega
  · rcases hs g (.inr h') with h' | h'
    · exact h'.elim t2 t3
    · omega
/-- A unit's text is put behind the others. -/
theorem Ts.push {w W W1 W2 : World} {F D : Nat → Prop} {q p : Nat} {m : Lm} {d : Dm} {v : Value} {us : List (List Int)} {u : List Int} {A : Option Addr} {c : Nat} (hp : Pl w W F D q p m d) (hus : m.us = us ++ [u]) (htn : ∀ g, v.ownBlock = some g → w.heap.size ≤ g ∧ ¬ F g ∧ ¬ D g)
    (hal : Upd No W W1) (ho : W2.ownsRow 0 9 1 (.slice A (us.length + 1) c) (us.length + 1) (us.map st ++ [st u])) (hg : W1.grownBy W2 v.ownBlock) (hat : ∀ g, (Value.slice A (us.length + 1) c).ownBlock = some g → v.ownBlock = some g ∨ W1.heap.size ≤ g) :
    Ts w W2 F D q p m d (.slice A (us.length + 1) c) := by
  have hu : Upd (fun k => v.ownBlock = some k) W W2 := (hal.mono fun _ _ h => h.elim).grown hg fun k hk => .inl hk
  refine ⟨⟨hp.lg.upd hu fun k hk e => (htn k e).2.1 hk, hp.dk.upd hu fun k hk e => (htn k e).2.2 hk, hp.fd, hp.own, hp.bel.trans (hu.below hp.bel.size fun k hk => (htn k hk).1)⟩, ?_, fun g hg => ?_⟩
  · rw [hus, List.length_append, List.map_append]
    exact ho
  · rcases hat g hg with e | e
    · exact htn g e
    · have hz := hal.size
      have h3 := hp.bel.size
      exact ⟨by omega, fun h => by have := hp.lg.lt g h; omega, fun h => by have := hp.dk.lt g h; omega⟩
/-- An end is put behind the others. -/
theorem En.push {w W W1 W2 : World} {F D : Nat → Prop} {q p : Nat} {m : Lm} {d : Dm} {v vt : Value} {es : List Nat} {x : Nat} {A : Option Addr} {c : Nat} (ht : Ts w W F D q p m d vt) (h : En w W F D v es)
    (hal : Upd No W W1) (ho : W2.ownsRow 0 3 1 (.slice A (es.length + 1) c) (es.length + 1) (es.map en ++ [en x])) (hg : W1.grownBy W2 v.ownBlock) (hat : ∀ g, (Value.slice A (es.length + 1) c).ownBlock = some g → v.ownBlock = some g ∨ W1.heap.size ≤ g) :
    Ts w W2 F D q p m d vt ∧ En w W2 F D (.slice A (es.length + 1) c) (es ++ [x]) := by
  have hu : Upd (fun k => v.ownBlock = some k) W W2 := (hal.mono fun _ _ h => h.elim).grown hg fun k hk => .inl hk
  have hp := ht.pl
  have htn := h.tn
  refine ⟨⟨⟨hp.lg.upd hu fun k hk e => (htn k e).2.1 hk, hp.dk.upd hu fun k hk e => (htn k e).2.2 hk, hp.fd, hp.own, hp.bel.trans (hu.below hp.bel.size fun k hk => (htn k hk).1)⟩, own_upd ht.tx hu fun g hg e => own_own_ne ht.tx h.tx (by decide) hg e, ht.tn⟩, ?_, fun g hg => ?_⟩
  · rw [List.length_append, List.map_append]
    exact ho
  · rcases hat g hg with e | e
    · exact htn g e
    · have hz := hal.size
      have h3 := hp.bel.size
      exact ⟨by omega, fun h => by have := hp.lg.lt g h; omega, fun h => by have := hp.dk.lt g h; omega⟩
theorem ends_at {W : World} {A : Option Addr} (h : Rd W 1 A es.length (es.map en)) {k : Nat} (hk : k < es.length) : ∃ ad, A = some ad ∧ W.cell? (ad.add k) = some (.int .i64 (es.getD k 0 : Nat)) := by
  obtain ⟨ad, u, e, hu, hc⟩ := h.at_ hk
  rw [List.getElem?_map, List.getElem?_eq_getElem hk] at hu
  simp only [Option.map_some, Option.some.injEq] at hu
  refine ⟨ad, e, ?_⟩
  rw [hc, ← hu, List.getD_eq_getElem?_getD, List.getElem?_eq_getElem hk]
  rfl
end
/-- Units behind a cut's Open: the first k. -/
def UkOut (k : Nat) (xs : List (List Int)) (W : World) (e : Ending) (W' : World) : Prop := ∃ A c, e = .returned (.slice A k c) ∧ Uns W' (fun i => W.heap.size ≤ i) (.slice A k c) xs ∧ Upd No W W'
set_option maxHeartbeats 8000000 in
set_option maxRecDepth 100000 in
theorem cuts (A : Option Addr) (c : Nat) (xs : List Oi) (ep : Int) (w : World) (hr : Rd w 3 A xs.length (xs.flatMap ocells)) (hl : xs.length ≤ c ∧ c ≤ maxLen) (hx : ∀ x ∈ xs, Orow w x ∧ Byte x.2.1 ∧ -9223372036854775808 ≤ x.1.2 ∧ x.1.2 ≤ 9223372036854775807)
    (hep : 0 ≤ ep ∧ ep ≤ 18446744073709551615) :
    Calls Try.prog 6 #[.slice A xs.length c, .int .u64 ep] w fun e w' => e = .returned (.bool true) ∧ Below w.heap.size w w' := by
  have hl1 : xs.length ≤ 9223372036854775807 := by have := hl.1; have := hl.2; simp only [maxLen] at this; omega
  have HX := hid hx
  have HRx := hid fun W (hu : Upd No w W) => Rd.upd hr (by omega) hu fun _ _ => no_ _
  have HEp := hid hep
  clear hl hx hr hep
  by_cases h20 : (20 : Int) < (xs.length : Int)
  · go_enter Try.func6, Try.ntmps6
    go_wp2_with (fail)
    refine Calls.mono (awake w) ?_
    rintro e w1 ⟨rfl, hb1⟩
    have HB1 := hid hb1
    clear hb1
    go_wp2_with (fail)
    refine Calls.mono (awake w1) ?_
    rintro e w2 ⟨rfl, hb2⟩
    have HB2 := hid (HB1.out.trans (hb2.mono HB1.out.size))
    clear hb2
    go_wp2
    go_ret
    exact ⟨rfl, HB2.out⟩
  have hxn : xs.length ≤ 20 := by omega
  go_enter Try.func6, Try.ntmps6
  go_wp2_with (fail)
  refine Calls.mono (awake w) ?_
  rintro e w1 ⟨rfl, hb1⟩
  have HND := hid (new_disk 60 w w1 hb1 (by omega))
  clear hb1
  go_wp2_with (fail)
  refine HND.out.mono ?_
  rintro e w2 ⟨p, D0, rfl, hd2⟩
  have HO := hid (open_new (fr := 5) (count := 50) (ep := ep) hd2 (by omega) (by omega) (by omega) HEp.out)
  clear hd2 HND
  go_wp2_with (fail)
  refine HO.out.mono ?_
  rintro e w3 ⟨q, F0, rfl, hp3⟩
  have HP3 : Hid (Ts w w3 F0 D0 q p (Lm.new 5 50 ep) ⟨60, [], -1, false⟩ (.slice none 0 0) ∧ En w w3 F0 D0 (.slice none 0 0) [] ∧ Live (Lm.new 5 50 ep) ⟨60, [], -1, false⟩ 5 50 ep 60 0 ∧ Cu (Lm.new 5 50 ep) ⟨60, [], -1, false⟩ []) :=
    hid ⟨⟨hp3, World.ownsRow_nil _ _ _ _, fun g hg => by simp [Value.ownBlock] at hg⟩, ⟨World.ownsRow_nil _ _ _ _, fun g hg => by simp [Value.ownBlock] at hg⟩, Live.new (by omega) (by omega) HEp.out, Cu.new HEp.out⟩
  clear hp3 HO
  go_wp2_with (fail)
  go_loopw [8, 9, 34] (fun v8 v9 v34 W => ∃ (j : Nat) (F D : Nat → Prop) (m : Lm) (dd : Dm) (es : List Nat), j ≤ xs.length ∧ v34 = .int .i64 j ∧ Hid (Ts w W F D q p m dd v8 ∧ En w W F D v9 es ∧ Live m dd 5 50 ep 60 j ∧ Cu m dd es)) (fun _ _ v34 _ => xs.length - (intOf v34).toNat)
  case atStart => exact ⟨0, F0, D0, _, _, _, by omega, rfl, HP3⟩
  case round =>
    clear HP3
    obtain ⟨j, F, D, m, dd, es, hj, rfl, HW⟩ := hrel
    obtain ⟨Av, cv, hv8, hcv1, hcv2⟩ := own_shape HW.out.1.tx
    obtain ⟨Ae, ce, hv9, hce1, hce2⟩ := own_shape HW.out.2.1.tx
    subst hv8 hv9
    by_cases hlt : j < xs.length
    · have hU := Upd.of_below No HW.out.1.pl.bel
      obtain ⟨ad, rfl, x0, x1, x2⟩ := op_at (HRx.out _ hU) hlt
      obtain ⟨ho, hby, hn1, hn2⟩ := HX.out _ (List.getElem_mem hlt)
      generalize xs[j] = o at *
      obtain ⟨⟨k0, n0⟩, b0, v0⟩ := o
      have ho' := ho.upd (F := No) hU
      obtain ⟨Ab, cb, hvb, _, hcb1, hcb2⟩ := ho
      simp only at x0 x1 x2 hby hn1 hn2 hvb hcb1
      subst hvb
      have HUt := hid (unit_ _ wr ho' ⟨hn1, hn2⟩)
      have hul := unitN_le b0 (min (max n0 0) 40).toNat
      have HBu : Hid (Byte (unitL n0 b0)) := hid (unitN_byte hby _)
      unfold UtOut at HUt
      simp only at HUt
      have hul2 : (unitL n0 b0).length ≤ 4000 := hul
      generalize unitL n0 b0 = u at *
      have hj1 : (0 : Int) ≤ (j : Int) := by omega
      have hj2 : (j : Int) < (xs.length : Int) := by omega
      clear ho' hby hul hU hcv1 hcv2 hce1 hce2
      go_wp2_with (fail)
      refine HUt.out.mono ?_
      rintro e w5 ⟨A5, c5, rfl, hc51, hc52, hr5, hA5, hu5⟩
      have HW5 := hid (And.intro (HW.out.1.quiet hu5) (HW.out.2.1.quiet hu5))
      have hAA := append_pl HW5.out.1.pl HW.out.2.2.1.snd hr5 hc51 hc52 (fun ad e => by
        have h1 := hA5 ad e
        exact ⟨fun h => by have := HW.out.1.pl.dk.lt _ h; omega, fun h => by have := HW.out.1.pl.lg.lt _ h; omega⟩) HBu.out
      obtain ⟨s1, s2, s3⟩ := HW.out.2.2.1.step HBu.out (by omega)
      have s4 := HW.out.2.2.2.step HW.out.2.2.1 HBu.out (by omega)
      rw [s1] at hAA
      have HA := hid hAA
      have HLv := hid (And.intro s2 (And.intro s3 s4))
      have HR5 := hid (And.intro hr5 hA5)
      have hwz := HW.out.1.pl.bel.size
      clear hc51 hc52 hr5 hA5 hu5 HUt x0 x1 x2 s1 s2 s3 s4 hAA
      generalize m.ap dd u = r at *
      obtain ⟨rc, d2, m2⟩ := r
      simp only at HA HLv
      by_cases hc : apC m u = 0
      · rw [if_pos hc, if_pos hc] at HLv
        rw [hc] at HA
        clear hc
        go_wp2_with (fail)
        refine HA.out.mono ?_
        rintro e w6 ⟨rfl, F6, D6, hp6, hu6, hs6⟩
        have htx6 : w6.ownsRow 0 9 1 (.slice Av m.us.length cv) m.us.length (m.us.map st) := own_upd HW5.out.1.tx hu6 fun g hg h => h.elim (HW5.out.1.tn g hg).2.1 (HW5.out.1.tn g hg).2.2
        have hA6 : ∀ ad, A5 = some ad → ¬ (F ad.block ∨ D ad.block) := fun ad e h => by
          have h1 := HR5.out.2 ad e
          rcases h with h | h
          · have := HW.out.1.pl.lg.lt _ h; omega
          · have := HW.out.1.pl.dk.lt _ h; omega
        have hr6 : Rn w6 .u8 A5 u := Rd.upd HR5.out.1 (by omega) hu6 hA6
        have hcv := conv_all hr6 c5
        have hml : m.us.length ≤ 65536 := HW.out.2.2.1.snd.ok.many
        have HT6 := hid (And.intro hp6 (And.intro htx6 (And.intro (HW5.out.1.sub hs6) (And.intro hcv (HW5.out.2.moved hu6 hs6)))))
        have hcv6 := hcv w6 (Upd.refl _ _)
        have hml2 : m.us.length + 1 ≤ 9223372036854775807 := by omega
        have hml3 : (m.us.length + 1) * 16 ≤ 140737488355328 := by omega
        have HEl := hid (show es.length ≤ 65536 from by rw [HW.out.2.2.2.len]; exact hml)
        clear hp6 hu6 hs6 htx6 hA6 hr6 hcv HA
        unfold st at hcv6
        go_wp2_with (at_builtin; refine ap_row 0 rfl (.tmp 46) (.tmp 49) 42 9 (.string ⟨#[]⟩) 1 16 rfl Try.underlying42 str_info rfl (by omega) (.slice Av m.us.length cv) m.us.length (m.us.map st) (some ⟨w6.heap.size, 0, none⟩) 1 1 [st u] rfl rfl (HT6.out.2.1.alloc _) (Rd_lit w6 _ 1 1 _ rfl) (by intro z hz; obtain rfl := List.mem_singleton.1 hz; rfl) hml2 hml3 (Nat.zero_le _) ?_; intro A7 c7 w7 ho7 hg7 hat7)
        have hal : Upd No w6 (w6.alloc (.cells #[.string (strOfNums u)] 9)) := (Upd.refl _ _).alloc _
        have hu7 : Upd (fun k => (Value.slice Av m.us.length cv).ownBlock = some k) w6 w7 := (hal.mono fun _ _ h => h.elim).grown hg7 fun k hk => .inl hk
        have HT7 : Hid (Ts w w7 F6 D6 q p m2 d2 (.slice A7 (m.us.length + 1) c7) ∧ En w w7 F6 D6 (.slice Ae es.length ce) es) := hid ⟨Ts.push HT6.out.1 HLv.out.2.1 HT6.out.2.2.1 hal ho7 hg7 hat7, HT6.out.2.2.2.2.upd hu7 fun g hg e => own_own_ne HT6.out.2.1 HT6.out.2.2.2.2.tx (by decide) e hg⟩
        have HWr := hid (writes p d2 D6 w7 HT7.out.1.pl.dk HLv.out.1.snd.dok)
        clear ho7 hg7 hat7 hal hcv6 HT6 HW5 HR5 hu7
        generalize hLe : d2.log.length = le at *
        have HLe := hid hLe
        clear hLe
        go_wp2_with (fail)
        refine HWr.out.mono ?_
        rintro e w8 ⟨rfl, rfl⟩
        clear HWr
        have hel2 : es.length + 1 ≤ 9223372036854775807 := by have := HEl.out; omega
        have hel3 : (es.length + 1) * 8 ≤ 140737488355328 := by have := HEl.out; omega
        go_wp2_with (at_builtin; refine ap_row 0 rfl (.tmp 51) (.tmp 54) 46 3 (.int .i64 0) 1 8 rfl Try.underlying46 int_info rfl (by omega) (.slice Ae es.length ce) es.length (es.map en) (some ⟨w7.heap.size, 0, none⟩) 1 1 [en le] rfl rfl (HT7.out.2.tx.alloc _) (Rd_lit w7 _ 1 1 _ rfl) (by intro z hz; obtain rfl := List.mem_singleton.1 hz; rfl) hel2 hel3 (Nat.zero_le _) ?_; intro A9 c9 w9 ho9 hg9 hat9)
        have HT := hid (En.push (x := le) HT7.out.1 HT7.out.2 ((Upd.refl No w7).alloc _) ho9 hg9 hat9)
        clear ho9 hg9 hat9 HT7
        go_wp2
        go_roundw
        case rel => exact ⟨j + 1, F6, D6, m2, d2, es ++ [le], by omega, by go_num, hid ⟨HT.out.1, HT.out.2, HLv.out.1, HLv.out.2.2⟩⟩
        case measure => simp [intOf]; omega
      · rw [if_neg hc, if_neg hc] at HLv
        have hne : (apC m u == 0) = false := by simpa using hc
        clear hc
        generalize apC m u = rc2 at *
        go_wp2_with (fail)
        refine HA.out.mono ?_
        rintro e w6 ⟨rfl, F6, D6, hp6, hu6, hs6⟩
        have HT : Hid (Ts w w6 F6 D6 q p m2 d2 (.slice Av m.us.length cv) ∧ En w w6 F6 D6 (.slice Ae es.length ce) es) := hid ⟨⟨hp6, by
          rw [HLv.out.2.1]
          exact own_upd HW5.out.1.tx hu6 fun g hg h => h.elim (HW5.out.1.tn g hg).2.1 (HW5.out.1.tn g hg).2.2, HW5.out.1.sub hs6⟩, HW5.out.2.moved hu6 hs6⟩
        clear hp6 hu6 hs6 HA HW5 HR5
        go_wp2
        go_roundw
        case rel => exact ⟨j + 1, F6, D6, m2, d2, es, by omega, by go_num, hid ⟨HT.out.1, HT.out.2, HLv.out.1, HLv.out.2.2⟩⟩
        case measure => simp [intOf]; omega
    · obtain rfl : j = xs.length := by omega
      obtain ⟨wo, rfl⟩ : ∃ wo : World, wo = wr := ⟨_, rfl⟩
      have HWr := hid (writes p dd D wo HW.out.1.pl.dk HW.out.2.2.1.snd.dok)
      have hL50 : dd.log.length ≤ 50 := by
        have h1 := HW.out.2.2.2.used
        have h2 := HW.out.2.2.1.snd.ok.le
        rw [HW.out.2.2.1.count] at h2
        omega
      obtain ⟨L, hL⟩ : ∃ L, L = dd.log.length := ⟨_, rfl⟩
      rw [← hL] at HWr hL50
      have HL := hid hL
      clear hL
      go_wp2_with (fail)
      refine HWr.out.mono ?_
      rintro e w8 ⟨rfl, rfl⟩
      clear HWr
      have HQ : Hid (Ts w wo F D q p m dd (.slice Av m.us.length cv) ∧ En w wo F D (.slice Ae es.length ce) es) := hid ⟨HW.out.1, HW.out.2.1⟩
      have HLv := hid HW.out.2.2
      have hel : es.length ≤ 65536 := by rw [HLv.out.2.len]; exact HLv.out.1.snd.ok.many
      clear HW
      go_wp2_with (fail)
      go_loopw [60] (fun v60 W => ∃ n : Nat, n ≤ L + 1 ∧ v60 = .int .i64 n ∧ Hid (Ts w W F D q p m dd (.slice Av m.us.length cv) ∧ En w W F D (.slice Ae es.length ce) es)) (fun v60 _ => L + 1 - (intOf v60).toNat)
      case atStart => exact ⟨0, by omega, rfl, HQ⟩
      case round =>
        clear HQ
        obtain ⟨n, hn, rfl, HW⟩ := hrel
        by_cases hnl : n < L + 1
        · obtain ⟨wi, rfl⟩ : ∃ wi : World, wi = wr := ⟨_, rfl⟩
          have hn1 : (n : Int) < (L : Int) + 1 := by omega
          have HRe := hid fun W (hu : Upd No wi W) => Rd.of_own (HW.out.2.quiet hu).tx
          go_wp2_with (fail)
          go_loopw [13] (fun v13 W => ∃ k : Nat, k ≤ es.length ∧ v13 = .int .i64 k ∧ Hid (∀ i, i < k → es.getD i 0 ≤ n) ∧ Hid (Upd No wi W)) (fun v13 _ => es.length - (intOf v13).toNat)
          case atStart => exact ⟨0, Nat.zero_le _, rfl, hid fun i hi => absurd hi (Nat.not_lt_zero _), hid (Upd.refl _ _)⟩
          case round =>
            obtain ⟨k, hk, rfl, HK, HU⟩ := hrel
            by_cases hgo : k < es.length ∧ es.getD k 0 ≤ n
            · obtain ⟨hk1, hk2⟩ := hgo
              obtain ⟨ad, hAe, hcl⟩ := ends_at (HRe.out _ HU.out) hk1
              subst hAe
              have HK2 : Hid (∀ i, i < k + 1 → es.getD i 0 ≤ n) := hid fun i hi => by
                rcases Nat.lt_or_ge i k with h | h
                · exact HK.out i h
                · obtain rfl : i = k := by omega
                  exact hk2
              have hk3 : (k : Int) < (es.length : Int) := by omega
              have hk0 : (0 : Int) ≤ (k : Int) := by omega
              generalize es.getD k 0 = ek at hcl hk2
              have hk4 : (ek : Int) ≤ (n : Int) := by omega
              go_wp2
              go_roundw
              case rel => exact ⟨k + 1, by omega, by go_num, HK2, HU⟩
              case measure => simp [intOf]; omega
            · have hlo := HLv.out.2.cut n (by have := HL.out; omega) k hk HK.out (fun h => by
                rcases Nat.lt_or_ge n (es.getD k 0) with h1 | h1
                · exact h1
                · exact absurd ⟨h, h1⟩ hgo)
              obtain ⟨s, hs⟩ := hlo
              rw [HLv.out.1.ep, HLv.out.1.fr, HLv.out.1.count] at hs
              have hk' : k ≤ m.us.length := by rw [← HLv.out.2.len]; exact hk
              have hnb : dd.nb ≤ 65536 := by rw [HLv.out.1.nb]; decide
              have HCt := hid fun W (hu : Upd No wi W) => cut_in p dd D n W (HW.out.1.quiet hu).pl.dk hnb HLv.out.1.snd.fit (by have := HL.out; omega) HLv.out.2.at_ (by have := HL.out; omega)
              have hckd : (cutD dd n).ok := ⟨by simp [cutD], by simp [cutD], hnb⟩
              have hckf : Fit (cutD dd n) := fun x hx => HLv.out.1.snd.fit x (List.mem_of_mem_take hx)
              have HOp := hid (And.intro hckd (And.intro hckf (opL_ar (d := cutD dd n) (fr := 5) (count := 50) rfl (by omega) (by simp only [cutD]; rw [HLv.out.1.nb]; decide) hs)))
              have hlen : (m.us.take k).length = k := List.length_take_of_le hk'
              have HSm : Hid (∀ (G : Nat → Prop) (W' : World) (A : Option Addr) (c : Nat), Uns W' G (.slice A k c) (m.us.take k) → Upd No wi W' → Calls Try.prog 17 #[.slice A k c, .slice Av k cv] W' fun e w' => e = .returned (.bool true) ∧ Upd No W' w') := hid fun G W' A c hun hu => by
                have h1 := (Rd.of_own (HW.out.1.quiet hu).tx).take hk'
                rw [Nat.mul_one, ← List.map_take] at h1
                have h2 := same_ (A := A) (B := Av) (c := c) (d := cv) (us := m.us.take k) (w := W') (F := G) (by rw [hlen]; exact hun) (by rw [hlen]; exact h1) (by rw [hlen]; have := HLv.out.1.snd.ok.many; omega)
                rw [hlen] at h2
                exact h2
              have hcs := cut_top (P := Try.prog) 42 9 .i64 1 Try.underlying42 (by kernel_rfl) Av m.us.length cv k (k : Int) rfl (by omega)
              have HLn := hid hlen
              have hdis : ¬ k < es.length ∨ (k < es.length ∧ n < es.getD k 0 ∧ k = 0 ∧ n = 0) ∨ (k < es.length ∧ n < es.getD k 0 ∧ k = 0 ∧ 0 < n) ∨ (k < es.length ∧ n < es.getD k 0 ∧ ∃ k', k = k' + 1 ∧ es.getD k' 0 < n) ∨ (k < es.length ∧ n < es.getD k 0 ∧ ∃ k', k = k' + 1 ∧ ¬ es.getD k' 0 < n) := by
                by_cases h1 : k < es.length
                · have h2 : n < es.getD k 0 := by omega
                  right
                  rcases Nat.eq_zero_or_pos k with h3 | h3
                  · rcases Nat.eq_zero_or_pos n with h4 | h4
                    · exact .inl ⟨h1, h2, h3, h4⟩
                    · exact .inr (.inl ⟨h1, h2, h3, h4⟩)
                  · obtain ⟨k', rfl⟩ : ∃ k', k = k' + 1 := ⟨k - 1, by omega⟩
                    by_cases h4 : es.getD k' 0 < n
                    · exact .inr (.inr (.inl ⟨h1, h2, k', rfl, h4⟩))
                    · exact .inr (.inr (.inr ⟨h1, h2, k', rfl, h4⟩))
                · exact .inl h1
              clear hlen hgo hckd hckf hs hnb
              have hk0 : (0 : Int) ≤ (k : Int) := by omega
              rcases hdis with h1 | ⟨h1, h2, h3, h4⟩ | ⟨h1, h2, h3, h4⟩ | ⟨h1, h2, k', h3, h4⟩ | ⟨h1, h2, k', h3, h4⟩
              case' inl =>
                have hk3 : ¬ (k : Int) < (es.length : Int) := by omega
                have HC : Hid (∀ W, Upd No wi W → True) := hid fun _ _ => trivial
                clear h1
              case' inr.inl =>
                have hk3 : (k : Int) < (es.length : Int) := by omega
                obtain ⟨ad, hAe, hcl⟩ := ends_at (HRe.out _ HU.out) h1
                subst hAe
                generalize es.getD k 0 = ek at hcl h2
                have hk4 : ¬ (ek : Int) ≤ (n : Int) := by omega
                have hk5 : ((k : Int) == 0) = true := by simp [h3]
                have hk6 : ¬ (0 : Int) < (k : Int) := by omega
                have hn5 : ¬ (0 : Int) < (n : Int) := by omega
                have HC : Hid (∀ W, Upd No wi W → True) := hid fun _ _ => trivial
                clear h1 h2 h3 h4
              case' inr.inr.inl =>
                have hk3 : (k : Int) < (es.length : Int) := by omega
                obtain ⟨ad, hAe, hcl⟩ := ends_at (HRe.out _ HU.out) h1
                subst hAe
                generalize es.getD k 0 = ek at hcl h2
                have hk4 : ¬ (ek : Int) ≤ (n : Int) := by omega
                have hk5 : ((k : Int) == 0) = true := by simp [h3]
                have hn5 : (0 : Int) < (n : Int) := by omega
                have HC : Hid (∀ W, Upd No wi W → True) := hid fun _ _ => trivial
                clear h1 h2 h3 h4
              case' inr.inr.inr.inl =>
                have hk3 : (k : Int) < (es.length : Int) := by omega
                obtain ⟨ad, hAe, hcl⟩ := ends_at (HRe.out _ HU.out) h1
                subst hAe
                have HC : Hid (∀ W, Upd No wi W → W.cell? (ad.add k') = some (.int .i64 (es.getD k' 0 : Nat))) := hid fun W hu => by
                  obtain ⟨ad2, h5, h6⟩ := ends_at (k := k') (HRe.out _ hu) (by omega)
                  cases h5
                  exact h6
                generalize es.getD k 0 = ek at hcl h2
                generalize es.getD k' 0 = ek1 at HC h4
                have hk4 : ¬ (ek : Int) ≤ (n : Int) := by omega
                have hk5 : ((k : Int) == 0) = false := by simp [h3]; omega
                have hk6 : (0 : Int) < (k : Int) := by omega
                have hsub : (k : Int) - 1 = (k' : Int) := by omega
                have hk7 : (0 : Int) ≤ (k' : Int) := by omega
                have hk8 : (k' : Int) < (es.length : Int) := by omega
                have hn5 : (ek1 : Int) < (n : Int) := by omega
                clear h1 h2 h3 h4
              case' inr.inr.inr.inr =>
                have hk3 : (k : Int) < (es.length : Int) := by omega
                obtain ⟨ad, hAe, hcl⟩ := ends_at (HRe.out _ HU.out) h1
                subst hAe
                have HC : Hid (∀ W, Upd No wi W → W.cell? (ad.add k') = some (.int .i64 (es.getD k' 0 : Nat))) := hid fun W hu => by
                  obtain ⟨ad2, h5, h6⟩ := ends_at (k := k') (HRe.out _ hu) (by omega)
                  cases h5
                  exact h6
                generalize es.getD k 0 = ek at hcl h2
                generalize es.getD k' 0 = ek1 at HC h4
                have hk4 : ¬ (ek : Int) ≤ (n : Int) := by omega
                have hk5 : ((k : Int) == 0) = false := by simp [h3]; omega
                have hk6 : (0 : Int) < (k : Int) := by omega
                have hsub : (k : Int) - 1 = (k' : Int) := by omega
                have hk7 : (0 : Int) ≤ (k' : Int) := by omega
                have hk8 : (k' : Int) < (es.length : Int) := by omega
                have hn5 : ¬ (ek1 : Int) < (n : Int) := by omega
                clear h1 h2 h3 h4
              all_goals
                go_wp2_with (fail)
                refine (HCt.out _ HU.out).mono ?_
                rintro e w3 ⟨p3, F3, rfl, hd3, hf3, hb3⟩
                have HU3 := hid (HU.out.next (Upd.of_below No hb3))
                have hsz := HU.out.size
                have hsz2 := HW.out.1.pl.bel.size
                have HO3 := hid (open_pl (w := w) (W := w3) (m := ⟨5, 50, ep, m.us.take k, s, false⟩) ⟨hd3, fun i hi => by have := hf3 i hi; omega, (HW.out.1.quiet HU3.out).pl.bel⟩ HOp.out.1 HOp.out.2.1 HEp.out HOp.out.2.2)
                clear hd3 hf3 hb3 hsz hsz2 HCt
                go_wp2_with (fail)
                refine HO3.out.mono ?_
                rintro e w4 ⟨q4, F4, rfl, hp4, hmo4, hu4⟩
                have HU4 := hid (HU3.out.next hu4)
                have hcl4 := HC.out w4 HU4.out
                have HUk : Hid (∀ W, Upd No w4 W → Calls Try.prog 15 #[.pointer (some ⟨q4, 0, none⟩)] W fun e W' => UkOut k (m.us.take k) W e W') := hid fun W hu => by
                  have h1 : Calls Try.prog 15 #[.pointer (some ⟨q4, 0, none⟩)] W fun e W' => UnOut W (m.us.take k) e W' := units q4 p3 _ F4 W (hp4.lg.upd hu fun _ _ => no_ _) hmo4
                  unfold UnOut at h1
                  rw [HLn.out] at h1
                  exact h1
                clear hp4 hmo4 hu4 HO3 HOp
                go_wp2_with (fail)
                refine wp_region_held_drew (S := fun W => Upd No w4 W) (by kernel_rfl) (Upd.refl _ _).drew (fun hS => ?_)
                refine rg_at 0 (by decide) (fun oi hoi => ?_)
                have ho2 := hoi; simp only [List.getElem?_toArray, List.getElem?_cons_succ, List.getElem?_cons_zero, Option.some.injEq] at ho2; subst ho2
                refine rg_take (v := ?_) 0 hoi (by kernel_rfl) (by kernel_rfl) (by kernel_rfl) (fun _ _ _ h => h) (by rfl) ?_ hS ?_
                rotate_left
                · intro w _; go_simp; try with_reducible rfl
                clear hoi; try simp only [Act.put, List.setIfInBounds_toArray, List.set_cons_zero, List.set_cons_succ]
                refine rg_at 1 (by decide) (fun oi hoi => ?_)
                have ho2 := hoi; simp only [List.getElem?_toArray, List.getElem?_cons_succ, List.getElem?_cons_zero, Option.some.injEq] at ho2; subst ho2
                refine rg_take (v := ?_) 1 hoi (by kernel_rfl) (by kernel_rfl) (by kernel_rfl) (fun _ _ _ h => h) (by rfl) ?_ hS ?_
                rotate_left
                · intro w _; go_simp; try with_reducible rfl
                clear hoi; try simp only [Act.put, List.setIfInBounds_toArray, List.set_cons_zero, List.set_cons_succ]
                refine rg_at 2 (by decide) (fun oi hoi => ?_)
                have ho2 := hoi; simp only [List.getElem?_toArray, List.getElem?_cons_succ, List.getElem?_cons_zero, Option.some.injEq] at ho2; subst ho2
                refine rg_take (v := ?_) 2 hoi (by kernel_rfl) (by kernel_rfl) (by kernel_rfl) (fun _ _ _ h => h) (by rfl) ?_ hS ?_
                rotate_left
                · intro w _; go_simp; try with_reducible rfl
                clear hoi; try simp only [Act.put, List.setIfInBounds_toArray, List.set_cons_zero, List.set_cons_succ]
                refine rg_at 3 (by decide) (fun oi hoi => ?_)
                have ho2 := hoi; simp only [List.getElem?_toArray, List.getElem?_cons_succ, List.getElem?_cons_zero, Option.some.injEq] at ho2; subst ho2
                refine rg_take (v := ?_) 3 hoi (by kernel_rfl) (by kernel_rfl) (by kernel_rfl) (fun _ _ _ h => h) (by rfl) ?_ hS ?_
                rotate_left
                · intro w _; go_simp; try with_reducible rfl
                clear hoi; try simp only [Act.put, List.setIfInBounds_toArray, List.set_cons_zero, List.set_cons_succ]
                refine rg_at 5 (by decide) (fun oi hoi => ?_)
                have ho2 := hoi; simp only [List.getElem?_toArray, List.getElem?_cons_succ, List.getElem?_cons_zero, Option.some.injEq] at ho2; subst ho2
                refine rg_take (v := ?_) 5 hoi (by kernel_rfl) (by kernel_rfl) (by kernel_rfl) (fun _ _ _ h => h) (by rfl) ?_ hS ?_
                rotate_left
                · intro w _; go_simp; try with_reducible rfl
                clear hoi; try simp only [Act.put, List.setIfInBounds_toArray, List.set_cons_zero, List.set_cons_succ]
                refine rg_at 6 (by decide) (fun oi hoi => ?_)
                have ho2 := hoi; simp only [List.getElem?_toArray, List.getElem?_cons_succ, List.getElem?_cons_zero, Option.some.injEq] at ho2; subst ho2
                refine rg_take (v := ?_) 6 hoi (by kernel_rfl) (by kernel_rfl) (by kernel_rfl) (fun _ _ _ h => h) (by rfl) ?_ hS ?_
                rotate_left
                · intro w _; go_simp; try with_reducible rfl
                clear hoi; try simp only [Act.put, List.setIfInBounds_toArray, List.set_cons_zero, List.set_cons_succ]
                refine rg_at 7 (by decide) (fun oi hoi => ?_)
                have ho2 := hoi; simp only [List.getElem?_toArray, List.getElem?_cons_succ, List.getElem?_cons_zero, Option.some.injEq] at ho2; subst ho2
                refine rg_take (v := ?_) 7 hoi (by kernel_rfl) (by kernel_rfl) (by kernel_rfl) (fun _ _ _ h => h) (by rfl) ?_ hS ?_
                rotate_left
                · intro w hw; have hf := hcs w; clear hw; go_simp; try with_reducible rfl
                clear hoi; try simp only [Act.put, List.setIfInBounds_toArray, List.set_cons_zero, List.set_cons_succ]
                refine rg_at 4 (by decide) (fun oi hoi => ?_)
                have ho2 := hoi; simp only [List.getElem?_toArray, List.getElem?_cons_succ, List.getElem?_cons_zero, Option.some.injEq] at ho2; subst ho2
                refine rg_call 4 (by kernel_rfl) hoi (by rfl) (fun K hK => ?_)
                clear hoi
                go_simp
                refine Calls.mono (HUk.out _ hS) ?_
                rintro e w5 ⟨A5, c5, rfl, hun5, hu5⟩
                have hS5 := Upd.next hS hu5
                go_wp2_with (fail)
                refine hK.out _ _ ((by exact hS5)) (fun hS => ?_)
                clear hK K
                try simp only [Act.put, List.setIfInBounds_toArray, List.set_cons_zero, List.set_cons_succ]
                refine rg_at 8 (by decide) (fun oi hoi => ?_)
                have ho2 := hoi; simp only [List.getElem?_toArray, List.getElem?_cons_succ, List.getElem?_cons_zero, Option.some.injEq] at ho2; subst ho2
                refine rg_call 8 (by kernel_rfl) hoi (by rfl) (fun K hK => ?_)
                clear hoi
                go_simp
                refine Calls.mono (HSm.out _ _ _ _ hun5 (HU4.out.next hS5)) ?_
                rintro e w6 ⟨rfl, hu6⟩
                have hS6 := Upd.next hS5 hu6
                go_wp2_with (fail)
                refine hK.out _ _ ((by exact hS6)) (fun hS => ?_)
                clear hK K
                try simp only [Act.put, List.setIfInBounds_toArray, List.set_cons_zero, List.set_cons_succ]
                refine rg_at 9 (by decide) (fun oi hoi => ?_)
                have ho2 := hoi; simp only [List.getElem?_toArray, List.getElem?_cons_succ, List.getElem?_cons_zero, Option.some.injEq] at ho2; subst ho2
                refine rg_take (v := ?_) 9 hoi (by kernel_rfl) (by kernel_rfl) (by kernel_rfl) (fun _ _ _ h => h) (by rfl) ?_ hS ?_
                rotate_left
                · intro w _; go_simp; try with_reducible rfl
                clear hoi; try simp only [Act.put, List.setIfInBounds_toArray, List.set_cons_zero, List.set_cons_succ]
                refine rg_at 10 (by decide) (fun oi hoi => ?_)
                have ho2 := hoi; simp only [List.getElem?_toArray, List.getElem?_cons_succ, List.getElem?_cons_zero, Option.some.injEq] at ho2; subst ho2
                refine rg_take (v := ?_) 10 hoi (by kernel_rfl) (by kernel_rfl) (by kernel_rfl) (fun _ _ _ h => h) (by rfl) ?_ hS ?_
                rotate_left
                · intro w _; go_simp; try with_reducible rfl
                clear hoi; try simp only [Act.put, List.setIfInBounds_toArray, List.set_cons_zero, List.set_cons_succ]
                refine rg_at 11 (by decide) (fun oi hoi => ?_)
                have ho2 := hoi; simp only [List.getElem?_toArray, List.getElem?_cons_succ, List.getElem?_cons_zero, Option.some.injEq] at ho2; subst ho2
                refine rg_skip 11 hoi (by kernel_rfl) (by kernel_rfl) (by kernel_rfl) (fun _ _ _ h => h) (by rfl) hS ?_
                clear hoi; try simp only [Act.put, List.setIfInBounds_toArray, List.set_cons_zero, List.set_cons_succ]
                refine rg_at 12 (by decide) (fun oi hoi => ?_)
                have ho2 := hoi; simp only [List.getElem?_toArray, List.getElem?_cons_succ, List.getElem?_cons_zero, Option.some.injEq] at ho2; subst ho2
                refine rg_skip 12 hoi (by kernel_rfl) (by kernel_rfl) (by kernel_rfl) (fun _ _ _ h => h) (by rfl) hS ?_
                clear hoi; try simp only [Act.put, List.setIfInBounds_toArray, List.set_cons_zero, List.set_cons_succ]
                refine rg_at 13 (by decide) (fun oi hoi => ?_)
                have ho2 := hoi; simp only [List.getElem?_toArray, List.getElem?_cons_succ, List.getElem?_cons_zero, Option.some.injEq] at ho2; subst ho2
                refine rg_skip 13 hoi (by kernel_rfl) (by kernel_rfl) (by kernel_rfl) (fun _ _ _ h => h) (by rfl) hS ?_
                clear hoi; try simp only [Act.put, List.setIfInBounds_toArray, List.set_cons_zero, List.set_cons_succ]
                refine rg_at 14 (by decide) (fun oi hoi => ?_)
                have ho2 := hoi; simp only [List.getElem?_toArray, List.getElem?_cons_succ, List.getElem?_cons_zero, Option.some.injEq] at ho2; subst ho2
                refine rg_skip 14 hoi (by kernel_rfl) (by kernel_rfl) (by kernel_rfl) (fun _ _ _ h => h) (by rfl) hS ?_
                clear hoi; try simp only [Act.put, List.setIfInBounds_toArray, List.set_cons_zero, List.set_cons_succ]
                refine rg_at 15 (by decide) (fun oi hoi => ?_)
                have ho2 := hoi; simp only [List.getElem?_toArray, List.getElem?_cons_succ, List.getElem?_cons_zero, Option.some.injEq] at ho2; subst ho2
                refine rg_skip 15 hoi (by kernel_rfl) (by kernel_rfl) (by kernel_rfl) (fun _ _ _ h => h) (by rfl) hS ?_
                clear hoi; try simp only [Act.put, List.setIfInBounds_toArray, List.set_cons_zero, List.set_cons_succ]
                refine rg_at 16 (by decide) (fun oi hoi => ?_)
                have ho2 := hoi; simp only [List.getElem?_toArray, List.getElem?_cons_succ, List.getElem?_cons_zero, Option.some.injEq] at ho2; subst ho2
                refine rg_skip 16 hoi (by kernel_rfl) (by kernel_rfl) (by kernel_rfl) (fun _ _ _ h => h) (by rfl) hS ?_
                clear hoi; try simp only [Act.put, List.setIfInBounds_toArray, List.set_cons_zero, List.set_cons_succ]
                refine rg_at 17 (by decide) (fun oi hoi => ?_)
                have ho2 := hoi; simp only [List.getElem?_toArray, List.getElem?_cons_succ, List.getElem?_cons_zero, Option.some.injEq] at ho2; subst ho2
                refine rg_skip 17 hoi (by kernel_rfl) (by kernel_rfl) (by kernel_rfl) (fun _ _ _ h => h) (by rfl) hS ?_
                clear hoi; try simp only [Act.put, List.setIfInBounds_toArray, List.set_cons_zero, List.set_cons_succ]
                refine rg_at 18 (by decide) (fun oi hoi => ?_)
                have ho2 := hoi; simp only [List.getElem?_toArray, List.getElem?_cons_succ, List.getElem?_cons_zero, Option.some.injEq] at ho2; subst ho2
                refine rg_skip 18 hoi (by kernel_rfl) (by kernel_rfl) (by kernel_rfl) (fun _ _ _ h => h) (by rfl) hS ?_
                clear hoi; try simp only [Act.put, List.setIfInBounds_toArray, List.set_cons_zero, List.set_cons_succ]
                refine rg_at 19 (by decide) (fun oi hoi => ?_)
                have ho2 := hoi; simp only [List.getElem?_toArray, List.getElem?_cons_succ, List.getElem?_cons_zero, Option.some.injEq] at ho2; subst ho2
                refine rg_skip 19 hoi (by kernel_rfl) (by kernel_rfl) (by kernel_rfl) (fun _ _ _ h => h) (by rfl) hS ?_
                clear hoi; try simp only [Act.put, List.setIfInBounds_toArray, List.set_cons_zero, List.set_cons_succ]
                refine rg_at 20 (by decide) (fun oi hoi => ?_)
                have ho2 := hoi; simp only [List.getElem?_toArray, List.getElem?_cons_succ, List.getElem?_cons_zero, Option.some.injEq] at ho2; subst ho2
                refine rg_skip 20 hoi (by kernel_rfl) (by kernel_rfl) (by kernel_rfl) (fun _ _ _ h => h) (by rfl) hS ?_
                clear hoi; try simp only [Act.put, List.setIfInBounds_toArray, List.set_cons_zero, List.set_cons_succ]
                refine rg_at 21 (by decide) (fun oi hoi => ?_)
                have ho2 := hoi; simp only [List.getElem?_toArray, List.getElem?_cons_succ, List.getElem?_cons_zero, Option.some.injEq] at ho2; subst ho2
                refine rg_skip 21 hoi (by kernel_rfl) (by kernel_rfl) (by kernel_rfl) (fun _ _ _ h => h) (by rfl) hS ?_
                clear hoi; try simp only [Act.put, List.setIfInBounds_toArray, List.set_cons_zero, List.set_cons_succ]
                refine rg_at 22 (by decide) (fun oi hoi => ?_)
                have ho2 := hoi; simp only [List.getElem?_toArray, List.getElem?_cons_succ, List.getElem?_cons_zero, Option.some.injEq] at ho2; subst ho2
                refine rg_take (v := ?_) 22 hoi (by kernel_rfl) (by kernel_rfl) (by kernel_rfl) (fun _ _ _ h => h) (by rfl) ?_ hS ?_
                rotate_left
                · intro w _; go_simp; try with_reducible rfl
                clear hoi; try simp only [Act.put, List.setIfInBounds_toArray, List.set_cons_zero, List.set_cons_succ]
                refine rg_at 23 (by decide) (fun oi hoi => ?_)
                have ho2 := hoi; simp only [List.getElem?_toArray, List.getElem?_cons_succ, List.getElem?_cons_zero, Option.some.injEq] at ho2; subst ho2
                refine rg_take (v := ?_) 23 hoi (by kernel_rfl) (by kernel_rfl) (by kernel_rfl) (fun _ _ _ h => h) (by rfl) ?_ hS ?_
                rotate_left
                · intro w _; go_simp; try with_reducible rfl
                clear hoi; try simp only [Act.put, List.setIfInBounds_toArray, List.set_cons_zero, List.set_cons_succ]
                refine wpAnyH_done (by kernel_rfl) ?_ _
                have HZ : Hid (Ts w _ F D q p m dd (.slice Av m.us.length cv) ∧ En w _ F D _ es) := hid ⟨HW.out.1.quiet (HU4.out.next hS), HW.out.2.quiet (HU4.out.next hS)⟩
                clear hun5 hu5 hS5 hu6 hS6 hS
                go_wp2
                go_roundw
                case rel => exact ⟨n + 1, by omega, by go_num, HZ⟩
                case measure => simp [intOf]; omega
        · obtain rfl : n = L + 1 := by omega
          have HE := hid HW.out.1.pl.bel
          go_wp2
          go_ret
          exact ⟨rfl, HE.out⟩
end Go.Proofs.Ytheopehhpoikdaa.Gl
