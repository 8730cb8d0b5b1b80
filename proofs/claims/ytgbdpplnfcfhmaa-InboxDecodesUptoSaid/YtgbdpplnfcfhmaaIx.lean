/-
  The walk of InboxDecodes.
-/
import Derived.Test.YtgbdpplnfcfhmaaIw
set_option linter.unusedVariables false
set_option linter.unusedSimpArgs false
namespace Go.Proofs.Ytgbdpplnfcfhmaa.Iw
open Go.RowKit Go.Proofs.Ytgbdpplnfcfhmaa Go.Proofs.Ytgbdpplnfcfhmaa.B Go.Proofs.Ytgbdpplnfcfhmaa.Op Go.Proofs.Ytgbdpplnfcfhmaa.Lt Go.Proofs.Ytgbdpplnfcfhmaa.Ib Go.Proofs.Ytgbdpplnfcfhmaa.Ls Go.Proofs.Ytgbdpplnfcfhmaa.La Go.Proofs.Ytgbdpplnfcfhmaa.If Go.Proofs.Ytgbdpplnfcfhmaa.Im Go.Proofs.Ytgbdpplnfcfhmaa.Ir Go.Proofs.Ytgbdpplnfcfhmaa.Io Go.Proofs.Ytgbdpplnfcfhmaa.Pk Go.Proofs.Ytgbdpplnfcfhmaa.Ip
open Go.Proofs.Ytgbdpplnfcfhmaa.Lc (lb Wf)
open Go.Proofs.Ytgbdpplnfcfhmaa.Cr (Byte)
theorem bytes_one : Try.prog.bytesOf 5 = 1 := by kernel_rfl
theorem pushL_wf {xs : List L} (x : L) (h : ∀ x ∈ xs, Wf x) (hx : Wf x) : ∀ y ∈ (pushL xs x).2, Wf y := by
  unfold pushL
  split
  · split
    · intro y hy
      rcases List.mem_append.1 hy with hy | hy
      · exact h y hy
      · obtain rfl := List.mem_singleton.1 hy
        exact hx
    · exact h
  · exact h
theorem lb_byte (x : L) (hw : Wf x) : Byte (lb x) := by
  intro c hc
  simp only [lb, Lc.hb, List.mem_append] at hc
  rcases hc with ((((hc | hc) | hc) | hc) | hc) | hc
  · exact Cp.num_byte _ (by omega) c hc
  · simp only [sb, List.mem_map] at hc
    obtain ⟨b, _, rfl⟩ := hc
    have := b.toNat_lt
    omega
  · exact Cp.num_byte _ hw.u.1 c hc
  · exact Cp.num_byte _ (by unfold Cw.zz; split <;> omega) c hc
  · exact Cp.num_byte _ (by omega) c hc
  · obtain ⟨z, _, h⟩ := List.mem_flatMap.1 hc
    exact Cp.num_byte _ (by unfold Cw.zz; split <;> omega) c h
theorem conv_all {w : World} {A : Option Addr} {l : List Int} (h : Rn w .u8 A l) (c : Nat) {st : ByteArray} (hst : st = strOfNums l) : ∀ W, Upd No w W → (convert 52 9 (.slice A l.length c)).run Try.prog W = .ok (.string st) W := by
  subst hst
  exact fun W hu => conv_str (P := Try.prog) (Rd.upd h (by omega) hu fun _ _ => no_ _ : Rn W .u8 A l) 52 9 5 c Try.underlying52 Try.underlying5 Try.underlying9
theorem packL_facts {ys : List L} (h : ∀ z ∈ ys, formed z = true ∧ Wf z) (hl : ys.length ≤ 8) : decI (packL ys) = some ys ∧ (packL ys).length ≤ 1000000 ∧ Byte (packL ys) ∧ packC ys = 0 := by
  have ha : ys.all formed = true := List.all_eq_true.2 fun x hx => (h x hx).1
  refine ⟨?_, ?_, ?_, ?_⟩
  · unfold decI
    rw [unp_pack ys h (by omega), if_pos ⟨rfl, hl⟩]
  · have h1 := pkb_le ys fun z hz => sm_of (h z hz)
    have h2 := (Cm.num_length (ys.length : Int)).2
    unfold packL
    rw [ha]
    simp only [if_true, List.length_append]
    omega
  · unfold packL
    rw [ha]
    simp only [if_true]
    intro z hz
    rcases List.mem_append.1 hz with hz | hz
    · exact Cp.num_byte _ (by omega) z hz
    · simp only [pkb, List.mem_flatMap] at hz
      obtain ⟨x, hx, hz⟩ := hz
      exact lb_byte x (h x hx).2 z hz
  · unfold packC
    rw [ha]
    rfl
set_option maxHeartbeats 8000000 in
set_option maxRecDepth 100000 in
theorem law_decodes (A B : Option Addr) (c d : Nat) (xs : List Oi) (l : List Int) (w : World) (hr : Rd w 5 A xs.length (xs.flatMap ocells)) (hl : xs.length ≤ c ∧ c ≤ maxLen) (hin : ∀ x ∈ xs, In w x.2.1 x.2.2 ∧ x.2.1.1.size ≤ maxLen ∧ Wf x.2.1)
    (hrb : Rn w .u8 B l) (hd : l.length ≤ d) (hdl : d * Try.prog.bytesOf 5 ≤ 140737488351232) (hby : ∀ x ∈ l, (Lit.int .u8 x).wf = true) (hl2 : l.length ≤ 1048576) :
    Calls Try.prog 7 #[.slice A xs.length c, .slice B l.length d] w fun e w' => e = .returned (.bool true) ∧ Below w.heap.size w w' := by
  have hl0 := hl.1
  have hl1 := hl.2
  simp only [maxLen] at hl1
  rw [bytes_one] at hdl
  have hdm : d ≤ 9223372036854775807 := by omega
  have hn : xs.length ≤ 9223372036854775807 := by omega
  have HIn := hid hin
  have HBy : Hid (Byte l) := hid fun x hx => by
    have := Law.wf_u8 (hby x hx)
    omega
  have HB := hid fun W (hu : Upd No w W) => (Rd.upd hrb (by omega) hu fun _ _ => no_ _ : Rn W .u8 B l)
  clear hby hrb hin hl
  go_enter Try.func7, Try.ntmps7
  go_wp2_with (fail)
  refine (awake w).mono ?_
  rintro e w1 ⟨rfl, hb1⟩
  have HB1 := hid hb1
  have HF := hid (few A c xs w1 (Rd.below hr (by omega) hb1) hn (fun x hx => ⟨In.below (HIn.out x hx).1 hb1, (HIn.out x hx).2.1⟩))
  clear hb1
  go_wp2_with (fail)
  refine HF.out.mono ?_
  rintro e w1' ⟨b, rfl, rfl, hfew⟩
  rcases b with _ | _
  · clear hfew
    go_wp2_with (fail)
    refine (awake w1).mono ?_
    rintro e w2 ⟨rfl, hb2⟩
    have HE := hid (HB1.out.trans (hb2.mono HB1.out.size))
    clear hb2
    go_wp2
    go_ret
    exact ⟨rfl, HE.out⟩
  clear hfew HF
  go_wp2_with (fail)
  refine (new_ w1).mono ?_
  rintro e w2 ⟨rfl, hIa, hu2⟩
  have HS0 : Hid (∃ (F0 G0 : Nat → Prop) (p q : Nat) (w3 : World), w3 = w2.alloc (.cells #[.slice none 0 0] 40) ∧ Bt w w3 F0 G0 p q [] ∧ w1.heap.size = p ∧ w2.heap.size = q) :=
    hid ⟨_, _, _, _, _, rfl, ⟨hIa.upd ((Upd.refl No w2).alloc _) (fun _ _ => no_ _), Ir.new rfl, fun k hk hg => by have := hIa.lt k hk; omega, fun k hk => by
      have h1 := HB1.out.size
      have h2 := hu2.size
      rcases hk with hk | hk <;> omega, (HB1.out.trans (hu2.old HB1.out.size)).trans (((Upd.refl No w2).alloc _).old (Nat.le_trans HB1.out.size hu2.size)), fun x hx => (by cases hx), by simp⟩, rfl, rfl⟩
  clear hIa hu2
  go_wp2_with (fail)
  obtain ⟨F0, G0, p, q, w3, hw3, hS, hp, hq⟩ := HS0.out
  rw [← hw3, hp, hq]
  have HSt := hid hS
  clear hw3 hp hq hS HS0 HB1
  go_loopw [29] (fun v29 W => ∃ (j : Nat) (F G : Nat → Prop) (ys : List L), j ≤ xs.length ∧ v29 = .int .i64 j ∧ Hid (Bt w W F G p q ys ∧ ∀ z ∈ ys, Wf z)) (fun v29 _ => xs.length - (intOf v29).toNat)
  case atStart => exact ⟨0, F0, G0, [], by omega, rfl, hid ⟨HSt.out, fun z hz => by cases hz⟩⟩
  case round =>
    clear HSt F0 G0
    obtain ⟨j, F, G, ys, hj, rfl, hH⟩ := hrel
    by_cases hlt : j < xs.length
    · obtain ⟨ad, rfl, x0, x1, x2, x3, x4⟩ := op_at hr hlt
      have hi := (HIn.out _ (List.getElem_mem hlt)).1
      have hwf := (HIn.out _ (List.getElem_mem hlt)).2.2
      generalize xs[j] = y at *
      obtain ⟨k, x, u⟩ := y
      simp only at x0 x1 x2 x3 x4 hi hwf
      have hi' := hi
      obtain ⟨Au, cu, hue, _, hq1, hq2⟩ := hi'
      subst hue
      have cel : ∀ W, Below w.heap.size w W → ∀ {a : Addr} {z : Value}, w.cell? a = some z → W.cell? a = some z := fun W hb a z hz => (World.cell?_of_block (w := w) (hb.block _ (World.block_lt_of_cell? _ _ hz))).trans hz
      have CE : Hid (∀ W, Below w.heap.size w W → (W.cell? ⟨(ad.add (j * 5)).block, (ad.add (j * 5)).off + 1, none⟩ = some (.string x.1) ∧ W.cell? ⟨(ad.add (j * 5)).block, (ad.add (j * 5)).off + 2, none⟩ = some (.int .u64 x.2.1) ∧ W.cell? ⟨(ad.add (j * 5)).block, (ad.add (j * 5)).off + 3, none⟩ = some (.int .i64 x.2.2.1) ∧ W.cell? ⟨(ad.add (j * 5)).block, (ad.add (j * 5)).off + 4, none⟩ = some (.slice Au x.2.2.2.length cu)) ∧ In W x (.slice Au x.2.2.2.length cu)) := hid fun W hb =>
        ⟨⟨cel W hb x1, cel W hb x2, cel W hb x3, cel W hb x4⟩, In.below hi hb⟩
      have hj1 : (0 : Int) ≤ (j : Int) := by omega
      have hj2 : (j : Int) < (xs.length : Int) := by omega
      clear x0 x1 x2 x3 x4 hi cel hq1 hq2
      obtain ⟨⟨y1, y2, y3, y4⟩, hix⟩ := CE.out wr hH.out.1.bel
      have hok' := pushL_ok x hH.out.1.ok hH.out.1.le
      have hwf' := pushL_wf x hH.out.2 hwf
      have hP := push p ys F x (.slice Au x.2.2.2.length cu) wr hH.out.1.a hix
      have hPR := fun W (hb : Ir W G q ys) (hi : In W x (.slice Au x.2.2.2.length cu)) => rpush q ys G x (.slice Au x.2.2.2.length cu) W hb hi
      generalize pushL ys x = pl at *
      obtain ⟨cd, zs⟩ := pl
      simp only at hok' hwf' hP hPR
      unfold val at hP hPR
      have HP := hid hP
      have HPR := hid hPR
      have HOK := hid (And.intro hok' hwf')
      clear hP hPR hok' hwf' hwf hix
      go_wp2_with (fail)
      refine HP.out.mono ?_
      rintro e w4 ⟨rfl, F4, hI4, hm4⟩
      have HS4 := hid (hH.out.1.bel.trans (hm4.upd.below hH.out.1.bel.size fun k hk => hH.out.1.own k (.inl hk)))
      have HI4 := hid (And.intro hI4 (And.intro hm4 (hH.out.1.b.upd hm4.upd fun k hk hf => hH.out.1.fg k hf hk)))
      clear y1 y2 y3 y4 hI4 hm4 HP
      obtain ⟨⟨y1, y2, y3, y4⟩, hix⟩ := CE.out w4 HS4.out
      have HP2 := hid (HPR.out _ HI4.out.2.2 hix)
      clear hix
      go_wp2_with (fail)
      refine HP2.out.mono ?_
      rintro e w5 ⟨rfl, G5, hR5, hm5⟩
      have HBt := hid (hH.out.1.moved HI4.out.1 HI4.out.2.1 hR5 hm5 HOK.out.1.1 HOK.out.1.2)
      clear hR5 hm5 y1 y2 y3 y4 HP2
      go_wp2
      go_roundw
      case rel => exact ⟨j + 1, F4, G5, zs, by omega, by go_num, hid ⟨HBt.out, HOK.out.2⟩⟩
      case measure => simp [intOf]; omega
    · obtain rfl : j = xs.length := by omega
      obtain ⟨wo, rfl⟩ : ∃ wo : World, wo = wr := ⟨_, rfl⟩
      have hall : ∀ z ∈ ys, formed z = true ∧ Wf z := fun z hz => ⟨hH.out.1.ok z hz, hH.out.2 z hz⟩
      have hle := hH.out.1.le
      obtain ⟨f1, f2, f3, f4⟩ := packL_facts hall hle
      obtain ⟨v, h1, h2, h3, h4⟩ := hH.out.1.b
      obtain ⟨ps, Ar, cr, hx, rfl, hrr, hinr⟩ := row_rd h2
      have hpl : ps.length = ys.length := by rw [← hx]; simp
      have hP := rpack Ar cr ps wo hrr hinr (fun y hy => sm_of (hall y.1 (by rw [← hx]; exact List.mem_map_of_mem hy))) (by omega)
      rw [hx] at hP
      unfold PkOut at hP
      rw [f4] at hP
      have HEn : Hid (∀ W, Upd No wo W → Calls Try.prog 22 #[.pointer (some ⟨p, 0, none⟩)] W fun e w' => EnOut W (packL ys) e w') := hid fun W hu => encode p ys F W (hH.out.1.quiet hu).a hall hle
      unfold EnOut at HEn
      have c0 := h1.cell 0
      simp at c0
      obtain ⟨st, hst⟩ : ∃ st, st = strOfNums (packL ys) := ⟨_, rfl⟩
      have HDe := hid f1
      generalize packL ys = eb at *
      have HCv : Hid (∀ W W' A c, Rn W .u8 A eb → Upd No W W' → (convert 52 9 (.slice A eb.length c)).run Try.prog W' = .ok (.string st) W') := hid fun W W' A c h hu => conv_all h c hst W' hu
      have HP := hid hP
      have HEb := hid (And.intro f2 f3)
      clear hP hx hrr hinr h1 h2 h3 h4 f1 f2 f3 f4 hpl hst hall
      go_wp2_with (fail)
      refine HP.out.mono ?_
      rintro e w6 ⟨A6, c6, rfl, hc61, hc62, hr6, hu6⟩
      have H6 := hid (And.intro hu6 (And.intro hr6 (And.intro hc61 hc62)))
      have HCw : Hid (∀ W, Upd No w6 W → (convert 52 9 (.slice A6 eb.length c6)).run Try.prog W = .ok (.string st) W) := hid fun W hu => HCv.out w6 W A6 c6 H6.out.2.1 hu
      clear c0 hc61 hc62 hr6 hu6 HP
      go_wp2_with (fail)
      refine wp_region_held_drew (S := fun W => Upd No w6 W) (by kernel_rfl) (Upd.drew (Upd.refl _ _)) (fun hS => ?_)
      refine rg_at 0 (by decide) (fun oi hoi => ?_)
      have ho2 := hoi; simp only [List.getElem?_toArray, List.getElem?_cons_succ, List.getElem?_cons_zero, Option.some.injEq] at ho2; subst ho2
      refine rg_take (v := ?_) 0 hoi (by kernel_rfl) (by kernel_rfl) (by kernel_rfl) (fun _ _ _ h => h) (by rfl) ?_ hS ?_
      rotate_left
      · intro w _; go_simp; try with_reducible rfl
      clear hoi; try simp only [Act.put, List.setIfInBounds_toArray, List.set_cons_zero, List.set_cons_succ]
      refine rg_at 3 (by decide) (fun oi hoi => ?_)
      have ho2 := hoi; simp only [List.getElem?_toArray, List.getElem?_cons_succ, List.getElem?_cons_zero, Option.some.injEq] at ho2; subst ho2
      refine rg_take (v := ?_) 3 hoi (by kernel_rfl) (by kernel_rfl) (by kernel_rfl) (fun _ _ _ h => h) (by rfl) ?_ hS ?_
      rotate_left
      · intro w _; go_simp; try with_reducible rfl
      clear hoi; try simp only [Act.put, List.setIfInBounds_toArray, List.set_cons_zero, List.set_cons_succ]
      refine rg_at 4 (by decide) (fun oi hoi => ?_)
      have ho2 := hoi; simp only [List.getElem?_toArray, List.getElem?_cons_succ, List.getElem?_cons_zero, Option.some.injEq] at ho2; subst ho2
      refine rg_take (v := ?_) 4 hoi (by kernel_rfl) (by kernel_rfl) (by kernel_rfl) (fun _ _ _ h => h) (by rfl) ?_ hS ?_
      rotate_left
      · intro w hw; have hf := HCw.out w hw; clear hw; go_simp; try with_reducible rfl
      clear hoi; try simp only [Act.put, List.setIfInBounds_toArray, List.set_cons_zero, List.set_cons_succ]
      refine rg_at 1 (by decide) (fun oi hoi => ?_)
      have ho2 := hoi; simp only [List.getElem?_toArray, List.getElem?_cons_succ, List.getElem?_cons_zero, Option.some.injEq] at ho2; subst ho2
      refine rg_call 1 (by kernel_rfl) hoi (by rfl) (fun K hK => ?_)
      clear hoi
      go_simp
      refine Calls.mono (HEn.out _ (Upd.next H6.out.1 hS)) ?_
      rintro e wx ⟨Ax, cx, rfl, _, _, hrx, hux⟩
      go_wp2_with (fail)
      refine hK.out _ _ (hS.next hux) (fun hS => ?_)
      clear hK K
      try simp only [Act.put, List.setIfInBounds_toArray, List.set_cons_zero, List.set_cons_succ]
      refine rg_at 2 (by decide) (fun oi hoi => ?_)
      have ho2 := hoi; simp only [List.getElem?_toArray, List.getElem?_cons_succ, List.getElem?_cons_zero, Option.some.injEq] at ho2; subst ho2
      refine rg_call 2 (by kernel_rfl) hoi (by rfl) (fun K hK => ?_)
      clear hoi
      have hf := HCv.out _ _ Ax cx hrx (Upd.refl _ _)
      go_simp
      refine hK.out _ _ (hS) (fun hS => ?_)
      clear hK K
      try simp only [Act.put, List.setIfInBounds_toArray, List.set_cons_zero, List.set_cons_succ]
      refine rg_at 5 (by decide) (fun oi hoi => ?_)
      have ho2 := hoi; simp only [List.getElem?_toArray, List.getElem?_cons_succ, List.getElem?_cons_zero, Option.some.injEq] at ho2; subst ho2
      refine rg_take (v := ?_) 5 hoi (by kernel_rfl) (by kernel_rfl) (by kernel_rfl) (fun _ _ _ h => h) (by rfl) ?_ hS ?_
      rotate_left
      · intro w _; go_simp; try with_reducible rfl
      clear hoi; try simp only [Act.put, List.setIfInBounds_toArray, List.set_cons_zero, List.set_cons_succ]
      refine wpAnyH_done (by kernel_rfl) ?_ _
      have HUx := hid (Upd.next H6.out.1 hS)
      have HRx : Hid (Rn wx .u8 A6 eb) := hid (Rd.upd H6.out.2.1 (by omega) hS fun _ _ => no_ _)
      clear hrx hux hS
      have hD := decode (c := c6) HRx.out H6.out.2.2.1 (by have := HEb.out.1; omega) H6.out.2.2.2 HEb.out.2
      rw [HDe.out] at hD
      have HD := hid hD
      clear hD
      go_wp2_with (fail)
      refine Calls.mono HD.out ?_
      rintro e w7 ⟨p7, F7, rfl, hI7, hf7, hu7⟩
      have HU7 := hid (And.intro (Upd.next HUx.out hu7) hI7)
      clear hI7 hf7 hu7 HD HRx HUx
      have HQ := hid fun W (hu : Upd No wo W) => Upd.of_below No (hH.out.1.quiet hu).bel
      have hD1 := fun W (hu : Upd No wo W) => decode (c := d) (HB.out W (HQ.out W hu)) hd (by omega) hdm HBy.out
      have hD2 := fun W (hu : Upd No wo W) => rbox (c := d) (HB.out W (HQ.out W hu)) hd (by omega) hdm HBy.out
      have hfo : ∀ zs, decI l = some zs → (∀ z ∈ zs, z.2.2.2.length ≤ 1000000) ∧ zs.length ≤ 1000000 := fun zs h => by
        unfold decI at h
        split at h
        · rename_i hc
          injection h with h
          have hf := unpL_formed (xs := zs) HBy.out (by rw [← h, ← hc.1])
          exact ⟨fun z hz => by have := (Lc.formed_le (hf z hz).1).2; omega, by rw [← h]; omega⟩
        · cases h
      obtain ⟨r, hrd⟩ : ∃ r, r = decI l := ⟨_, rfl⟩
      rw [← hrd] at hD1 hD2 hfo
      clear hrd
      have HSm := hid fun W (hu : Upd No wo W) (hw : Ib W F7 p7 ys) => same p7 q F7 G ys W hw (hH.out.1.quiet hu).b hH.out.1.small.1 hH.out.1.small.2
      rcases r with _ | zs
      · have HD1 := hid hD1
        have HD2 := hid hD2
        unfold DiOut at HD1
        unfold DbOut at HD2
        clear hD1 hD2 hfo
        go_wp2_with (fail)
        refine Calls.mono (HD1.out _ HU7.out.1) ?_
        rintro e w8 ⟨rfl, hu8⟩
        have HU8 := hid (And.intro (Upd.next HU7.out.1 hu8) (HU7.out.2.upd hu8 fun _ _ => no_ _))
        clear hu8
        go_wp2_with (fail)
        refine Calls.mono (HD2.out _ HU8.out.1) ?_
        rintro e w9 ⟨rfl, hu9⟩
        have HU9 := hid (And.intro (Upd.next HU8.out.1 hu9) (HU8.out.2.upd hu9 fun _ _ => no_ _))
        clear hu9
        go_wp2_with (fail)
        refine Calls.mono (HSm.out _ HU9.out.1 HU9.out.2) ?_
        rintro e w10 ⟨rfl, hu10⟩
        have HE := hid (hH.out.1.quiet (Upd.next HU9.out.1 hu10)).bel
        clear hu10
        go_wp2
        go_ret
        exact ⟨rfl, HE.out⟩
      · have HFo := hid (hfo zs rfl)
        unfold DiOut at hD1
        unfold DbOut at hD2
        have HD1 := hid hD1
        have HD2 := hid hD2
        clear hD1 hD2 hfo
        go_wp2_with (fail)
        refine Calls.mono (HD1.out _ HU7.out.1) ?_
        rintro e w8 ⟨p8, F8, rfl, hI8, hf8, hu8⟩
        have HU8 := hid (And.intro (Upd.next HU7.out.1 hu8) (And.intro (HU7.out.2.upd hu8 fun _ _ => no_ _) hI8))
        clear hI8 hf8 hu8
        go_wp2_with (fail)
        refine Calls.mono (HD2.out _ HU8.out.1) ?_
        rintro e w9 ⟨q9, F9, rfl, hI9, hf9, hu9⟩
        have HU9 := hid (And.intro (Upd.next HU8.out.1 hu9) (And.intro (HU8.out.2.1.upd hu9 fun _ _ => no_ _) (And.intro (HU8.out.2.2.upd hu9 fun _ _ => no_ _) hI9)))
        clear hI9 hf9 hu9
        go_wp2_with (fail)
        refine Calls.mono (HSm.out _ HU9.out.1 HU9.out.2.1) ?_
        rintro e w10 ⟨rfl, hu10⟩
        have HU10 := hid (And.intro (Upd.next HU9.out.1 hu10) (And.intro (HU9.out.2.2.1.upd hu10 fun _ _ => no_ _) (HU9.out.2.2.2.upd hu10 fun _ _ => no_ _)))
        clear hu10
        have HS2 := hid (same p8 q9 F8 F9 zs w10 HU10.out.2.1 HU10.out.2.2 HFo.out.1 HFo.out.2)
        go_wp2_with (fail)
        refine Calls.mono HS2.out ?_
        rintro e w11 ⟨rfl, hu11⟩
        have HE := hid (hH.out.1.quiet (Upd.next HU10.out.1 hu11)).bel
        clear hu11
        go_wp2
        go_ret
        exact ⟨rfl, HE.out⟩
end Go.Proofs.Ytgbdpplnfcfhmaa.Iw
