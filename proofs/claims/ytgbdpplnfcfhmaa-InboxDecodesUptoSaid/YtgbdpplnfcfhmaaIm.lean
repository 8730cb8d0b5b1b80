/-
  The walk of reevelaw12.InboxMoves.
-/
import Derived.Test.YtgbdpplnfcfhmaaIf
import Derived.Test.YtgbdpplnfcfhmaaLw
import Derived.Test.YtgbdpplnfcfhmaaLa
set_option linter.unusedVariables false
set_option linter.unusedSimpArgs false
namespace Go.Proofs.Ytgbdpplnfcfhmaa.Im
open Go.RowKit Go.Proofs.Ytgbdpplnfcfhmaa.B Go.Proofs.Ytgbdpplnfcfhmaa.Lt Go.Proofs.Ytgbdpplnfcfhmaa.Ib Go.Proofs.Ytgbdpplnfcfhmaa.Ls Go.Proofs.Ytgbdpplnfcfhmaa.La Go.Proofs.Ytgbdpplnfcfhmaa.If
theorem In.below {w W : World} {x : L} {v : Value} (h : In w x v) (hb : Below w.heap.size w W) : In W x v := by
  obtain ⟨A, c, rfl, hr, h1⟩ := h
  exact ⟨A, c, rfl, Rd.below hr (by omega) hb, h1⟩
/-- The formed ones. -/
def good (xs : List L) : List L := xs.filter formed
theorem good_succ (xs : List L) (j : Nat) (hj : j < xs.length) : good (xs.take (j + 1)) = if formed xs[j] then good (xs.take j) ++ [xs[j]] else good (xs.take j) := by
  unfold good
  rw [List.take_succ_eq_append_getElem hj, List.filter_append]
  split <;> simp_all
theorem good_le (xs : List L) (j : Nat) : (good (xs.take j)).length ≤ j := by
  have := List.length_filter_le formed (xs.take j)
  simp only [List.length_take] at this
  unfold good
  omega
theorem formed_args {x : L} (h : formed x = true) : x.2.2.2.length ≤ 4 := by
  simp [formed] at h
  exact h.2
/-- Behind the pushes: the inbox, the other one, the wanted ones. -/
structure St (w : World) (W : World) (F G : Nat → Prop) (p q : Nat) (v : Value) (xs ys : List L) (qs : List Lv) : Prop where
  a : Ib W F p xs
  b : Ib W G q ys
  s : Sl W 0 30 4 v qs.length (pcells qs)
  fg : ∀ k, F k → ¬ G k
  vv : ∀ k, v.ownBlock = some k → ¬ F k ∧ ¬ G k
  own : ∀ k, (F k ∨ G k ∨ v.ownBlock = some k) → w.heap.size ≤ k
  bel : Below w.heap.size w W
theorem St.push {w W W' : World} {F G F' : Nat → Prop} {p q : Nat} {v : Value} {xs ys xs' : List L} {qs : List Lv} (h : St w W F G p q v xs ys qs) (ha : Ib W' F' p xs') (hm : Mv F F' W W') : St w W' F' G p q v xs' ys qs := by
  have hsz := h.bel.size
  refine ⟨ha, h.b.upd hm.upd fun k hk hf => h.fg k hf hk, h.s.upd hm.upd fun k hk => (h.vv k hk).1, fun k hk hg => (hm.sub k hk).elim (fun hf => h.fg k hf hg) fun hn => by have := h.b.lt k hg; omega,
    fun k hk => ⟨fun hf => (hm.sub k hf).elim (h.vv k hk).1 fun hn => by have := (h.s.lt k hk).2; omega, (h.vv k hk).2⟩, ?_, h.bel.trans (hm.upd.below hsz fun k hk => h.own k (.inl hk))⟩
  rintro k (hk | hk | hk)
  · exact (hm.sub k hk).elim (fun hf => h.own k (.inl hf)) fun hn => by omega
  · exact h.own k (.inr (.inl hk))
  · exact h.own k (.inr (.inr hk))
theorem St.swap {w W : World} {F G : Nat → Prop} {p q : Nat} {v : Value} {xs ys : List L} {qs : List Lv} (h : St w W F G p q v xs ys qs) : St w W G F q p v ys xs qs :=
  ⟨h.b, h.a, h.s, fun k hg hf => h.fg k hf hg, fun k hk => ⟨(h.vv k hk).2, (h.vv k hk).1⟩, fun k hk => h.own k (hk.elim (fun h => .inr (.inl h)) fun h => h.elim .inl fun h => .inr (.inr h)), h.bel⟩
theorem St.quiet {w W W' : World} {F G : Nat → Prop} {p q : Nat} {v : Value} {xs ys : List L} {qs : List Lv} (h : St w W F G p q v xs ys qs) (hu : Upd No W W') : St w W' F G p q v xs ys qs :=
  h.push (h.a.upd hu fun _ _ => no_ _) (Mv.quiet (hu.old (Nat.le_refl _)))
/-- Behind an append to the wanted ones. -/
theorem St.want {w W W2 W' : World} {F G : Nat → Prop} {p q : Nat} {v : Value} {A4 : Option Addr} {c4 : Nat} {xs ys : List L} {qs : List Lv} {x : Lv} (h : St w W F G p q v xs ys qs) (hu : Upd No W W2)
    (ho : Sl W' 0 30 4 (.slice A4 (qs.length + 1) c4) (qs.length + 1) (pcells qs ++ cells x.1 x.2)) (hg : Upd (fun k => v.ownBlock = some k) W2 W')
    (hat : ∀ k, (Value.slice A4 (qs.length + 1) c4).ownBlock = some k → v.ownBlock = some k ∨ W2.heap.size ≤ k) : St w W' F G p q (.slice A4 (qs.length + 1) c4) xs ys (qs ++ [x]) := by
  have h2 := h.quiet hu
  have hsz := h2.bel.size
  have hnew : ∀ k, (Value.slice A4 (qs.length + 1) c4).ownBlock = some k → v.ownBlock = some k ∨ W2.heap.size ≤ k := hat
  refine ⟨h2.a.upd hg fun k hf hk => (h2.vv k hk).1 hf, h2.b.upd hg fun k hf hk => (h2.vv k hk).2 hf, ?_, h2.fg, fun k hk => (hnew k hk).elim (h2.vv k) fun hn => ⟨fun hf => by have := h2.a.lt k hf; omega, fun hf => by have := h2.b.lt k hf; omega⟩, ?_, h2.bel.trans (hg.below hsz fun k hk => h2.own k (.inr (.inr hk)))⟩
  · have e : pcells (qs ++ [x]) = pcells qs ++ cells x.1 x.2 := by simp [pcells]
    rw [List.length_append, e]
    exact ho
  · rintro k (hk | hk | hk)
    · exact h2.own k (.inl hk)
    · exact h2.own k (.inr (.inl hk))
    · exact (hnew k hk).elim (fun h => h2.own k (.inr (.inr h))) fun hn => by omega
set_option maxHeartbeats 4000000 in
set_option maxRecDepth 100000 in
theorem law (A : Option Addr) (c : Nat) (xs : List L) (w : World) (hA : RowR w (.slice A xs.length c) xs) :
    Calls Try.prog 5 #[.slice A xs.length c] w fun e w' => e = .returned (.bool true) ∧ Below w.heap.size w w' := by
  have hl : xs.length ≤ 9223372036854775807 := by
    obtain ⟨_, _, h1, h2, h3⟩ := hA.len
    simp only [maxLen] at h3
    omega
  by_cases hlong : 8 < xs.length
  · go_enter Try.func5, Try.ntmps5
    go_wp2_with (fail)
    refine (awake w).mono ?_
    rintro e w1 ⟨rfl, hb1⟩
    go_wp2_with (fail)
    refine (awake w1).mono ?_
    rintro e w2 ⟨rfl, hb2⟩
    go_wp2
    go_ret
    exact ⟨rfl, hb1.trans (hb2.mono hb1.size)⟩
  · go_enter Try.func5, Try.ntmps5
    go_wp2_with (fail)
    refine (awake w).mono ?_
    rintro e w1 ⟨rfl, hb1⟩
    go_wp2_with (fail)
    refine (new_ w1).mono ?_
    rintro e w2 ⟨rfl, hIa, hu2⟩
    go_wp2_with (fail)
    refine (new_ w2).mono ?_
    rintro e w3 ⟨rfl, hIb, hu3⟩
    obtain ⟨F0, G0, p, q, hS, hp, hq⟩ : ∃ (F0 G0 : Nat → Prop) (p q : Nat), St w w3 F0 G0 p q (.slice none 0 0) [] [] [] ∧ w1.heap.size = p ∧ w2.heap.size = q :=
      ⟨_, _, _, _, ⟨hIa.upd hu3 (fun _ _ => no_ _), hIb, Sl.nil _ _ _ _, fun k hk hg => by have := hIa.lt k hk; omega, fun k hk => (by simp [Value.ownBlock] at hk), fun k hk => (by
        have h1 := hb1.size
        have h2 := hu2.size
        rcases hk with hk | hk | hk
        · omega
        · omega
        · simp [Value.ownBlock] at hk), (hb1.trans (hu2.old hb1.size)).trans (hu3.old (Nat.le_trans hb1.size hu2.size))⟩, rfl, rfl⟩
    rw [hp, hq]
    clear hp hq hIa hIb hu2 hu3 hb1
    go_wp2_with (fail)
    go_loopw [5, 21] (fun v5 v21 W => ∃ (j : Nat) (F G : Nat → Prop), j ≤ xs.length ∧ v21 = .int .i64 j ∧ Hid (∃ qs, St w W F G p q v5 (good (xs.take j)) [] qs ∧ qs.map (·.1) = good (xs.take j) ∧ ∀ y ∈ qs, In w y.1 y.2)) (fun _ v21 _ => xs.length - (intOf v21).toNat)
    case atStart => exact ⟨0, F0, G0, by omega, rfl, hid ⟨[], hS, rfl, fun y hy => (by cases hy)⟩⟩
    case round =>
      clear hS F0 G0
      obtain ⟨j, F, G, hj, rfl, hH⟩ := hrel
      by_cases hlt : j < xs.length
      · obtain ⟨qs, hS, hqm, hqi⟩ := hH.out
        obtain ⟨A5, c5, hv5, hc5, hm5⟩ := hS.s.shape
        subst hv5
        obtain ⟨ad, c', u, e1, i1, x0, x1, x2, x3⟩ := RowR.at_ hA hlt
        simp only [Value.slice.injEq, true_and] at e1
        obtain ⟨rfl, rfl⟩ := e1
        have hgs := good_succ xs j hlt
        have hgl := good_le xs j
        generalize xs[j] = x at *
        have i1' := i1
        obtain ⟨Au, cu, hue, _, hu1, hu2⟩ := i1'
        subst hue
        simp only [maxLen] at hu1 hu2
        have CE : Hid (∀ W, Below w.heap.size w W → (W.cell? (ad.add (j * 4)) = some (.string x.1) ∧ W.cell? ⟨(ad.add (j * 4)).block, (ad.add (j * 4)).off + 1, none⟩ = some (.int .u64 x.2.1) ∧ W.cell? ⟨(ad.add (j * 4)).block, (ad.add (j * 4)).off + 2, none⟩ = some (.int .i64 x.2.2.1) ∧ W.cell? ⟨(ad.add (j * 4)).block, (ad.add (j * 4)).off + 3, none⟩ = some (.slice Au x.2.2.2.length cu)) ∧ In W x (.slice Au x.2.2.2.length cu)) := hid fun W hb =>
          ⟨⟨(World.cell?_of_block (w := w) (hb.block _ (World.block_lt_of_cell? _ _ x0))).trans x0, (World.cell?_of_block (w := w) (hb.block _ (World.block_lt_of_cell? _ _ x1))).trans x1, (World.cell?_of_block (w := w) (hb.block _ (World.block_lt_of_cell? _ _ x2))).trans x2, (World.cell?_of_block (w := w) (hb.block _ (World.block_lt_of_cell? _ _ x3))).trans x3⟩, In.below i1 hb⟩
        have hj1 : (0 : Int) ≤ (j : Int) := by omega
        have hj2 : (j : Int) < (xs.length : Int) := by omega
        have hql : qs.length ≤ 8 := by
          have := congrArg List.length hqm
          simp only [List.length_map] at this
          omega
        have I1 := hid i1
        clear x0 x1 x2 x3 i1
        obtain ⟨⟨y0, y1, y2, y3⟩, iy⟩ := CE.out wr hS.bel
        by_cases hbig : 1000 < x.2.2.2.length
        · have hbel := hS.bel
          clear hS
          go_wp2
          go_ret
          exact ⟨rfl, hbel⟩
        · have HP := hid (push p _ F x _ wr hS.a iy)
          have hS' := hid hS
          cases hf : formed x
          · rw [hf] at hgs
            rw [show pushL (good (xs.take j)) x = (1, good (xs.take j)) from by simp [pushL, hf], ] at HP
            unfold val at HP
            have HG := hid hgs
            clear hS hgs iy hf
            go_wp2_with (fail)
            refine Calls.mono HP.out ?_
            rintro e w4 ⟨rfl, F4, hI4, hm4⟩
            have H4 := hid (hS'.out.push hI4 hm4)
            clear hI4 hm4
            go_wp2
            go_roundw
            case rel => exact ⟨j + 1, F4, G, by omega, by go_num, hid ⟨qs, by rw [HG.out]; exact H4.out, by rw [HG.out]; exact hqm, hqi⟩⟩
            case measure => simp [intOf]; omega
          · rw [hf] at hgs
            rw [show pushL (good (xs.take j)) x = (0, good (xs.take j) ++ [x]) from by simp [pushL, hf]; omega] at HP
            unfold val at HP
            have HG := hid hgs
            have HQ := hid hqm
            clear hS hgs iy hf hqm
            go_wp2_with (fail)
            refine Calls.mono HP.out ?_
            rintro e w4 ⟨rfl, F4, hI4, hm4⟩
            have H4 := hid (hS'.out.push hI4 hm4)
            obtain ⟨⟨z0, z1, z2, z3⟩, iz⟩ := CE.out w4 H4.out.bel
            have s4 := H4.out.s
            have IZ := hid iz
            have hle1 : qs.length + 1 ≤ 9223372036854775807 := by omega
            have hle2 : (qs.length + 1) * 56 ≤ 140737488355328 := by omega
            clear hI4 hm4 y0 y1 y2 y3 iz
            go_wp2_with (at_builtin; go_must (refine ap_sl 0 rfl (.tmp 38) (.tmp 43) 38 30 (.agg #[.string ⟨#[]⟩, .int .u64 0, .int .i64 0, .slice none 0 0]) 4 56 rfl Try.underlying38 lt_info rfl (by omega) (.slice A5 qs.length c5) qs.length (pcells qs) (some ⟨w4.heap.size, 0, none⟩) 1 1 (cells x (.slice Au x.2.2.2.length cu)) rfl rfl (s4.alloc _) (Rd_lit w4 _ 4 1 (cells x (.slice Au x.2.2.2.length cu)) rfl) (cells_one IZ.out) hle1 hle2 (Nat.zero_le _) ?_); intro A6 c6 w6 ho6 hg6 hat6)
            have H6 := hid (St.want (x := (x, .slice Au x.2.2.2.length cu)) H4.out ((Upd.refl No w4).alloc _) ho6 hg6 hat6)
            clear ho6 hg6 hat6 s4 z0 z1 z2 z3
            go_wp2
            go_roundw
            case rel => exact ⟨j + 1, F4, G, by omega, by go_num, hid ⟨qs ++ [(x, .slice Au x.2.2.2.length cu)], by rw [HG.out]; exact H6.out, by rw [HG.out]; simp [HQ.out], fun y hy => by
              rcases List.mem_append.1 hy with hy | hy
              · exact hqi y hy
              · obtain rfl : y = _ := List.mem_singleton.1 hy
                exact I1.out⟩⟩
            case measure => simp [intOf]; omega
      · obtain rfl : j = xs.length := by omega
        obtain ⟨qs, hS, hqm, hqi⟩ := hH.out
        rw [List.take_length] at hS hqm
        obtain ⟨A5, c5, hv5, hc5, hm5⟩ := hS.s.shape
        subst hv5
        have hzl : (good xs).length ≤ xs.length := by
          have := good_le xs xs.length
          rwa [List.take_length] at this
        have hzf : ∀ z ∈ good xs, formed z = true := fun z hz => (List.mem_filter.1 hz).2
        generalize good xs = zs at *
        have hS0 := hid (show St w wr F G p q (.slice A5 qs.length c5) (zs.drop 0) (zs.take 0) qs from hS)
        have HQ := hid hqm
        clear hS hH hqm
        go_wp2_with (fail)
        go_loopw [48] (fun v48 W => ∃ (j : Nat) (F G : Nat → Prop), j ≤ xs.length ∧ v48 = .int .i64 j ∧ Hid (St w W F G p q (.slice A5 qs.length c5) (zs.drop j) (zs.take j) qs)) (fun v48 _ => xs.length - (intOf v48).toNat)
        case atStart => exact ⟨0, F, G, by omega, rfl, hS0⟩
        case round =>
          clear hS0 F G
          obtain ⟨j, F, G, hj, rfl, hH⟩ := hrel
          by_cases hlt2 : j < xs.length
          · have hj2 : (j : Int) < (xs.length : Int) := by omega
            by_cases hz : j < zs.length
            · have hS := hH.out
              have hdz : zs.drop j = zs[j] :: zs.drop (j + 1) := List.drop_eq_getElem_cons hz
              have htz : zs.take (j + 1) = zs.take j ++ [zs[j]] := List.take_succ_eq_append_getElem hz
              have hfz := hzf _ (List.getElem_mem hz)
              rw [hdz] at hS
              have hal := formed_args hfz
              generalize zs[j] = z at *
              have HP := hid (pop_some p z _ F wr hS.a (by omega))
              have HS := hid hS
              have HT := hid htz
              have HW : Hid (pushL (zs.take j) z = (0, zs.take (j + 1))) := hid (by
                unfold pushL
                rw [hfz, if_pos rfl, if_pos (by simp; omega), htz])
              clear hS hdz htz hfz
              go_wp2_with (fail)
              refine Calls.mono HP.out ?_
              rintro e w3 ⟨v, rfl, hv, hI3, hu3, _⟩
              have hv' := hv
              obtain ⟨A3, c3, rfl, _⟩ := hv'
              have S3 := HS.out.push hI3 ⟨hu3, fun k h => .inl h⟩
              unfold val
              have hal3 : Upd No w3 (w3.alloc (.cells #[.string z.1, .int .u64 z.2.1, .int .i64 z.2.2.1, .slice A3 z.2.2.2.length c3] 30)) := (Upd.refl _ _).alloc _
              have hbx := Blk.fresh w3 30 #[.string z.1, .int .u64 z.2.1, .int .i64 z.2.2.1, .slice A3 z.2.2.2.length c3]
              have S4 := S3.quiet hal3
              have HP2 := hid (push q (zs.take j) G z _ _ S4.b (hv.upd hal3 (fun _ _ => no_ _)))
              rw [HW.out] at HP2
              unfold val at HP2
              obtain ⟨z0, z1, z2, z3⟩ := box hbx
              have H4 := hid S4
              clear hv hI3 hu3 S3 hal3 hbx S4 HP
              go_wp2_with (fail)
              refine Calls.mono HP2.out ?_
              rintro e w5 ⟨rfl, G5, hI5, hm5'⟩
              have H5 := hid ((H4.out.swap.push hI5 hm5').swap)
              clear hI5 hm5' z0 z1 z2 z3
              go_wp2
              go_roundw
              case rel => exact ⟨j + 1, F, G5, by omega, by go_num, H5⟩
              case measure => simp [intOf]; omega
            · have hS := hH.out
              have hdz : zs.drop j = [] := List.drop_of_length_le (by omega)
              have hdz' : zs.drop (j + 1) = [] := List.drop_of_length_le (by omega)
              have htz : zs.take (j + 1) = zs.take j := by rw [List.take_of_length_le (by omega), List.take_of_length_le (by omega)]
              rw [hdz] at hS
              have HP := hid (pop_none p F wr hS.a)
              have HS := hid hS
              have HT := hid htz
              have HD := hid hdz'
              clear hS hdz hdz' htz
              go_wp2_with (fail)
              refine Calls.mono HP.out ?_
              rintro e w3 ⟨v, rfl, hv, hI3, hu3, _⟩
              obtain ⟨A3, c3, rfl, _⟩ := hv
              simp only [val, zero]
              have S3 := HS.out.push hI3 ⟨hu3, fun k h => .inl h⟩
              have H4 := hid (S3.quiet ((Upd.refl No w3).alloc (.cells #[.string ⟨#[]⟩, .int .u64 0, .int .i64 0, .slice A3 0 c3] 30)))
              clear hI3 hu3 S3
              go_wp2
              go_roundw
              case rel => exact ⟨j + 1, F, G, by omega, by go_num, hid (by rw [HT.out, HD.out]; exact H4.out)⟩
              case measure => simp [intOf]; omega
          · obtain rfl : j = xs.length := by omega
            have hS := hH.out
            rw [List.drop_of_length_le (by omega), List.take_of_length_le (by omega)] at hS
            have HL := hid (len_ p [] F wr hS.a)
            rw [show (([] : List L).length : Int) = 0 from rfl] at HL
            have HA := hid (iall q zs G wr hS.b (fun z hz => by have := formed_args (hzf z hz); omega) (by omega))
            have hRq : RowR wr (.slice A5 qs.length c5) zs := ⟨qs, A5, c5, HQ.out, rfl, hc5, hm5, hS.s.rd, fun y hy => In.below (hqi y hy) hS.bel⟩
            have HR := hid hRq
            have HB := hid hS.bel
            clear hS hRq
            go_wp2_with (fail)
            refine Calls.mono HL.out ?_
            rintro e w' ⟨rfl, rfl⟩
            go_wp2_with (fail)
            refine Calls.mono HA.out ?_
            rintro e w5 ⟨v5, G5, rfl, hR5, _, hu5⟩
            have HSA := hid (sameAll v5 (.slice A5 qs.length c5) zs zs w5 (RowR.of hR5) (HR.out.upd hu5))
            rw [decide_eq_true rfl] at HSA
            have hb5 := HB.out.trans (hu5.old HB.out.size)
            obtain ⟨A7, c7, hv7, _, _⟩ := hR5.len
            subst hv7
            clear hR5 hu5
            go_wp2_with (fail)
            refine Calls.mono HSA.out ?_
            rintro e w6 ⟨rfl, hu6⟩
            have hb6 := hb5.trans (hu6.old hb5.size)
            clear hb5 hu6
            go_wp2
            go_ret
            exact ⟨rfl, hb6⟩
end Go.Proofs.Ytgbdpplnfcfhmaa.Im
