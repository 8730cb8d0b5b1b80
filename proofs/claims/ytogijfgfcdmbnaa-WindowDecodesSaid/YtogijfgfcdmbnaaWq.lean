/-
  The reference's window: Add, Clients; reeveref13.Same.
-/
import Derived.Test.YtogijfgfcdmbnaaWr
set_option linter.unusedVariables false
set_option linter.unusedSimpArgs false
namespace Go.Proofs.Ytogijfgfcdmbnaa.Ww
open Go.RowKit Go.Proofs.Ytogijfgfcdmbnaa.B Go.Proofs.Ytogijfgfcdmbnaa.Df Go.Proofs.Ytogijfgfcdmbnaa.Ws Go.Proofs.Ytogijfgfcdmbnaa.Mp Go.Proofs.Ytogijfgfcdmbnaa.Wp
theorem Rx.fin {w wz : World} {F G : Nat → Prop} {q g6 : Nat} {ps qs : List Rc} {v vz : Value} (h : Rx w F q ps v G) (hB : Blk wz q 38 #[vz]) (hO : Sl wz 0 59 2 vz qs.length (pc qs))
    (hu : Upd (fun k => k = q) w wz) (hval : ∀ e ∈ qs, e ∈ ps ∨ Vl wz (fun k => k = g6) e.2 e.1.2) (hg6 : w.heap.size ≤ g6 ∧ g6 < wz.heap.size) (hvz : ∀ k, vz.ownBlock = some k → w.heap.size ≤ k) :
    ∃ F', Rw wz F' q (qs.map (·.1)) ∧ Mv F F' w wz := by
  have hz := hu.size
  have hq := h.lt q h.fq
  refine ⟨fun k => k = q ∨ G k ∨ k = g6 ∨ vz.ownBlock = some k, ⟨qs, vz, fun k => G k ∨ k = g6, rfl, hB, hO, fun e he => ?_, .inl rfl, fun k hk => .inr (.inr (.inr hk)), fun k hk => ?_, fun k hk => ?_⟩, ⟨hu.mono fun k _ e => by rw [e]; exact h.fq, fun k hk => ?_⟩⟩
  · rcases hval e he with h1 | h1
    · exact ((h.val e h1).upd hu fun k hk => (h.fg k hk).2).mono fun _ h => .inl h
    · exact h1.mono fun _ h => .inr h
  · rcases hk with hk | rfl
    · exact ⟨.inr (.inl hk), (h.fg k hk).2⟩
    · exact ⟨.inr (.inr (.inl rfl)), by omega⟩
  · rcases hk with rfl | hk | rfl | hk
    · omega
    · have := h.lt k (h.fg k hk).1; omega
    · exact hg6.2
    · exact (hO.lt k hk).2
  · rcases hk with rfl | hk | rfl | hk
    · exact .inl h.fq
    · exact .inl (h.fg k hk).1
    · exact .inr hg6.1
    · exact .inr (hvz k hk)
theorem cl_info : (Try.prog.info? 59).map (fun i => (i.zero, i.size, i.bytes)) = some (some (.agg #[.int .u64 0, .slice none 0 0]), 2, 32) := by kernel_rfl
theorem cut4_if (l : List Int) (h : l.length ≤ 5) : cut4 l = if 4 < l.length then l.drop 1 else l := by
  unfold cut4
  split
  · rw [show l.length - 4 = 1 from by omega]
  · rw [show l.length - 4 = 0 from by omega]; rfl
theorem own_cap {w : World} {base e size n c : Nat} {A : Option Addr} {xs : List Value} (h : w.ownsRow base e size (.slice A n c) n xs) : n ≤ c ∧ c ≤ maxLen := by
  obtain ⟨_, _, he, h1, h2⟩ := own_shape h
  simp only [Value.slice.injEq, true_and] at he
  obtain ⟨_, rfl⟩ := he
  exact ⟨h1, h2⟩
theorem rd_two {w : World} {base e c g : Nat} {l : List Int} {s : Int} (h : w.ownsRow base e 1 (.slice (some ⟨g, 0, none⟩) (l.length + 1) c) (l.length + 1) (nums .u64 l ++ [.int .u64 s])) : Rn w .u64 (some ⟨g, 0, none⟩) (l ++ [s]) := by
  have := Rd.of_own h
  unfold Rn
  rw [List.length_append, nums_append]
  exact this
def kp (ps : List Rc) (c : Int) (j : Nat) : List Rc := (ps.take j).filter fun e => decide (e.1.1 ≠ c)
theorem kp_le (ps : List Rc) (c : Int) (j : Nat) : (kp ps c j).length ≤ ps.length := by
  have h1 := List.length_filter_le (fun e : Rc => decide (e.1.1 ≠ c)) (ps.take j)
  have h2 := List.length_take_le j ps
  unfold kp
  rw [List.length_take] at h1
  omega
theorem kp_keep {ps : List Rc} {c : Int} {j : Nat} (hj : j < ps.length) (h : ps[j].1.1 ≠ c) : kp ps c (j + 1) = kp ps c j ++ [ps[j]] := by
  unfold kp
  rw [List.take_succ_eq_append_getElem hj, List.filter_append]
  simp [h]
theorem kp_skip {ps : List Rc} {c : Int} {j : Nat} (hj : j < ps.length) (h : ps[j].1.1 = c) : kp ps c (j + 1) = kp ps c j := by
  unfold kp
  rw [List.take_succ_eq_append_getElem hj, List.filter_append]
  simp [h]
theorem kp_all (ps : List Rc) (c : Int) : (kp ps c ps.length).map (·.1) = rest (ps.map (·.1)) c := by
  unfold kp rest
  rw [List.take_length, List.filter_map]
  rfl
def RAdd (w : World) (F : Nat → Prop) (q : Nat) (r : Bool × St) (e : Ending) (w' : World) : Prop := e = .returned (.bool r.1) ∧ ∃ F', Rw w' F' q r.2 ∧ Mv F F' w w'
theorem RAdd.of {w : World} {F : Nat → Prop} {q : Nat} {r : Bool × St} {e : Ending} {w' : World} (h : e = .returned (.bool r.1) ∧ ∃ F', Rw w' F' q r.2 ∧ Mv F F' w w') : RAdd w F q r e w' := h
set_option maxHeartbeats 1000000 in
theorem radd_seen {w : World} {F : Nat → Prop} {q : Nat} {x : St} (c s : Int) (h : Rw w F q x) (hok : Ok x) (hs : s ∈ sr x c) :
    Calls Try.prog 15 #[.pointer (some ⟨q, 0, none⟩), .int .u64 c, .int .u64 s] w fun e w' => RAdd w F q (addX x c s) e w' := by
  have HS := hid (rseen c s h hok)
  have HT : Hid (addX x c s = (false, x) ∧ decide (s ∈ sr x c) = true) := hid ⟨by simp [addX, hs], by simpa using hs⟩
  rw [HT.out.2] at HS
  rw [HT.out.1]
  have HH := hid h
  clear hs h HT
  go_enter Try.func15, Try.ntmps15
  go_wp2_with (fail)
  refine Calls.mono HS.out ?_
  rintro e w' ⟨rfl, hu⟩
  have HU := hid hu
  clear hu
  go_wp2
  go_ret
  exact .of ⟨rfl, F, HH.out.upd HU.out fun _ _ => no_ _, HU.out.mono fun _ _ h => h.elim, fun k hk => .inl hk⟩
set_option maxHeartbeats 4000000 in
set_option maxRecDepth 100000 in
theorem radd_new {w : World} {F : Nat → Prop} {q : Nat} {x : St} (c s : Int) (h : Rw w F q x) (hok : Ok x) (hs : s ∉ sr x c) :
    Calls Try.prog 15 #[.pointer (some ⟨q, 0, none⟩), .int .u64 c, .int .u64 s] w fun e w' => RAdd w F q (addX x c s) e w' := by
  have HS := hid (rseen c s h hok)
  have hT : decide (s ∈ sr x c) = false := by simpa using hs
  rw [hT] at HS
  have HA : Hid (addX x c s = (true, cut64 (laid x c s))) := hid (by simp [addX, hs])
  rw [HA.out]
  have HSR := hid fun (W : World) (hu : Upd No w W) => rserials c (h.upd hu fun _ _ => no_ _) hok
  have hl4 := hok.sr_le c
  obtain ⟨ps, v, G, hx, h⟩ := h
  have hpl : ps.length ≤ 64 := by
    have := hok.len
    rw [← hx, List.length_map] at this
    exact this
  obtain ⟨l5, hl5⟩ : ∃ l5, l5 = sr x c := ⟨_, rfl⟩
  rw [← hl5] at hl4 HSR
  obtain ⟨A, k, hv, hk1, hk2⟩ := h.row.shape
  subst hv
  have HX := hid (And.intro hx (And.intro hl5 h))
  clear hT hs hx hl5 h
  go_enter Try.func15, Try.ntmps15
  go_wp2_with (fail)
  refine Calls.mono HS.out ?_
  rintro e w1 ⟨rfl, hu1⟩
  have HU1 := hid hu1
  clear hu1
  go_wp2_with (fail)
  refine Calls.mono (HSR.out _ HU1.out) ?_
  rintro e w2 ⟨A2, k2, rfl, ho2, hu2⟩
  by_cases h4 : 4 < l5.length + 1
  case' pos =>
    have h4' : decide ((4 : Int) < (l5.length : Int) + 1) = true := decide_eq_true (by omega)
    go_wp2_with (at_builtin; go_must (refine ap_one rfl (.tmp 16) (.tmp 18) 27 22 (.int .u64 0) 8 rfl Try.underlying27 u64_info rfl (.slice A2 l5.length k2) l5.length (nums .u64 l5) (.int .u64 s) rfl rfl (Blk.fresh _ _ _) rfl (ho2.alloc _) (by omega) (by omega) ?_ (by have := hu2.size; simp; omega)); intro g6 c6 w3 ho3 hg3 hat3; have hcc := own_cap ho3; have hc6 : ¬ c6 = 1 := (by omega); have hc0 := box1 (HX.out.2.2.blk.upd (HU1.out.next ((hu2.alloc _).grown hg3 fun k hk => .inr (ho2.lt k hk).1)) (no_ _)))
    have hR3 := rd_two ho3
    have HVL0 : Hid (Vl w3 (fun k => k = g6) (.slice (some ⟨g6, 1, none⟩) l5.length (c6 - 1)) (cut4 (l5 ++ [s]))) := hid (by
      rw [cut4_if _ (by simp; omega), if_pos (by simpa using h4)]
      refine ⟨some ⟨g6, 1, none⟩, c6 - 1, by simp, by simp; omega, by omega, ?_, fun ad h => by injection h with h; rw [← h]⟩
      have := Rn.drop (i := 1) (c := c6) hR3 (by simp) (by simpa using hcc.1)
      rw [if_neg hc6] at this
      exact this)
    clear hc6 h4 h4' hcc hR3
  case' neg =>
    have h4' : decide ((4 : Int) < (l5.length : Int) + 1) = false := decide_eq_false (by omega)
    go_wp2_with (at_builtin; go_must (refine ap_one rfl (.tmp 16) (.tmp 18) 27 22 (.int .u64 0) 8 rfl Try.underlying27 u64_info rfl (.slice A2 l5.length k2) l5.length (nums .u64 l5) (.int .u64 s) rfl rfl (Blk.fresh _ _ _) rfl (ho2.alloc _) (by omega) (by omega) ?_ (by have := hu2.size; simp; omega)); intro g6 c6 w3 ho3 hg3 hat3; have hcc := own_cap ho3; have hc0 := box1 (HX.out.2.2.blk.upd (HU1.out.next ((hu2.alloc _).grown hg3 fun k hk => .inr (ho2.lt k hk).1)) (no_ _)))
    have hR3 := rd_two ho3
    have HVL0 : Hid (Vl w3 (fun k => k = g6) (.slice (some ⟨g6, 0, none⟩) (l5.length + 1) c6) (cut4 (l5 ++ [s]))) := hid (by
      rw [cut4_if _ (by simp; omega), if_neg (by simpa using h4)]
      exact ⟨_, _, by simp, by simpa using hcc.1, hcc.2, hR3, fun ad h => by injection h with h; rw [← h]⟩)
    clear h4 h4' hcc hR3
  all_goals
    have hu13 : Upd No w1 w3 := (hu2.alloc _).grown hg3 fun k hk => .inr (ho2.lt k hk).1
    have HU3 := hid (HU1.out.next hu13)
    have hg6 : w.heap.size ≤ g6 ∧ g6 < w3.heap.size := ⟨Nat.le_trans HU1.out.size (ho3.lt g6 rfl).1, (ho3.lt g6 rfl).2⟩
    clear hu2 ho2 hg3 hat3 ho3 hu13 hc0
    obtain ⟨B, hB⟩ : ∃ B, B = w3.heap.size := ⟨_, rfl⟩
    have HB := hid hB
    clear hB
    go_loopw [8, 30] (fun v8 v30 W => ∃ (j : Nat) (m : List Rc) (A' : Option Addr) (k' : Nat), j ≤ ps.length ∧ v30 = .int .i64 j ∧ v8 = .slice A' m.length k' ∧ Hid (m = kp ps c j) ∧ Hid (W.ownsRow B 59 2 (.slice A' m.length k') m.length (pc m)) ∧ Hid (Upd No w3 W)) (fun _ v30 _ => ps.length - (intOf v30).toNat)
    case atStart => exact ⟨0, [], none, 0, by omega, rfl, rfl, hid (by simp [kp]), hid (World.ownsRow_nil _ _ _ _), hid (Upd.refl _ _)⟩
    case round =>
      obtain ⟨j, m, A', k', hj, rfl, rfl, HM, HO, HU⟩ := hrel
      have hX := HX.out.2.2.upd (HU3.out.next HU.out) (fun _ _ => no_ _)
      have hc0 := box1 hX.blk
      have hml : m.length ≤ 64 := by rw [HM.out]; have := kp_le ps c j; omega
      have hbase : B ≤ wr.heap.size := by rw [HB.out]; exact HU.out.size
      by_cases hlt : j < ps.length
      · obtain ⟨g, off, hA, d0, d1⟩ := rec_at hX.row hlt
        subst hA
        obtain ⟨A2', k2', hv2, _⟩ := hX.val ps[j] (List.getElem_mem hlt)
        have hj2 : (j : Int) < (ps.length : Int) := by omega
        clear hX
        rcases hy : decide (ps[j].1.1 = c) with _ | _
        · have hne : ¬ ps[j].1.1 = c := by simpa using hy
          have HN : Hid (m ++ [ps[j]] = kp ps c (j + 1) ∧ pc [ps[j]] = [.int .u64 ps[j].1.1, ps[j].2]) := hid ⟨by rw [kp_keep hlt hne, HM.out], rfl⟩
          have n1 : (ps[j].1.1 == c) = false := by simp [hne]
          rw [hv2] at d1 HN
          generalize ps[j] = e at *
          clear hy hne hv2
          generalize e.1.1 = y at *
          generalize e.1.2.length = nl2 at *
          go_wp2_with (at_builtin; go_must (refine ap_row B rfl (.tmp 43) (.tmp 51) 36 59 (.agg #[.int .u64 0, .slice none 0 0]) 2 32 rfl Try.underlying36 cl_info rfl (by omega) (.slice A' m.length k') m.length (pc m) (some ⟨wr.heap.size, 0, none⟩) 1 1 [.int .u64 y, .slice A2' nl2 k2'] rfl rfl (HO.out.alloc _) (Rd_lit wr _ 2 1 [.int .u64 y, .slice A2' nl2 k2'] rfl) (by intro u hu; simp at hu; rcases hu with rfl | rfl <;> rfl) (by omega) (by omega) (by simp; omega) ?_); intro A1 k1 w4 ho4 hg4 hat4)
          have hu4 : Upd No w3 w4 := (HU.out.alloc _).grown hg4 fun k hk => .inr (by have := (HO.out.lt k hk).1; rw [HB.out] at this; exact this)
          have HO4 := hid ho4
          have HU4 := hid hu4
          clear ho4 hu4 hg4 hat4
          go_wp2
          go_roundw
          case rel => exact ⟨j + 1, m ++ [e], A1, k1, by omega, by go_num, by rw [List.length_append]; rfl, hid HN.out.1, hid (by rw [List.length_append, pc_append, HN.out.2]; exact HO4.out), HU4⟩
          case measure => simp [intOf]; omega
        · have hye : ps[j].1.1 = c := by simpa using hy
          have HN : Hid (m = kp ps c (j + 1)) := hid (by rw [kp_skip hlt hye, HM.out])
          rw [hye] at d0
          clear hy hye d1 hv2
          go_wp2
          go_roundw
          case rel => exact ⟨j + 1, m, A', k', by omega, by go_num, rfl, HN, HO, HU⟩
          case measure => simp [intOf]; omega
      · obtain rfl : j = ps.length := by omega
        have hxl : (laid x c s).length = m.length + 1 := by
          have h1 := kp_all ps c
          rw [← HM.out, HX.out.1] at h1
          have := congrArg List.length h1
          rw [List.length_map] at this
          simp only [laid, List.length_append, List.length_singleton]
          omega
        have HQ : Hid (∀ v7, Vl w3 (fun k => k = g6) v7 (cut4 (l5 ++ [s])) → (m ++ [((c, cut4 (l5 ++ [s])), v7)]).map (·.1) = laid x c s ∧ (m ++ [((c, cut4 (l5 ++ [s])), v7)]).length = m.length + 1 ∧ pc (m ++ [((c, cut4 (l5 ++ [s])), v7)]) = pc m ++ [.int .u64 c, v7] ∧ ∀ e ∈ m ++ [((c, cut4 (l5 ++ [s])), v7)], e ∈ ps ∨ Vl w3 (fun k => k = g6) e.2 e.1.2) := hid fun v7 h7 => by
          have h1 := kp_all ps c
          rw [← HM.out, HX.out.1] at h1
          refine ⟨by rw [List.map_append, h1, HX.out.2.1]; rfl, by simp, by rw [pc_append]; rfl, fun e he => ?_⟩
          rcases List.mem_append.1 he with he | he
          · rw [HM.out] at he
            exact .inl (List.mem_of_mem_take (List.mem_filter.1 he).1)
          · obtain rfl := List.mem_singleton.1 he
            exact .inr h7
        clear hX
        have HQ7 := HQ.out _ HVL0.out
        have hqw := HX.out.2.2.lt q HX.out.2.2.fq
        have hw3s := HU3.out.size
        by_cases h64 : 64 < m.length + 1
        · have h64' : decide ((64 : Int) < (m.length : Int) + 1) = true := decide_eq_true (by omega)
          have HCZ : Hid (cut64 (laid x c s) = (laid x c s).drop 1) := hid (by unfold cut64; rw [if_pos (by omega)])
          have HQ8 := hid HQ7
          clear HQ7 HQ hxl
          go_wp2_with (at_builtin; go_must (refine ap_row B rfl (.tmp 54) (.tmp 58) 36 59 (.agg #[.int .u64 0, .slice none 0 0]) 2 32 rfl Try.underlying36 cl_info rfl (by omega) (.slice A' m.length k') m.length (pc m) (some ⟨wr.heap.size, 0, none⟩) 1 1 [.int .u64 c, _] rfl rfl (HO.out.alloc _) (Rd_lit wr _ 2 1 [.int .u64 c, _] rfl) (by intro u hu; simp at hu; rcases hu with rfl | rfl <;> rfl) (by omega) (by omega) (by simp; omega) ?_); intro A1 k1 w4 ho4 hg4 hat4; have hu4 : Upd No w3 w4 := ((HU.out.alloc _).grown hg4 fun k hk => .inr (by have := (HO.out.lt k hk).1; rw [HB.out] at this; exact this)); have hB4 := HX.out.2.2.blk.upd (HU3.out.next hu4) (no_ _); have c4 := box1 hB4; have f4 := hB4.free 0; have hcc := own_cap ho4; obtain ⟨g4, _, he4, _, hg4l⟩ := ho4.form (by omega); simp only [Value.slice.injEq, true_and] at he4; obtain ⟨rfl, rfl⟩ := he4; have hk1 : ¬ k1 = 1 := (by omega))
          have HE : Hid (∃ F', Rw (w4.setCell ⟨q, 0, none⟩ (.slice (some ⟨g4, 2, none⟩) m.length (k1 - 1))) F' q (cut64 (laid x c s)) ∧ Mv F F' w (w4.setCell ⟨q, 0, none⟩ (.slice (some ⟨g4, 2, none⟩) m.length (k1 - 1)))) := hid (by
            obtain ⟨q1, q2, q3, q4⟩ := HQ8.out
            rw [HCZ.out, ← q1, ← List.map_drop]
            have hg4B : B ≤ g4 := (ho4.lt g4 rfl).1
            have hwB := HB.out
            have hOz : Sl w4 0 59 2 (.slice (some ⟨g4, 0, none⟩) (m.length + 1) k1) (m.length + 1) (pc m ++ [.int .u64 c, _]) := Sl.of_own (own_base ho4 (Nat.zero_le _))
            have hOd := hOz.drop (m := 1) (by omega)
            rw [if_neg hk1, ← q3, pc_drop] at hOd
            refine HX.out.2.2.fin (g6 := g6) (by simpa using hB4.put 0 _) ?_ (Upd.set (F := fun k => k = q) ((HU3.out.next hu4).mono fun k _ h => h.elim) (p := ⟨q, 0, none⟩) (.inl rfl) _) (fun e he => (q4 e (List.mem_of_mem_drop he)).imp id fun h => (h.upd hu4 fun _ _ => no_ _).upd ((Upd.refl _ _).set1 0 _) fun k hk e => by omega) ⟨hg6.1, Nat.lt_of_lt_of_le hg6.2 (by simpa [World.setCell] using hu4.size)⟩ (fun k hk => ?_)
            · rw [List.length_drop, q2]
              exact hOd.upd ((Upd.refl _ _).set1 0 _) fun k hk e => by
                have : g4 = k := by simpa [Value.ownBlock, Addr_add_block] using hk
                omega
            · have : g4 = k := by simpa [Value.ownBlock] using hk
              omega)
          go_ret
          exact .of ⟨rfl, HE.out⟩
        · have h64' : decide ((64 : Int) < (m.length : Int) + 1) = false := decide_eq_false (by omega)
          have HCZ : Hid (cut64 (laid x c s) = laid x c s) := hid (by unfold cut64; rw [if_neg (by omega)])
          have HQ8 := hid HQ7
          clear HQ7 HQ hxl
          go_wp2_with (at_builtin; go_must (refine ap_row B rfl (.tmp 54) (.tmp 58) 36 59 (.agg #[.int .u64 0, .slice none 0 0]) 2 32 rfl Try.underlying36 cl_info rfl (by omega) (.slice A' m.length k') m.length (pc m) (some ⟨wr.heap.size, 0, none⟩) 1 1 [.int .u64 c, _] rfl rfl (HO.out.alloc _) (Rd_lit wr _ 2 1 [.int .u64 c, _] rfl) (by intro u hu; simp at hu; rcases hu with rfl | rfl <;> rfl) (by omega) (by omega) (by simp; omega) ?_); intro A1 k1 w4 ho4 hg4 hat4; have hu4 : Upd No w3 w4 := ((HU.out.alloc _).grown hg4 fun k hk => .inr (by have := (HO.out.lt k hk).1; rw [HB.out] at this; exact this)); have hB4 := HX.out.2.2.blk.upd (HU3.out.next hu4) (no_ _); have c4 := box1 hB4; have f4 := hB4.free 0; have hcc := own_cap ho4)
          have HE : Hid (∃ F', Rw (w4.setCell ⟨q, 0, none⟩ (.slice A1 (m.length + 1) k1)) F' q (cut64 (laid x c s)) ∧ Mv F F' w (w4.setCell ⟨q, 0, none⟩ (.slice A1 (m.length + 1) k1))) := hid (by
            obtain ⟨q1, q2, q3, q4⟩ := HQ8.out
            rw [HCZ.out, ← q1]
            have hwB := HB.out
            have hOz : Sl w4 0 59 2 (.slice A1 (m.length + 1) k1) (m.length + 1) (pc m ++ [.int .u64 c, _]) := Sl.of_own (own_base ho4 (Nat.zero_le _))
            rw [← q3] at hOz
            refine HX.out.2.2.fin (g6 := g6) (by simpa using hB4.put 0 _) ?_ (Upd.set (F := fun k => k = q) ((HU3.out.next hu4).mono fun k _ h => h.elim) (p := ⟨q, 0, none⟩) (.inl rfl) _) (fun e he => (q4 e he).imp id fun h => (h.upd hu4 fun _ _ => no_ _).upd ((Upd.refl _ _).set1 0 _) fun k hk e => by omega) ⟨hg6.1, Nat.lt_of_lt_of_le hg6.2 (by simpa [World.setCell] using hu4.size)⟩ (fun k hk => by have := (ho4.lt k hk).1; omega)
            rw [q2]
            exact hOz.upd ((Upd.refl _ _).set1 0 _) fun k hk e => by
              have := (ho4.lt k hk).1
              omega)
          go_ret
          exact .of ⟨rfl, HE.out⟩
theorem radd {w : World} {F : Nat → Prop} {q : Nat} {x : St} (c s : Int) (h : Rw w F q x) (hok : Ok x) :
    Calls Try.prog 15 #[.pointer (some ⟨q, 0, none⟩), .int .u64 c, .int .u64 s] w fun e w' => RAdd w F q (addX x c s) e w' := by
  by_cases h1 : s ∈ sr x c
  · exact radd_seen c s h hok h1
  · exact radd_new c s h hok h1
end Go.Proofs.Ytogijfgfcdmbnaa.Ww
