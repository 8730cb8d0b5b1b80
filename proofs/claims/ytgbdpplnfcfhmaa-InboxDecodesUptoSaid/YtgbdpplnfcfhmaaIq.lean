/-
  The reference's inbox: Pop; the comparison of the two inboxes.
-/
import Derived.Test.YtgbdpplnfcfhmaaIr
set_option linter.unusedVariables false
set_option linter.unusedSimpArgs false
namespace Go.Proofs.Ytgbdpplnfcfhmaa.Ir
open Go.RowKit Go.Proofs.Ytgbdpplnfcfhmaa.B Go.Proofs.Ytgbdpplnfcfhmaa.Lt Go.Proofs.Ytgbdpplnfcfhmaa.Ib Go.Proofs.Ytgbdpplnfcfhmaa.Ls Go.Proofs.Ytgbdpplnfcfhmaa.La
def RPop (w : World) (F : Nat → Prop) (q : Nat) (x : L) (b : Bool) (r : List L) (e : Ending) (w' : World) : Prop :=
  ∃ v, e = .returned (.tuple #[val x v, .bool b]) ∧ In w' x v ∧ ∃ F', Ir w' F' q r ∧ Mv F F' w w'
theorem RPop.of {w : World} {F : Nat → Prop} {q : Nat} {x : L} {b : Bool} {r : List L} {e : Ending} {w' : World}
    (h : ∃ v, e = .returned (.tuple #[val x v, .bool b]) ∧ In w' x v ∧ ∃ F', Ir w' F' q r ∧ Mv F F' w w') : RPop w F q x b r e w' := h
set_option maxHeartbeats 1000000 in
set_option maxRecDepth 100000 in
theorem rpop_none (q : Nat) (F : Nat → Prop) (w : World) (h : Ir w F q []) :
    Calls Try.prog 15 #[.pointer (some ⟨q, 0, none⟩)] w fun e w' => RPop w F q zero false [] e w' := by
  have h' := hid h
  obtain ⟨vl, h1, h2, h3, h4⟩ := h
  obtain ⟨A, c, rfl, hc, hcm⟩ := h2.len
  have hu1 : Upd No w (w.alloc (.cells #[.string ⟨#[]⟩, .int .u64 0, .int .i64 0, .slice none 0 0] 30)) := (Upd.refl _ _).alloc _
  have hb1 := Blk.fresh w 30 #[.string ⟨#[]⟩, .int .u64 0, .int .i64 0, .slice none 0 0]
  have k0 := (h1.upd hu1 (no_ _)).cell 0
  simp at k0
  obtain ⟨z0, z1, z2, z3⟩ := box hb1
  have g0 := hb1.free 0
  have g1 := hb1.free 1
  have g2 := hb1.free 2
  have g3 := hb1.free 3
  have HB := hid hb1
  have HU := hid hu1
  clear hb1 hu1
  go_enter Try.func15, Try.ntmps15
  go_wp2
  generalize w.alloc (.cells #[.string ⟨#[]⟩, .int .u64 0, .int .i64 0, .slice none 0 0] 30) = W5 at *
  obtain ⟨q0, q1, q2, q3⟩ := box HB.out
  exact bodyPost_ret (v := .tuple #[val zero (.slice none 0 0), .bool false]) (by simp [results, go_sem, q0, q1, q2, q3, val, zero]) rfl (RPop.of ⟨_, rfl, In.nil _, F, h'.out.upd HU.out (fun _ _ => no_ _), Mv.quiet (HU.out.old (Nat.le_refl _))⟩)
theorem rpop_end {w wa w5 : World} {F : Nat → Prop} {q : Nat} {y : L} {u : Value} {qs : List Lv} {old nv : Value} {row : Option Nat}
    (hin : ∀ z ∈ (y, u) :: qs, In w z.1 z.2 ∧ ∀ k, z.2.ownBlock = some k → F k ∧ ∃ cs, Blk w k 2 cs) (h3 : F q) (h4 : ∀ k, F k → k < w.heap.size) (h1 : Blk w q 40 #[old]) (hu : Upd No w wa)
    (ho5 : w5.ownsRow (w.heap.size + 2) 30 4 nv qs.length (pcells qs)) (hg5 : wa.grownBy w5 row) (hrow : ∀ k, row = some k → w.heap.size ≤ k) (p5 : Blk w5 q 40 #[old]) :
    In (put4 (w5.setCell ⟨q, 0, none⟩ nv) w.heap.size y u) y u ∧ ∃ F', Ir (put4 (w5.setCell ⟨q, 0, none⟩ nv) w.heap.size y u) F' q (qs.map (·.1)) ∧ Mv F F' w (put4 (w5.setCell ⟨q, 0, none⟩ nv) w.heap.size y u) := by
  have hqw := h4 q h3
  have hu5 : Upd No w w5 := hu.grown hg5 fun k hk => .inr (hrow k hk)
  have hu6 : Upd (fun k => k = q) w (w5.setCell ⟨q, 0, none⟩ nv) := Upd.set (F := fun k => k = q) (hu5.mono fun _ _ h => h.elim) (p := ⟨q, 0, none⟩) (.inl rfl) nv
  have hu7 : Upd (fun k => k = q) w (put4 (w5.setCell ⟨q, 0, none⟩ nv) w.heap.size y u) := hu6.trans (put4_upd _ w.heap.size y u) fun i hi e => by omega
  have np : ∀ k cs, Blk w k 2 cs → k ≠ q := fun k cs hB e => Blk.ne_type (e ▸ hB) h1 (by decide) rfl
  have inn : ∀ z ∈ (y, u) :: qs, In (put4 (w5.setCell ⟨q, 0, none⟩ nv) w.heap.size y u) z.1 z.2 := fun z hz => (hin z hz).1.upd hu7 fun k hk e => ((hin z hz).2 k hk).2.elim fun cs hB => np k cs hB e
  have hz5 := hu5.size
  have p6 : Blk (w5.setCell ⟨q, 0, none⟩ nv) q 40 #[nv] := by
    have := p5.put 0 nv
    simpa using this
  have hs6 : Sl (w5.setCell ⟨q, 0, none⟩ nv) 0 30 4 nv qs.length (pcells qs) := (Sl.of_own (own_base ho5 (Nat.zero_le _))).upd ((Upd.refl (fun k => k = q) w5).set1 0 nv) fun k hk e => own_blk_ne ho5 p5 (by decide) (e ▸ hk)
  have hs7 := hs6.upd (put4_upd (w5.setCell ⟨q, 0, none⟩ nv) w.heap.size y u) fun k hk e => by have := (ho5.lt k hk).1; omega
  refine ⟨inn (y, u) (by simp), fun k => F k ∨ nv.ownBlock = some k, ⟨nv, p6.upd (put4_upd _ w.heap.size y u) (by omega), ⟨qs, rfl, hs7, fun z hz => ⟨inn z (by simp [hz]), fun k hk => ⟨.inl ((hin z (by simp [hz])).2 k hk).1, ((hin z (by simp [hz])).2 k hk).2.elim fun cs hB => ⟨cs, hB.upd hu7 (np k cs hB)⟩⟩⟩, fun k hk => .inr hk⟩, .inl h3, ?_⟩, ⟨hu7.mono fun k _ hk => hk ▸ h3, ?_⟩⟩
  · rintro k (hk | hk)
    · exact Nat.lt_of_lt_of_le (h4 k hk) hu7.size
    · exact (hs7.lt k hk).2
  · rintro k (hk | hk)
    · exact .inl hk
    · exact .inr (by have := (ho5.lt k hk).1; omega)
set_option maxHeartbeats 2000000 in
set_option maxRecDepth 100000 in
theorem rpop_some (q : Nat) (x : L) (r : List L) (F : Nat → Prop) (w : World) (h : Ir w F q (x :: r)) (hr8 : r.length ≤ 1000000) :
    Calls Try.prog 15 #[.pointer (some ⟨q, 0, none⟩)] w fun e w' => RPop w F q x true r e w' := by
  obtain ⟨vl, h1, h2, h3, h4⟩ := h
  have hqw := h4 _ h3
  obtain ⟨ps, hps, hs, hin, hvF⟩ := h2
  match ps, hps with
  | (y, u) :: qs, hps =>
    simp only [List.map_cons, List.cons.injEq] at hps
    obtain ⟨rfl, hqr⟩ := hps
    have hi := (hin (y, u) (by simp)).1
    simp only at hi
    have hi' := hi
    obtain ⟨Au, cu, hue, _⟩ := hi'
    subst hue
    rcases hs.2 with ⟨_, hbad⟩ | ⟨g, off, c, cur, rfl, _, hh, hnc, hcm, _, hcell⟩
    · simp at hbad
    · simp only [List.length_cons] at hnc h1 hs hvF
      have e4 : ∀ j w', (pcells ((y, .slice Au y.2.2.2.length cu) :: qs))[j]? = some w' → w.cell? ⟨g, off + j, none⟩ = some w' := fun j w' hj => by rw [hh.cell]; exact hcell j w' hj
      have c0 := e4 0 _ rfl
      have c1 := e4 1 _ rfl
      have c2 := e4 2 _ rfl
      have c3 := e4 3 _ rfl
      simp only [Nat.add_zero] at c0
      have hgl := hh.lt
      simp only [maxLen] at hcm
      have hd := hs.drop (m := 1) (by omega)
      rw [pcells_drop, Nat.add_sub_cancel] at hd
      have hql : qs.length ≤ 1000000 := by rw [← hqr] at hr8; simpa using hr8
      by_cases hc1 : c = 1
      · subst hc1
        rw [if_pos rfl] at hd
        have hd := hd.rd
        clear hnc
        have HO : Hid (∀ o1 o2, (((w.alloc o1).alloc o2).alloc (.cells #[] 30)).ownsRow (w.heap.size + 2) 30 4 (.slice (some ⟨w.heap.size + 1 + 1, 0, none⟩) 0 0) 0 []) := hid fun o1 o2 => by
          have := World.ownsRow_made (base := w.heap.size + 2) (e := 30) (size := 4) ((w.alloc o1).alloc o2) #[] 0 (by simp) (Nat.zero_le _) rfl
          simpa using this
        have hle1 : 0 + qs.length ≤ 9223372036854775807 := by omega
        have hle2 : (0 + qs.length) * 56 ≤ 140737488355328 := by omega
        have HRR := hid (fun o1 o2 o3 => Rd.alloc (Rd.alloc (Rd.alloc hd (by omega) o1) (by omega) o2) (by omega) o3)
        have hbq := hid (fun o1 o2 o3 => ((h1.alloc o1).alloc o2).alloc o3)
        have hq1 : ∀ o1, (w.alloc o1).cell? ⟨q, 0, none⟩ = some (.slice (some ⟨g, off, none⟩) (qs.length + 1) 1) := fun o1 => by simpa using (h1.alloc o1).cell 0
        have hq2 : ∀ o1 o2, ((w.alloc o1).alloc o2).cell? ⟨q, 0, none⟩ = some (.slice (some ⟨g, off, none⟩) (qs.length + 1) 1) := fun o1 o2 => by simpa using ((h1.alloc o1).alloc o2).cell 0
        have hq3 : ∀ o1 o2 o3, (((w.alloc o1).alloc o2).alloc o3).cell? ⟨q, 0, none⟩ = some (.slice (some ⟨g, off, none⟩) (qs.length + 1) 1) := fun o1 o2 o3 => by simpa using (((h1.alloc o1).alloc o2).alloc o3).cell 0
        have al : ∀ (o : Obj) (a : Addr) (z : Value), a.block < w.heap.size → w.cell? a = some z → (w.alloc o).cell? a = some z := fun o a z ha hz => (((Upd.refl No w).alloc o).cell ha (no_ _)).trans hz
        have d0 : ∀ o, (w.alloc o).cell? ⟨g, off, none⟩ = some (.string y.1) := fun o => al o _ _ hgl c0
        have d1 : ∀ o, (w.alloc o).cell? ⟨g, off + 1, none⟩ = some (.int .u64 y.2.1) := fun o => al o _ _ hgl c1
        have d2 : ∀ o, (w.alloc o).cell? ⟨g, off + 2, none⟩ = some (.int .i64 y.2.2.1) := fun o => al o _ _ hgl c2
        have d3 : ∀ o, (w.alloc o).cell? ⟨g, off + 3, none⟩ = some (.slice Au y.2.2.2.length cu) := fun o => al o _ _ hgl c3
        have HB2 := hid (fun o2 o3 => ((Blk.fresh w 30 #[.string ⟨#[]⟩, .int .u64 0, .int .i64 0, .slice none 0 0]).alloc o2).alloc o3)
        have HB4 : Hid (∀ o1 o3, Blk (((w.alloc o1).alloc (.cells #[.string y.1, .int .u64 y.2.1, .int .i64 y.2.2.1, .slice Au y.2.2.2.length cu] 30)).alloc o3) (w.heap.size + 1) 30 #[.string y.1, .int .u64 y.2.1, .int .i64 y.2.2.1, .slice Au y.2.2.2.length cu]) := hid fun o1 o3 => by
          have := (Blk.fresh (w.alloc o1) 30 #[.string y.1, .int .u64 y.2.1, .int .i64 y.2.2.1, .slice Au y.2.2.2.length cu]).alloc o3
          simpa using this
        have HU0 : Hid (∀ o1 o2 o3, Upd No w (((w.alloc o1).alloc o2).alloc o3)) := hid fun o1 o2 o3 => (((Upd.refl _ _).alloc _).alloc _).alloc _
        have HSZ : Hid (∀ o1 o2 o3, (((w.alloc o1).alloc o2).alloc o3).heap.size = w.heap.size + 3) := hid fun o1 o2 o3 => by simp
        have hone : ∀ z ∈ pcells qs, z.oneCell' = true := fun z hz => by
          simp only [pcells, List.mem_flatMap] at hz
          obtain ⟨b, hb, hz⟩ := hz
          exact cells_one (hin b (by simp [hb])).1 z hz
        go_enter Try.func15, Try.ntmps15
        go_wp2_with (at_builtin; go_must (refine ap_row (w.heap.size + 2) rfl (.tmp 19) (.tmp 24) 38 30 (.agg #[.string ⟨#[]⟩, .int .u64 0, .int .i64 0, .slice none 0 0]) 4 56 rfl Try.underlying38 lt_info rfl (by omega) (.slice (some ⟨w.heap.size + 1 + 1, 0, none⟩) 0 0) 0 [] (some ⟨g, off, none⟩) qs.length 0 (pcells qs) rfl rfl (HO.out _ _) (HRR.out _ _ _) hone hle1 hle2 (by simp) ?_); intro A5 c5 w5 ho5 hg5 hat5; rw [Nat.zero_add, List.nil_append] at ho5; rw [Nat.zero_add]; have p5 := (hbq.out _ _ _).grown hg5 (by simp [Value.ownBlock]; omega); have p5c := p5.cell 0; have p5f := p5.free 0; simp at p5c; have B2 := ((HB2.out _ _).grown hg5 (by simp [Value.ownBlock]; omega)).far (p := ⟨q, 0, none⟩) (by simp; omega) (.slice A5 qs.length c5); have B4 := ((HB4.out _ _).grown hg5 (by simp [Value.ownBlock])).far (p := ⟨q, 0, none⟩) (by simp; omega) (.slice A5 qs.length c5); obtain ⟨r0, r1, r2, r3⟩ := box B4; obtain ⟨z0, z1, z2, z3⟩ := box B2; have g0 := B2.free 0; have g1 := B2.free 1; have g2 := B2.free 2; have g3 := B2.free 3)
        have HE := hid (rpop_end hin h3 h4 h1 (HU0.out _ _ _) ho5 hg5 (fun k hk => by have : w.heap.size + 1 + 1 = k := by simpa [Value.ownBlock] using hk
                                                                                      omega) p5)
        have HB := hid (put4_blk B2 y (.slice Au y.2.2.2.length cu))
        simp only [put4] at HE HB
        generalize (((((w5.setCell ⟨q, 0, none⟩ (.slice A5 qs.length c5)).setCell ⟨w.heap.size, 0, none⟩ (.string y.1)).setCell ⟨w.heap.size, 1, none⟩ (.int .u64 y.2.1)).setCell ⟨w.heap.size, 2, none⟩ (.int .i64 y.2.2.1)).setCell ⟨w.heap.size, 3, none⟩ (.slice Au y.2.2.2.length cu)) = W9 at *
        obtain ⟨q0, q1, q2, q3⟩ := box HB.out
        rw [← hqr]
        exact bodyPost_ret (v := .tuple #[val y (.slice Au y.2.2.2.length cu), .bool true]) (by simp [results, go_sem, q0, q1, q2, q3, val]) rfl (RPop.of ⟨_, rfl, HE.out.1, HE.out.2⟩)
      · rw [if_neg hc1, show (some (⟨g, off, none⟩ : Addr)).map (·.add (1 * 4)) = some ⟨g, off + 4, none⟩ from by simp [add_off]] at hd
        have hd := hd.rd
        have HO : Hid (∀ o1 o2, (((w.alloc o1).alloc o2).alloc (.cells #[] 30)).ownsRow (w.heap.size + 2) 30 4 (.slice (some ⟨w.heap.size + 1 + 1, 0, none⟩) 0 0) 0 []) := hid fun o1 o2 => by
          have := World.ownsRow_made (base := w.heap.size + 2) (e := 30) (size := 4) ((w.alloc o1).alloc o2) #[] 0 (by simp) (Nat.zero_le _) rfl
          simpa using this
        have hle1 : 0 + qs.length ≤ 9223372036854775807 := by omega
        have hle2 : (0 + qs.length) * 56 ≤ 140737488355328 := by omega
        have HRR := hid (fun o1 o2 o3 => Rd.alloc (Rd.alloc (Rd.alloc hd (by omega) o1) (by omega) o2) (by omega) o3)
        have hbq := hid (fun o1 o2 o3 => ((h1.alloc o1).alloc o2).alloc o3)
        have hq1 : ∀ o1, (w.alloc o1).cell? ⟨q, 0, none⟩ = some (.slice (some ⟨g, off, none⟩) (qs.length + 1) c) := fun o1 => by simpa using (h1.alloc o1).cell 0
        have hq2 : ∀ o1 o2, ((w.alloc o1).alloc o2).cell? ⟨q, 0, none⟩ = some (.slice (some ⟨g, off, none⟩) (qs.length + 1) c) := fun o1 o2 => by simpa using ((h1.alloc o1).alloc o2).cell 0
        have hq3 : ∀ o1 o2 o3, (((w.alloc o1).alloc o2).alloc o3).cell? ⟨q, 0, none⟩ = some (.slice (some ⟨g, off, none⟩) (qs.length + 1) c) := fun o1 o2 o3 => by simpa using (((h1.alloc o1).alloc o2).alloc o3).cell 0
        have al : ∀ (o : Obj) (a : Addr) (z : Value), a.block < w.heap.size → w.cell? a = some z → (w.alloc o).cell? a = some z := fun o a z ha hz => (((Upd.refl No w).alloc o).cell ha (no_ _)).trans hz
        have d0 : ∀ o, (w.alloc o).cell? ⟨g, off, none⟩ = some (.string y.1) := fun o => al o _ _ hgl c0
        have d1 : ∀ o, (w.alloc o).cell? ⟨g, off + 1, none⟩ = some (.int .u64 y.2.1) := fun o => al o _ _ hgl c1
        have d2 : ∀ o, (w.alloc o).cell? ⟨g, off + 2, none⟩ = some (.int .i64 y.2.2.1) := fun o => al o _ _ hgl c2
        have d3 : ∀ o, (w.alloc o).cell? ⟨g, off + 3, none⟩ = some (.slice Au y.2.2.2.length cu) := fun o => al o _ _ hgl c3
        have HB2 := hid (fun o2 o3 => ((Blk.fresh w 30 #[.string ⟨#[]⟩, .int .u64 0, .int .i64 0, .slice none 0 0]).alloc o2).alloc o3)
        have HB4 : Hid (∀ o1 o3, Blk (((w.alloc o1).alloc (.cells #[.string y.1, .int .u64 y.2.1, .int .i64 y.2.2.1, .slice Au y.2.2.2.length cu] 30)).alloc o3) (w.heap.size + 1) 30 #[.string y.1, .int .u64 y.2.1, .int .i64 y.2.2.1, .slice Au y.2.2.2.length cu]) := hid fun o1 o3 => by
          have := (Blk.fresh (w.alloc o1) 30 #[.string y.1, .int .u64 y.2.1, .int .i64 y.2.2.1, .slice Au y.2.2.2.length cu]).alloc o3
          simpa using this
        have HU0 : Hid (∀ o1 o2 o3, Upd No w (((w.alloc o1).alloc o2).alloc o3)) := hid fun o1 o2 o3 => (((Upd.refl _ _).alloc _).alloc _).alloc _
        have HSZ : Hid (∀ o1 o2 o3, (((w.alloc o1).alloc o2).alloc o3).heap.size = w.heap.size + 3) := hid fun o1 o2 o3 => by simp
        have hone : ∀ z ∈ pcells qs, z.oneCell' = true := fun z hz => by
          simp only [pcells, List.mem_flatMap] at hz
          obtain ⟨b, hb, hz⟩ := hz
          exact cells_one (hin b (by simp [hb])).1 z hz
        go_enter Try.func15, Try.ntmps15
        go_wp2_with (at_builtin; go_must (refine ap_row (w.heap.size + 2) rfl (.tmp 19) (.tmp 24) 38 30 (.agg #[.string ⟨#[]⟩, .int .u64 0, .int .i64 0, .slice none 0 0]) 4 56 rfl Try.underlying38 lt_info rfl (by omega) (.slice (some ⟨w.heap.size + 1 + 1, 0, none⟩) 0 0) 0 [] (some ⟨g, off + 4, none⟩) qs.length (c - 1) (pcells qs) rfl rfl (HO.out _ _) (HRR.out _ _ _) hone hle1 hle2 (by simp) ?_); intro A5 c5 w5 ho5 hg5 hat5; rw [Nat.zero_add, List.nil_append] at ho5; rw [Nat.zero_add]; have p5 := (hbq.out _ _ _).grown hg5 (by simp [Value.ownBlock]; omega); have p5c := p5.cell 0; have p5f := p5.free 0; simp at p5c; have B2 := ((HB2.out _ _).grown hg5 (by simp [Value.ownBlock]; omega)).far (p := ⟨q, 0, none⟩) (by simp; omega) (.slice A5 qs.length c5); have B4 := ((HB4.out _ _).grown hg5 (by simp [Value.ownBlock])).far (p := ⟨q, 0, none⟩) (by simp; omega) (.slice A5 qs.length c5); obtain ⟨r0, r1, r2, r3⟩ := box B4; obtain ⟨z0, z1, z2, z3⟩ := box B2; have g0 := B2.free 0; have g1 := B2.free 1; have g2 := B2.free 2; have g3 := B2.free 3)
        have HE := hid (rpop_end hin h3 h4 h1 (HU0.out _ _ _) ho5 hg5 (fun k hk => by have : w.heap.size + 1 + 1 = k := by simpa [Value.ownBlock] using hk
                                                                                      omega) p5)
        have HB := hid (put4_blk B2 y (.slice Au y.2.2.2.length cu))
        simp only [put4] at HE HB
        generalize (((((w5.setCell ⟨q, 0, none⟩ (.slice A5 qs.length c5)).setCell ⟨w.heap.size, 0, none⟩ (.string y.1)).setCell ⟨w.heap.size, 1, none⟩ (.int .u64 y.2.1)).setCell ⟨w.heap.size, 2, none⟩ (.int .i64 y.2.2.1)).setCell ⟨w.heap.size, 3, none⟩ (.slice Au y.2.2.2.length cu)) = W9 at *
        obtain ⟨q0, q1, q2, q3⟩ := box HB.out
        rw [← hqr]
        exact bodyPost_ret (v := .tuple #[val y (.slice Au y.2.2.2.length cu), .bool true]) (by simp [results, go_sem, q0, q1, q2, q3, val]) rfl (RPop.of ⟨_, rfl, HE.out.1, HE.out.2⟩)
end Go.Proofs.Ytgbdpplnfcfhmaa.Ir
