/-
  The reference's inbox.
-/
import Derived.Test.YtgbdpplnfcfhmaaLa
import Derived.Test.YtgbdpplnfcfhmaaIr0
set_option linter.unusedVariables false
set_option linter.unusedSimpArgs false
namespace Go.Proofs.Ytgbdpplnfcfhmaa.Ir
open Go.RowKit Go.Proofs.Ytgbdpplnfcfhmaa.B Go.Proofs.Ytgbdpplnfcfhmaa.Lt Go.Proofs.Ytgbdpplnfcfhmaa.Ib Go.Proofs.Ytgbdpplnfcfhmaa.Ls
/-- The reference's inbox at p holds the letters xs. -/
def Ir (w : World) (F : Nat → Prop) (p : Nat) (xs : List L) : Prop :=
  ∃ v, Blk w p 40 #[v] ∧ Row w F v xs ∧ F p ∧ (∀ k, F k → k < w.heap.size)
section
variable {w w' : World} {F G : Nat → Prop} {p : Nat} {xs : List L}
theorem Ir.upd (h : Ir w F p xs) (hu : Upd G w w') (hn : ∀ k, F k → ¬ G k) : Ir w' F p xs := by
  obtain ⟨v, h1, h2, h3, h4⟩ := h
  exact ⟨v, h1.upd hu (hn _ h3), h2.upd hu hn, h3, fun k hk => Nat.lt_of_lt_of_le (h4 k hk) hu.size⟩
theorem Ir.lt (h : Ir w F p xs) : ∀ k, F k → k < w.heap.size := by
  obtain ⟨v, h1, h2, h3, h4⟩ := h
  exact h4
end
theorem Ir.pushed {w wa w4 : World} {F : Nat → Prop} {p : Nat} {v : Value} {xs : List L} {ps : List Lv} {x : L} {v3 : Value} {A4 : Option Addr} {c4 : Nat}
    (h1 : Blk w p 40 #[v]) (hps : ps.map (·.1) = xs) (hs : Sl w 0 30 4 v ps.length (pcells ps)) (hin : ∀ x ∈ ps, In w x.1 x.2 ∧ ∀ k, x.2.ownBlock = some k → F k ∧ ∃ cs, Blk w k 2 cs) (hvF : ∀ k, v.ownBlock = some k → F k)
    (h3 : F p) (h4 : ∀ k, F k → k < w.heap.size) (hx3 : In wa x v3) (hf3 : ∀ k, v3.ownBlock = some k → w.heap.size ≤ k ∧ ∃ cs, Blk wa k 2 cs) (hua : Upd No w wa)
    (ho4 : Sl w4 0 30 4 (.slice A4 (ps.length + 1) c4) (ps.length + 1) (pcells ps ++ cells x v3)) (hg4 : Upd (fun k => v.ownBlock = some k) wa w4)
    (hat4 : ∀ k, (Value.slice A4 (ps.length + 1) c4).ownBlock = some k → v.ownBlock = some k ∨ wa.heap.size ≤ k) (p4 : Blk w4 p 40 #[v]) :
    ∃ F', Ir (w4.setCell ⟨p, 0, none⟩ (.slice A4 (ps.length + 1) c4)) F' p (xs ++ [x]) ∧ Mv F F' w (w4.setCell ⟨p, 0, none⟩ (.slice A4 (ps.length + 1) c4)) := by
  have hR := Row.push hs hin hvF hx3 hf3 hua ho4 hg4 hat4
  have hR2 := hR.far p4 (by decide) (by decide) ((Upd.refl (fun k => k = p) w4).set1 0 (.slice A4 (ps.length + 1) c4))
  have hsz3 := hua.size
  have hsz4 := hg4.size
  have hz : ∀ k, k < w4.heap.size → k < (w4.setCell ⟨p, 0, none⟩ (.slice A4 (ps.length + 1) c4)).heap.size := fun k hk => by simpa [World.setCell] using hk
  refine ⟨fun k => F k ∨ v3.ownBlock = some k ∨ (Value.slice A4 (ps.length + 1) c4).ownBlock = some k, ⟨.slice A4 (ps.length + 1) c4, ?_, by rw [← hps]; exact hR2, .inl h3, ?_⟩, ⟨?_, ?_⟩⟩
  · have := p4.put 0 (.slice A4 (ps.length + 1) c4)
    simpa using this
  · rintro k (hk | hk | hk)
    · have := h4 k hk; exact hz k (by omega)
    · obtain ⟨cs, hB⟩ := (hf3 k hk).2
      have := hB.lt
      exact hz k (by omega)
    · exact hz k (ho4.lt k hk).2
  · exact ((hua.mono fun _ _ h => h.elim).next (hg4.mono fun k _ hk => hvF k hk)).set (.inl h3) _
  · rintro k (hk | hk | hk)
    · exact .inl hk
    · exact .inr (hf3 k hk).1
    · rcases hat4 k hk with h | h
      · exact .inl (hvF k h)
      · exact .inr (by omega)
set_option maxHeartbeats 2000000 in
set_option maxRecDepth 100000 in
theorem rpush (p : Nat) (xs : List L) (F : Nat → Prop) (x : L) (u : Value) (w : World) (h : Ir w F p xs) (hx : In w x u) :
    Calls Try.prog 14 #[.pointer (some ⟨p, 0, none⟩), val x u] w fun e w' => e = .returned (.int .i64 (pushL xs x).1) ∧ ∃ F', Ir w' F' p (pushL xs x).2 ∧ Mv F F' w w' := by
  have hI := hid h
  obtain ⟨v, h1, ⟨ps, hps, hs, hin, hvF⟩, h3, h4⟩ := h
  have hxl : xs.length = ps.length := by rw [← hps]; simp
  obtain ⟨A, c, rfl, hc, hm⟩ := hs.shape
  simp only [maxLen] at hm
  have hu1 : Upd No w (w.alloc (.cells #[.string x.1, .int .u64 x.2.1, .int .i64 x.2.2.1, u] 30)) := (Upd.refl _ _).alloc _
  have hbx := Blk.fresh w 30 #[.string x.1, .int .u64 x.2.1, .int .i64 x.2.2.1, u]
  have hx1 := hx.upd hu1 (fun _ _ => no_ _)
  have HF := hid (rformed_ x u _ hx1)
  have hI1 := hid (hI.out.upd hu1 (fun _ _ => no_ _))
  have hc0 := (h1.upd hu1 (no_ _)).cell 0
  simp at hc0
  obtain ⟨y0, y1, y2, y3⟩ := box hbx
  unfold val
  unfold pushL
  by_cases hf : formed x = true
  · rw [if_pos hf]
    rw [hf] at HF
    by_cases h8 : xs.length < 8
    · rw [if_pos h8]
      have h8' : ¬ (8 : Int) ≤ (ps.length : Int) := by omega
      have hxa : x.2.2.2.length ≤ 1000000 := by
        simp [formed] at hf
        omega
      go_enter Try.func14, Try.ntmps14
      go_wp2_with (fail)
      generalize hw1 : w.alloc (.cells #[.string x.1, .int .u64 x.2.1, .int .i64 x.2.2.1, u] 30) = w1 at *
      have hsz1 : w.heap.size < w1.heap.size := by rw [← hw1]; simp
      clear hw1
      unfold val at HF
      refine Calls.mono HF.out ?_
      rintro e w2 ⟨rfl, hu2⟩
      have hu12 := hu1.next hu2
      have hb2 := hbx.upd hu2 (no_ _)
      have k1 := h1.upd hu12 (no_ _)
      have k0 := k1.cell 0
      have kf := k1.free 0
      simp at k0
      have hx2 := hx1.upd hu2 (fun _ _ => no_ _)
      have HC := hid (rcopy_ x u w2.drew hx2 hxa)
      unfold val at HC
      have hsz2 := hu2.size
      clear hc0 y0 y1 y2 y3 HF hI1 hx1
      go_wp2_with (fail)
      refine wp_region_held_drew (S := fun W => Blk W w.heap.size 30 #[.string x.1, .int .u64 x.2.1, .int .i64 x.2.2.1, u]) (by kernel_rfl) hb2.drew (fun hS => ?_)
      refine rg_at 0 (by decide) (fun oi hoi => ?_)
      have ho2 := hoi; simp only [List.getElem?_toArray, List.getElem?_cons_succ, List.getElem?_cons_zero, Option.some.injEq] at ho2; subst ho2
      refine rg_take (v := ?_) 0 hoi (by kernel_rfl) (by kernel_rfl) (by kernel_rfl) (fun _ _ _ h => h) (by rfl) ?_ hS ?_
      rotate_left
      · intro w _; go_simp; try with_reducible rfl
      clear hoi; try simp only [Act.put, List.setIfInBounds_toArray, List.set_cons_zero, List.set_cons_succ]
      refine rg_at 1 (by decide) (fun oi hoi => ?_)
      have ho2 := hoi; simp only [List.getElem?_toArray, List.getElem?_cons_succ, List.getElem?_cons_zero, Option.some.injEq] at ho2; subst ho2
      refine rg_take (v := ?_) 1 hoi (by kernel_rfl) (by kernel_rfl) (by kernel_rfl) (fun _ _ _ h => h) (by rfl) ?_ hS ?_
      rotate_left
      · intro w _; go_simp; try with_reducible rfl
      clear hoi; try simp only [Act.put, List.setIfInBounds_toArray, List.set_cons_zero, List.set_cons_succ]
      refine rg_at 2 (by decide) (fun oi hoi => ?_)
      have ho2 := hoi; simp only [List.getElem?_toArray, List.getElem?_cons_succ, List.getElem?_cons_zero, Option.some.injEq] at ho2; subst ho2
      refine rg_take (v := ?_) 2 hoi (by kernel_rfl) (by kernel_rfl) (by kernel_rfl) (fun _ _ _ h => h) (by rfl) ?_ hS ?_
      rotate_left
      · intro w _; go_simp; try with_reducible rfl
      clear hoi; try simp only [Act.put, List.setIfInBounds_toArray, List.set_cons_zero, List.set_cons_succ]
      refine rg_at 3 (by decide) (fun oi hoi => ?_)
      have ho2 := hoi; simp only [List.getElem?_toArray, List.getElem?_cons_succ, List.getElem?_cons_zero, Option.some.injEq] at ho2; subst ho2
      refine rg_take (v := ?_) 3 hoi (by kernel_rfl) (by kernel_rfl) (by kernel_rfl) (fun _ _ _ h => h) (by rfl) ?_ hS ?_
      rotate_left
      · intro w _; go_simp; try with_reducible rfl
      clear hoi; try simp only [Act.put, List.setIfInBounds_toArray, List.set_cons_zero, List.set_cons_succ]
      refine rg_at 5 (by decide) (fun oi hoi => ?_)
      have ho2 := hoi; simp only [List.getElem?_toArray, List.getElem?_cons_succ, List.getElem?_cons_zero, Option.some.injEq] at ho2; subst ho2
      refine rg_take (v := ?_) 5 hoi (by kernel_rfl) (by kernel_rfl) (by kernel_rfl) (fun _ _ _ h => h) (by rfl) ?_ hS ?_
      rotate_left
      · intro w hw; have hf := box hw; clear hw; go_simp; try with_reducible rfl
      clear hoi; try simp only [Act.put, List.setIfInBounds_toArray, List.set_cons_zero, List.set_cons_succ]
      refine rg_two 4 6 (by kernel_rfl) ?_ ?_
      · refine rg_op_at 4 (by decide) (fun oi hoi => ?_)
        have ho2 := hoi; simp only [List.getElem?_toArray, List.getElem?_cons_succ, List.getElem?_cons_zero, Option.some.injEq] at ho2; subst ho2
        refine rg_step 4 hoi (by rfl) (fun K hK => ?_)
        clear hoi
        skip
        go_simp
        refine hK.out _ _ ((by first | exact hb2.drew | exact hbx3 | exact hbx3.alloc _)) (fun hS => ?_)
        clear hK K
        try simp only [Act.put, List.setIfInBounds_toArray, List.set_cons_zero, List.set_cons_succ]
        refine rg_at 6 (by decide) (fun oi hoi => ?_)
        have ho2 := hoi; simp only [List.getElem?_toArray, List.getElem?_cons_succ, List.getElem?_cons_zero, Option.some.injEq] at ho2; subst ho2
        refine rg_call 6 (by kernel_rfl) hoi (by rfl) (fun K hK => ?_)
        clear hoi
        go_simp
        refine Calls.mono HC.out ?_
        rintro e w3 ⟨v3, rfl, hx3, hu3, hf3⟩
        unfold val
        have hu3' := Upd.of_drew hu3
        have hbx3 := hb2.upd hu3' (no_ _)
        have k3 := k1.upd hu3' (no_ _)
        have c3 := k3.cell 0
        have f3 := k3.free 0
        simp at c3
        have e3 : ∀ o, (w3.alloc o).cell? ⟨p, 0, none⟩ = some (.slice A ps.length c) := fun o => by simpa using (k3.alloc o).cell 0
        have s3 := (hs.upd hu12 (fun _ _ => no_ _)).upd hu3' (fun _ _ => no_ _)
        go_wp2_with (fail)
        refine hK.out _ _ ((by exact hbx3)) (fun hS => ?_)
        clear hK K
        try simp only [Act.put, List.setIfInBounds_toArray, List.set_cons_zero, List.set_cons_succ]
        refine rg_at 7 (by decide) (fun oi hoi => ?_)
        have ho2 := hoi; simp only [List.getElem?_toArray, List.getElem?_cons_succ, List.getElem?_cons_zero, Option.some.injEq] at ho2; subst ho2
        refine rg_call 7 (by kernel_rfl) hoi (by rfl) (fun K hK => ?_)
        clear hoi
        skip
        go_simp
        refine hK.out _ _ ((hbx3.alloc _)) (fun hS => ?_)
        clear hK K
        try simp only [Act.put, List.setIfInBounds_toArray, List.set_cons_zero, List.set_cons_succ]
        refine rg_at 8 (by decide) (fun oi hoi => ?_)
        have ho2 := hoi; simp only [List.getElem?_toArray, List.getElem?_cons_succ, List.getElem?_cons_zero, Option.some.injEq] at ho2; subst ho2
        refine rg_call 8 (by kernel_rfl) hoi (by rfl) (fun K hK => ?_)
        clear hoi
        refine wp_ap_sl 0 (.tmp 18) (.tmp 21) 38 30 (.agg #[.string ⟨#[]⟩, .int .u64 0, .int .i64 0, .slice none 0 0]) 4 56 (by rfl) Try.underlying38 lt_info rfl (by omega) (.slice A ps.length c) ps.length (pcells ps) (some ⟨w3.heap.size, 0, none⟩) 1 1 (cells x v3) (by rfl) (by rfl) (s3.alloc _) (Rd_lit w3 _ 4 1 (cells x v3) rfl) (cells_one hx3) (by omega) (by omega) (Nat.zero_le _) ?_
        intro A4 c4 w4 ho4 hg4 hat4
        have p4 := (k3.alloc _).upd hg4 (fun h => s3.ne k3 (by decide) h)
        have f4 := p4.free 0
        have c4' := p4.cell 0
        simp at c4'
        have b4 := (hbx3.alloc _).upd hg4 (fun h => by have := (hs.lt _ h).2; omega)
        refine hK.out _ _ ((by exact b4)) (fun hS => ?_)
        clear hK K
        try simp only [Act.put, List.setIfInBounds_toArray, List.set_cons_zero, List.set_cons_succ]
        refine rg_at 9 (by decide) (fun oi hoi => ?_)
        have ho2 := hoi; simp only [List.getElem?_toArray, List.getElem?_cons_succ, List.getElem?_cons_zero, Option.some.injEq] at ho2; subst ho2
        refine rg_take (v := ?_) 9 hoi (by kernel_rfl) (by kernel_rfl) (by kernel_rfl) (fun _ _ _ h => h) (by rfl) ?_ hS ?_
        rotate_left
        · intro w _; go_simp; try with_reducible rfl
        clear hoi; try simp only [Act.put, List.setIfInBounds_toArray, List.set_cons_zero, List.set_cons_succ]
        refine rg_at 10 (by decide) (fun oi hoi => ?_)
        have ho2 := hoi; simp only [List.getElem?_toArray, List.getElem?_cons_succ, List.getElem?_cons_zero, Option.some.injEq] at ho2; subst ho2
        refine rg_take (v := ?_) 10 hoi (by kernel_rfl) (by kernel_rfl) (by kernel_rfl) (fun _ _ _ h => h) (by rfl) ?_ hS ?_
        rotate_left
        · intro w _; go_simp; try with_reducible rfl
        clear hoi; try simp only [Act.put, List.setIfInBounds_toArray, List.set_cons_zero, List.set_cons_succ]
        refine rg_at 11 (by decide) (fun oi hoi => ?_)
        have ho2 := hoi; simp only [List.getElem?_toArray, List.getElem?_cons_succ, List.getElem?_cons_zero, Option.some.injEq] at ho2; subst ho2
        refine rg_call 11 (by kernel_rfl) hoi (by rfl) (fun K hK => ?_)
        clear hoi
        skip
        go_simp
        refine hK.out _ _ ((b4.far (by have := h4 _ h3; simp; omega) _)) (fun hS => ?_)
        clear hK K
        try simp only [Act.put, List.setIfInBounds_toArray, List.set_cons_zero, List.set_cons_succ]
        refine wpAnyH_done (by kernel_rfl) ?_ _
        have hRes := hid (Ir.pushed h1 hps hs hin hvF h3 h4 (hx3.upd ((Upd.refl No w3).alloc _) (fun _ _ => no_ _)) (fun k hk => ⟨by have := (hf3 k hk).1; have hz := hu12.size; simp at this; omega, (hf3 k hk).2.elim fun cs hB => ⟨cs, hB.alloc _⟩⟩) ((hu12.next hu3').alloc _) ho4 hg4 hat4 p4)
        go_wp2
        go_ret
        exact ⟨rfl, hRes.out⟩
      · refine rg_op_at 6 (by decide) (fun oi hoi => ?_)
        have ho2 := hoi; simp only [List.getElem?_toArray, List.getElem?_cons_succ, List.getElem?_cons_zero, Option.some.injEq] at ho2; subst ho2
        refine rg_step 6 hoi (by rfl) (fun K hK => ?_)
        clear hoi
        go_simp
        refine Calls.mono HC.out ?_
        rintro e w3 ⟨v3, rfl, hx3, hu3, hf3⟩
        unfold val
        have hu3' := Upd.of_drew hu3
        have hbx3 := hb2.upd hu3' (no_ _)
        have k3 := k1.upd hu3' (no_ _)
        have c3 := k3.cell 0
        have f3 := k3.free 0
        simp at c3
        have e3 : ∀ o, (w3.alloc o).cell? ⟨p, 0, none⟩ = some (.slice A ps.length c) := fun o => by simpa using (k3.alloc o).cell 0
        have s3 := (hs.upd hu12 (fun _ _ => no_ _)).upd hu3' (fun _ _ => no_ _)
        go_wp2_with (fail)
        refine hK.out _ _ ((by exact hbx3)) (fun hS => ?_)
        clear hK K
        try simp only [Act.put, List.setIfInBounds_toArray, List.set_cons_zero, List.set_cons_succ]
        refine rg_two 4 7 (by kernel_rfl) ?_ ?_
        · refine rg_op_at 4 (by decide) (fun oi hoi => ?_)
          have ho2 := hoi; simp only [List.getElem?_toArray, List.getElem?_cons_succ, List.getElem?_cons_zero, Option.some.injEq] at ho2; subst ho2
          refine rg_step 4 hoi (by rfl) (fun K hK => ?_)
          clear hoi
          skip
          go_simp
          refine hK.out _ _ ((by first | exact hb2.drew | exact hbx3 | exact hbx3.alloc _)) (fun hS => ?_)
          clear hK K
          try simp only [Act.put, List.setIfInBounds_toArray, List.set_cons_zero, List.set_cons_succ]
          refine rg_at 7 (by decide) (fun oi hoi => ?_)
          have ho2 := hoi; simp only [List.getElem?_toArray, List.getElem?_cons_succ, List.getElem?_cons_zero, Option.some.injEq] at ho2; subst ho2
          refine rg_call 7 (by kernel_rfl) hoi (by rfl) (fun K hK => ?_)
          clear hoi
          skip
          go_simp
          refine hK.out _ _ ((hbx3.alloc _)) (fun hS => ?_)
          clear hK K
          try simp only [Act.put, List.setIfInBounds_toArray, List.set_cons_zero, List.set_cons_succ]
          refine rg_at 8 (by decide) (fun oi hoi => ?_)
          have ho2 := hoi; simp only [List.getElem?_toArray, List.getElem?_cons_succ, List.getElem?_cons_zero, Option.some.injEq] at ho2; subst ho2
          refine rg_call 8 (by kernel_rfl) hoi (by rfl) (fun K hK => ?_)
          clear hoi
          refine wp_ap_sl 0 (.tmp 18) (.tmp 21) 38 30 (.agg #[.string ⟨#[]⟩, .int .u64 0, .int .i64 0, .slice none 0 0]) 4 56 (by rfl) Try.underlying38 lt_info rfl (by omega) (.slice A ps.length c) ps.length (pcells ps) (some ⟨w3.heap.size, 0, none⟩) 1 1 (cells x v3) (by rfl) (by rfl) (s3.alloc _) (Rd_lit w3 _ 4 1 (cells x v3) rfl) (cells_one hx3) (by omega) (by omega) (Nat.zero_le _) ?_
          intro A4 c4 w4 ho4 hg4 hat4
          have p4 := (k3.alloc _).upd hg4 (fun h => s3.ne k3 (by decide) h)
          have f4 := p4.free 0
          have c4' := p4.cell 0
          simp at c4'
          have b4 := (hbx3.alloc _).upd hg4 (fun h => by have := (hs.lt _ h).2; omega)
          refine hK.out _ _ ((by exact b4)) (fun hS => ?_)
          clear hK K
          try simp only [Act.put, List.setIfInBounds_toArray, List.set_cons_zero, List.set_cons_succ]
          refine rg_at 9 (by decide) (fun oi hoi => ?_)
          have ho2 := hoi; simp only [List.getElem?_toArray, List.getElem?_cons_succ, List.getElem?_cons_zero, Option.some.injEq] at ho2; subst ho2
          refine rg_take (v := ?_) 9 hoi (by kernel_rfl) (by kernel_rfl) (by kernel_rfl) (fun _ _ _ h => h) (by rfl) ?_ hS ?_
          rotate_left
          · intro w _; go_simp; try with_reducible rfl
          clear hoi; try simp only [Act.put, List.setIfInBounds_toArray, List.set_cons_zero, List.set_cons_succ]
          refine rg_at 10 (by decide) (fun oi hoi => ?_)
          have ho2 := hoi; simp only [List.getElem?_toArray, List.getElem?_cons_succ, List.getElem?_cons_zero, Option.some.injEq] at ho2; subst ho2
          refine rg_take (v := ?_) 10 hoi (by kernel_rfl) (by kernel_rfl) (by kernel_rfl) (fun _ _ _ h => h) (by rfl) ?_ hS ?_
          rotate_left
          · intro w _; go_simp; try with_reducible rfl
          clear hoi; try simp only [Act.put, List.setIfInBounds_toArray, List.set_cons_zero, List.set_cons_succ]
          refine rg_at 11 (by decide) (fun oi hoi => ?_)
          have ho2 := hoi; simp only [List.getElem?_toArray, List.getElem?_cons_succ, List.getElem?_cons_zero, Option.some.injEq] at ho2; subst ho2
          refine rg_call 11 (by kernel_rfl) hoi (by rfl) (fun K hK => ?_)
          clear hoi
          skip
          go_simp
          refine hK.out _ _ ((b4.far (by have := h4 _ h3; simp; omega) _)) (fun hS => ?_)
          clear hK K
          try simp only [Act.put, List.setIfInBounds_toArray, List.set_cons_zero, List.set_cons_succ]
          refine wpAnyH_done (by kernel_rfl) ?_ _
          have hRes := hid (Ir.pushed h1 hps hs hin hvF h3 h4 (hx3.upd ((Upd.refl No w3).alloc _) (fun _ _ => no_ _)) (fun k hk => ⟨by have := (hf3 k hk).1; have hz := hu12.size; simp at this; omega, (hf3 k hk).2.elim fun cs hB => ⟨cs, hB.alloc _⟩⟩) ((hu12.next hu3').alloc _) ho4 hg4 hat4 p4)
          go_wp2
          go_ret
          exact ⟨rfl, hRes.out⟩
        · refine rg_op_at 7 (by decide) (fun oi hoi => ?_)
          have ho2 := hoi; simp only [List.getElem?_toArray, List.getElem?_cons_succ, List.getElem?_cons_zero, Option.some.injEq] at ho2; subst ho2
          refine rg_step 7 hoi (by rfl) (fun K hK => ?_)
          clear hoi
          skip
          go_simp
          refine hK.out _ _ ((hbx3.alloc _)) (fun hS => ?_)
          clear hK K
          try simp only [Act.put, List.setIfInBounds_toArray, List.set_cons_zero, List.set_cons_succ]
          refine rg_at 4 (by decide) (fun oi hoi => ?_)
          have ho2 := hoi; simp only [List.getElem?_toArray, List.getElem?_cons_succ, List.getElem?_cons_zero, Option.some.injEq] at ho2; subst ho2
          refine rg_call 4 (by kernel_rfl) hoi (by rfl) (fun K hK => ?_)
          clear hoi
          skip
          go_simp
          refine hK.out _ _ ((by first | exact hb2.drew | exact hbx3 | exact hbx3.alloc _)) (fun hS => ?_)
          clear hK K
          try simp only [Act.put, List.setIfInBounds_toArray, List.set_cons_zero, List.set_cons_succ]
          refine rg_at 8 (by decide) (fun oi hoi => ?_)
          have ho2 := hoi; simp only [List.getElem?_toArray, List.getElem?_cons_succ, List.getElem?_cons_zero, Option.some.injEq] at ho2; subst ho2
          refine rg_call 8 (by kernel_rfl) hoi (by rfl) (fun K hK => ?_)
          clear hoi
          refine wp_ap_sl 0 (.tmp 18) (.tmp 21) 38 30 (.agg #[.string ⟨#[]⟩, .int .u64 0, .int .i64 0, .slice none 0 0]) 4 56 (by rfl) Try.underlying38 lt_info rfl (by omega) (.slice A ps.length c) ps.length (pcells ps) (some ⟨w3.heap.size, 0, none⟩) 1 1 (cells x v3) (by rfl) (by rfl) (s3.alloc _) (Rd_lit w3 _ 4 1 (cells x v3) rfl) (cells_one hx3) (by omega) (by omega) (Nat.zero_le _) ?_
          intro A4 c4 w4 ho4 hg4 hat4
          have p4 := (k3.alloc _).upd hg4 (fun h => s3.ne k3 (by decide) h)
          have f4 := p4.free 0
          have c4' := p4.cell 0
          simp at c4'
          have b4 := (hbx3.alloc _).upd hg4 (fun h => by have := (hs.lt _ h).2; omega)
          refine hK.out _ _ ((by exact b4)) (fun hS => ?_)
          clear hK K
          try simp only [Act.put, List.setIfInBounds_toArray, List.set_cons_zero, List.set_cons_succ]
          refine rg_at 9 (by decide) (fun oi hoi => ?_)
          have ho2 := hoi; simp only [List.getElem?_toArray, List.getElem?_cons_succ, List.getElem?_cons_zero, Option.some.injEq] at ho2; subst ho2
          refine rg_take (v := ?_) 9 hoi (by kernel_rfl) (by kernel_rfl) (by kernel_rfl) (fun _ _ _ h => h) (by rfl) ?_ hS ?_
          rotate_left
          · intro w _; go_simp; try with_reducible rfl
          clear hoi; try simp only [Act.put, List.setIfInBounds_toArray, List.set_cons_zero, List.set_cons_succ]
          refine rg_at 10 (by decide) (fun oi hoi => ?_)
          have ho2 := hoi; simp only [List.getElem?_toArray, List.getElem?_cons_succ, List.getElem?_cons_zero, Option.some.injEq] at ho2; subst ho2
          refine rg_take (v := ?_) 10 hoi (by kernel_rfl) (by kernel_rfl) (by kernel_rfl) (fun _ _ _ h => h) (by rfl) ?_ hS ?_
          rotate_left
          · intro w _; go_simp; try with_reducible rfl
          clear hoi; try simp only [Act.put, List.setIfInBounds_toArray, List.set_cons_zero, List.set_cons_succ]
          refine rg_at 11 (by decide) (fun oi hoi => ?_)
          have ho2 := hoi; simp only [List.getElem?_toArray, List.getElem?_cons_succ, List.getElem?_cons_zero, Option.some.injEq] at ho2; subst ho2
          refine rg_call 11 (by kernel_rfl) hoi (by rfl) (fun K hK => ?_)
          clear hoi
          skip
          go_simp
          refine hK.out _ _ ((b4.far (by have := h4 _ h3; simp; omega) _)) (fun hS => ?_)
          clear hK K
          try simp only [Act.put, List.setIfInBounds_toArray, List.set_cons_zero, List.set_cons_succ]
          refine wpAnyH_done (by kernel_rfl) ?_ _
          have hRes := hid (Ir.pushed h1 hps hs hin hvF h3 h4 (hx3.upd ((Upd.refl No w3).alloc _) (fun _ _ => no_ _)) (fun k hk => ⟨by have := (hf3 k hk).1; have hz := hu12.size; simp at this; omega, (hf3 k hk).2.elim fun cs hB => ⟨cs, hB.alloc _⟩⟩) ((hu12.next hu3').alloc _) ho4 hg4 hat4 p4)
          go_wp2
          go_ret
          exact ⟨rfl, hRes.out⟩
    · rw [if_neg h8]
      have h8' : (8 : Int) ≤ (ps.length : Int) := by omega
      go_enter Try.func14, Try.ntmps14
      go_wp2_with (fail)
      generalize w.alloc (.cells #[.string x.1, .int .u64 x.2.1, .int .i64 x.2.2.1, u] 30) = w1 at *
      unfold val at HF
      refine Calls.mono HF.out ?_
      rintro e w2 ⟨rfl, hu2⟩
      have hI2 := hid (hI1.out.upd hu2 (fun _ _ => no_ _))
      have k0 := (h1.upd (hu1.next hu2) (no_ _)).cell 0
      simp at k0
      go_wp2
      go_ret
      exact ⟨rfl, F, hI2.out, Mv.quiet ((hu1.next hu2).old (Nat.le_refl _))⟩
  · have hff : formed x = false := by simpa using hf
    rw [if_neg hf]
    rw [hff] at HF
    go_enter Try.func14, Try.ntmps14
    go_wp2_with (fail)
    generalize w.alloc (.cells #[.string x.1, .int .u64 x.2.1, .int .i64 x.2.2.1, u] 30) = w1 at *
    unfold val at HF
    refine Calls.mono HF.out ?_
    rintro e w2 ⟨rfl, hu2⟩
    have hI2 := hid (hI1.out.upd hu2 (fun _ _ => no_ _))
    go_wp2
    go_ret
    exact ⟨rfl, F, hI2.out, Mv.quiet ((hu1.next hu2).old (Nat.le_refl _))⟩
end Go.Proofs.Ytgbdpplnfcfhmaa.Ir
