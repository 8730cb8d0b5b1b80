/-
  The walk of reevelaw12.InboxPlays.
-/
import Derived.Test.YtgbdpplnfcfhmaaIo
set_option linter.unusedVariables false
set_option linter.unusedSimpArgs false
namespace Go.Proofs.Ytgbdpplnfcfhmaa.Ip
open Go.RowKit Go.Proofs.Ytgbdpplnfcfhmaa.B Go.Proofs.Ytgbdpplnfcfhmaa.Op Go.Proofs.Ytgbdpplnfcfhmaa.Lt Go.Proofs.Ytgbdpplnfcfhmaa.Ib Go.Proofs.Ytgbdpplnfcfhmaa.Ls Go.Proofs.Ytgbdpplnfcfhmaa.La Go.Proofs.Ytgbdpplnfcfhmaa.If Go.Proofs.Ytgbdpplnfcfhmaa.Im Go.Proofs.Ytgbdpplnfcfhmaa.Ir Go.Proofs.Ytgbdpplnfcfhmaa.Io
/-- Both inboxes hold xs. -/
structure Bt (w W : World) (F G : Nat → Prop) (p q : Nat) (xs : List L) : Prop where
  a : Ib W F p xs
  b : Ir W G q xs
  fg : ∀ k, F k → ¬ G k
  own : ∀ k, (F k ∨ G k) → w.heap.size ≤ k
  bel : Below w.heap.size w W
  ok : ∀ x ∈ xs, formed x = true
  le : xs.length ≤ 8
theorem pushL_ok {xs : List L} (x : L) (h : ∀ x ∈ xs, formed x = true) (hl : xs.length ≤ 8) : (∀ y ∈ (pushL xs x).2, formed y = true) ∧ (pushL xs x).2.length ≤ 8 := by
  unfold pushL
  split
  · rename_i hf
    split
    · refine ⟨fun y hy => ?_, by simp; omega⟩
      rcases List.mem_append.1 hy with hy | hy
      · exact h y hy
      · obtain rfl := List.mem_singleton.1 hy
        exact hf
    · exact ⟨h, hl⟩
  · exact ⟨h, hl⟩
theorem Bt.moved {w W W1 W2 : World} {F G F' G' : Nat → Prop} {p q : Nat} {xs ys : List L} (h : Bt w W F G p q xs) (ha : Ib W1 F' p ys) (hm : Mv F F' W W1) (hb : Ir W2 G' q ys) (hm2 : Mv G G' W1 W2) (ok : ∀ x ∈ ys, formed x = true) (le : ys.length ≤ 8) : Bt w W2 F' G' p q ys := by
  have hsz := h.bel.size
  have hsz1 := hm.upd.size
  have hF : ∀ k, F' k → ¬ G k := fun k hk hg => (hm.sub k hk).elim (fun hf => h.fg k hf hg) fun hn => by have := h.b.lt k hg; omega
  refine ⟨ha.upd hm2.upd hF, hb, fun k hk hg => (hm2.sub k hg).elim (hF k hk) fun hn => by have := ha.lt k hk; omega, fun k hk => ?_, (h.bel.trans (hm.upd.below hsz fun k hk => h.own k (.inl hk))).trans (hm2.upd.below (by omega) fun k hk => h.own k (.inr hk)), ok, le⟩
  rcases hk with hk | hk
  · exact (hm.sub k hk).elim (fun hf => h.own k (.inl hf)) fun hn => by omega
  · exact (hm2.sub k hk).elim (fun hg => h.own k (.inr hg)) fun hn => by omega
theorem Bt.quiet {w W W' : World} {F G : Nat → Prop} {p q : Nat} {xs : List L} (h : Bt w W F G p q xs) (hu : Upd No W W') : Bt w W' F G p q xs :=
  h.moved (h.a.upd hu fun _ _ => no_ _) (Mv.quiet (hu.old (Nat.le_refl _))) (h.b.upd hu fun _ _ => no_ _) (Mv.refl _ _) h.ok h.le
theorem Bt.small {w W : World} {F G : Nat → Prop} {p q : Nat} {xs : List L} (h : Bt w W F G p q xs) : (∀ z ∈ xs, z.2.2.2.length ≤ 1000000) ∧ xs.length ≤ 1000000 := ⟨fun z hz => by have := formed_args (h.ok z hz); omega, by have := h.le; omega⟩
theorem Ib.new {w : World} {o : Obj} (ho : o = .cells #[.slice none 0 0] 42) : Ib (w.alloc o) (fun k => k = w.heap.size) w.heap.size [] := by
  subst ho
  exact ⟨_, Blk.fresh _ _ _, ⟨[], rfl, Sl.nil _ _ _ _, fun x hx => (by cases hx), fun k hk => by simp [Value.ownBlock] at hk⟩, rfl, fun k hk => by subst hk; simp⟩
theorem Ir.new {w : World} {o : Obj} (ho : o = .cells #[.slice none 0 0] 40) : Ir (w.alloc o) (fun k => k = w.heap.size) w.heap.size [] := by
  subst ho
  exact ⟨_, Blk.fresh _ _ _, ⟨[], rfl, Sl.nil _ _ _ _, fun x hx => (by cases hx), fun k hk => by simp [Value.ownBlock] at hk⟩, rfl, fun k hk => by subst hk; simp⟩
theorem pop_ (p : Nat) (ys : List L) (F : Nat → Prop) (w : World) (h : Ib w F p ys) (hs : ∀ z ∈ ys, z.2.2.2.length ≤ 1000000) :
    Calls Try.prog 11 #[.pointer (some ⟨p, 0, none⟩)] w fun e w' => PopOut w F p (ys.headD zero) (!ys.isEmpty) ys.tail e w' := by
  cases ys with
  | nil => exact pop_none p F w h
  | cons x r => exact pop_some p x r F w h (hs x (by simp))
theorem rpop_ (q : Nat) (ys : List L) (F : Nat → Prop) (w : World) (h : Ir w F q ys) (hs : ys.length ≤ 1000000) :
    Calls Try.prog 15 #[.pointer (some ⟨q, 0, none⟩)] w fun e w' => RPop w F q (ys.headD zero) (!ys.isEmpty) ys.tail e w' := by
  cases ys with
  | nil => exact rpop_none q F w h
  | cons x r => exact rpop_some q x r F w h (by simp at hs; omega)
set_option maxHeartbeats 4000000 in
set_option maxRecDepth 100000 in
theorem law (A : Option Addr) (c : Nat) (xs : List Oi) (z : Bool) (w : World) (hr : Rd w 5 A xs.length (xs.flatMap ocells)) (hl : xs.length ≤ c ∧ c ≤ maxLen) (hin : ∀ x ∈ xs, In w x.2.1 x.2.2 ∧ x.2.1.1.size ≤ maxLen) :
    Calls Try.prog 4 #[.slice A xs.length c, .bool z] w fun e w' => e = .returned (.bool true) ∧ Below w.heap.size w w' := by
  simp only [maxLen] at hl
  have hn : xs.length ≤ 9223372036854775807 := by omega
  go_enter Try.func4, Try.ntmps4
  go_wp2_with (fail)
  refine (awake w).mono ?_
  rintro e w1 ⟨rfl, hb1⟩
  go_wp2_with (fail)
  refine (few A c xs w1 (Rd.below hr (by omega) hb1) hn (fun x hx => ⟨In.below (hin x hx).1 hb1, (hin x hx).2⟩)).mono ?_
  rintro e w1' ⟨b, rfl, rfl, hfew⟩
  cases b
  · clear hfew
    go_wp2_with (fail)
    refine (awake w1).mono ?_
    rintro e w2 ⟨rfl, hb2⟩
    go_wp2
    go_ret
    exact ⟨rfl, hb1.trans (hb2.mono hb1.size)⟩
  · replace hfew := hfew rfl
    go_wp2_with (fail)
    refine (new_ w1).mono ?_
    rintro e w2 ⟨rfl, hIa, hu2⟩
    cases z
    · have HS0 : Hid (∃ (F0 G0 : Nat → Prop) (p q : Nat), Bt w (w2.alloc (.cells #[.slice none 0 0] 40)) F0 G0 p q [] ∧ w1.heap.size = p ∧ w2.heap.size = q) :=
        hid ⟨_, _, _, _, ⟨hIa.upd ((Upd.refl No w2).alloc _) (fun _ _ => no_ _), Ir.new rfl, fun k hk hg => by have := hIa.lt k hk; omega, fun k hk => by
          have h1 := hb1.size
          have h2 := hu2.size
          rcases hk with hk | hk <;> omega, (hb1.trans (hu2.old hb1.size)).trans (((Upd.refl No w2).alloc _).old (Nat.le_trans hb1.size hu2.size)), fun x hx => (by cases hx), by simp⟩, rfl, rfl⟩
      clear hIa hu2 hb1
      go_wp2_with (fail)
      generalize w2.alloc (.cells #[.slice none 0 0] 40) = w3 at *
      obtain ⟨F0, G0, p, q, hS, hp, hq⟩ := HS0.out
      rw [hp, hq]
      clear hp hq
      go_loopw [28] (fun v28 W => ∃ (j : Nat) (F G : Nat → Prop) (ys : List L), j ≤ xs.length ∧ v28 = .int .i64 j ∧ Hid (Bt w W F G p q ys)) (fun v28 _ => xs.length - (intOf v28).toNat)
      case atStart => exact ⟨0, F0, G0, [], by omega, rfl, hid hS⟩
      case round =>
        clear hS F0 G0
        obtain ⟨j, F, G, ys, hj, rfl, hH⟩ := hrel
        by_cases hlt : j < xs.length
        · obtain ⟨ad, rfl, x0, x1, x2, x3, x4⟩ := op_at hr hlt
          have hi := (hin _ (List.getElem_mem hlt)).1
          have hsm := hfew _ (List.getElem_mem hlt)
          generalize xs[j] = y at *
          obtain ⟨k, x, u⟩ := y
          simp only at x0 x1 x2 x3 x4 hi hsm
          have hi' := hi
          obtain ⟨Au, cu, hue, _, hq1, hq2⟩ := hi'
          subst hue
          have cel : ∀ W, Below w.heap.size w W → ∀ {a : Addr} {z : Value}, w.cell? a = some z → W.cell? a = some z := fun W hb a z hz => (World.cell?_of_block (w := w) (hb.block _ (World.block_lt_of_cell? _ _ hz))).trans hz
          have CE : Hid (∀ W, Below w.heap.size w W → W.cell? (ad.add (j * 5)) = some (.int .i64 k) ∧ (W.cell? ⟨(ad.add (j * 5)).block, (ad.add (j * 5)).off + 1, none⟩ = some (.string x.1) ∧ W.cell? ⟨(ad.add (j * 5)).block, (ad.add (j * 5)).off + 2, none⟩ = some (.int .u64 x.2.1) ∧ W.cell? ⟨(ad.add (j * 5)).block, (ad.add (j * 5)).off + 3, none⟩ = some (.int .i64 x.2.2.1) ∧ W.cell? ⟨(ad.add (j * 5)).block, (ad.add (j * 5)).off + 4, none⟩ = some (.slice Au x.2.2.2.length cu)) ∧ In W x (.slice Au x.2.2.2.length cu)) := hid fun W hb =>
            ⟨cel W hb x0, ⟨cel W hb x1, cel W hb x2, cel W hb x3, cel W hb x4⟩, In.below hi hb⟩
          have hj1 : (0 : Int) ≤ (j : Int) := by omega
          have hj2 : (j : Int) < (xs.length : Int) := by omega
          clear x0 x1 x2 x3 x4 hi cel
          obtain ⟨y0, _, _⟩ := CE.out wr hH.out.bel
          by_cases hk1 : k = 1
          · subst hk1
            obtain ⟨hok', hle'⟩ := pushL_ok x hH.out.ok hH.out.le
            have hP := push p ys F x (.slice Au x.2.2.2.length cu) wr.drew hH.out.a.drew (CE.out _ (below_drew hH.out.bel)).2.2
            have hPR := fun W (hb : Ir W G q ys) (hi : In W x (.slice Au x.2.2.2.length cu)) => rpush q ys G x (.slice Au x.2.2.2.length cu) W hb hi
            generalize pushL ys x = pl at *
            obtain ⟨cd, zs⟩ := pl
            simp only at hok' hle' hP hPR
            unfold val at hP
            have HP := hid hP
            have HPR := hid hPR
            have HOK := hid (And.intro hok' hle')
            clear hP hPR hok' hle'
            go_wp2_with (fail)
            refine wp_region_held_drew (S := fun W => Below w.heap.size w W) (by kernel_rfl) (below_drew hH.out.bel) (fun hS => ?_)
            refine rg_at 0 (by decide) (fun oi hoi => ?_)
            have ho2 := hoi; simp only [List.getElem?_toArray, List.getElem?_cons_succ, List.getElem?_cons_zero, Option.some.injEq] at ho2; subst ho2
            refine rg_take (v := ?_) 0 hoi (by kernel_rfl) (by kernel_rfl) (by kernel_rfl) (fun _ _ _ h => h) (by rfl) ?_ hS ?_
            rotate_left
            · intro w _; go_simp; try with_reducible rfl
            clear hoi; try simp only [Act.put, List.setIfInBounds_toArray, List.set_cons_zero, List.set_cons_succ]
            refine rg_at 1 (by decide) (fun oi hoi => ?_)
            have ho2 := hoi; simp only [List.getElem?_toArray, List.getElem?_cons_succ, List.getElem?_cons_zero, Option.some.injEq] at ho2; subst ho2
            refine rg_take (v := ?_) 1 hoi (by kernel_rfl) (by kernel_rfl) (by kernel_rfl) (fun _ _ _ h => h) (by rfl) ?_ hS ?_
            rotate_left
            · intro w _; go_simp; try with_reducible rfl
            clear hoi; try simp only [Act.put, List.setIfInBounds_toArray, List.set_cons_zero, List.set_cons_succ]
            refine rg_at 2 (by decide) (fun oi hoi => ?_)
            have ho2 := hoi; simp only [List.getElem?_toArray, List.getElem?_cons_succ, List.getElem?_cons_zero, Option.some.injEq] at ho2; subst ho2
            refine rg_take (v := ?_) 2 hoi (by kernel_rfl) (by kernel_rfl) (by kernel_rfl) (fun _ _ _ h => h) (by rfl) ?_ hS ?_
            rotate_left
            · intro w _; go_simp; try with_reducible rfl
            clear hoi; try simp only [Act.put, List.setIfInBounds_toArray, List.set_cons_zero, List.set_cons_succ]
            refine rg_at 3 (by decide) (fun oi hoi => ?_)
            have ho2 := hoi; simp only [List.getElem?_toArray, List.getElem?_cons_succ, List.getElem?_cons_zero, Option.some.injEq] at ho2; subst ho2
            refine rg_take (v := ?_) 3 hoi (by kernel_rfl) (by kernel_rfl) (by kernel_rfl) (fun _ _ _ h => h) (by rfl) ?_ hS ?_
            rotate_left
            · intro w _; go_simp; try with_reducible rfl
            clear hoi; try simp only [Act.put, List.setIfInBounds_toArray, List.set_cons_zero, List.set_cons_succ]
            refine rg_at 4 (by decide) (fun oi hoi => ?_)
            have ho2 := hoi; simp only [List.getElem?_toArray, List.getElem?_cons_succ, List.getElem?_cons_zero, Option.some.injEq] at ho2; subst ho2
            refine rg_take (v := ?_) 4 hoi (by kernel_rfl) (by kernel_rfl) (by kernel_rfl) (fun _ _ _ h => h) (by rfl) ?_ hS ?_
            rotate_left
            · intro w _; go_simp; try with_reducible rfl
            clear hoi; try simp only [Act.put, List.setIfInBounds_toArray, List.set_cons_zero, List.set_cons_succ]
            refine rg_at 5 (by decide) (fun oi hoi => ?_)
            have ho2 := hoi; simp only [List.getElem?_toArray, List.getElem?_cons_succ, List.getElem?_cons_zero, Option.some.injEq] at ho2; subst ho2
            refine rg_take (v := ?_) 5 hoi (by kernel_rfl) (by kernel_rfl) (by kernel_rfl) (fun _ _ _ h => h) (by rfl) ?_ hS ?_
            rotate_left
            · intro w hw; have hf := (CE.out w hw).2.1; clear hw; go_simp; try with_reducible rfl
            clear hoi; try simp only [Act.put, List.setIfInBounds_toArray, List.set_cons_zero, List.set_cons_succ]
            refine rg_at 7 (by decide) (fun oi hoi => ?_)
            have ho2 := hoi; simp only [List.getElem?_toArray, List.getElem?_cons_succ, List.getElem?_cons_zero, Option.some.injEq] at ho2; subst ho2
            refine rg_take (v := ?_) 7 hoi (by kernel_rfl) (by kernel_rfl) (by kernel_rfl) (fun _ _ _ h => h) (by rfl) ?_ hS ?_
            rotate_left
            · intro w _; go_simp; try with_reducible rfl
            clear hoi; try simp only [Act.put, List.setIfInBounds_toArray, List.set_cons_zero, List.set_cons_succ]
            refine rg_at 8 (by decide) (fun oi hoi => ?_)
            have ho2 := hoi; simp only [List.getElem?_toArray, List.getElem?_cons_succ, List.getElem?_cons_zero, Option.some.injEq] at ho2; subst ho2
            refine rg_take (v := ?_) 8 hoi (by kernel_rfl) (by kernel_rfl) (by kernel_rfl) (fun _ _ _ h => h) (by rfl) ?_ hS ?_
            rotate_left
            · intro w _; go_simp; try with_reducible rfl
            clear hoi; try simp only [Act.put, List.setIfInBounds_toArray, List.set_cons_zero, List.set_cons_succ]
            refine rg_at 9 (by decide) (fun oi hoi => ?_)
            have ho2 := hoi; simp only [List.getElem?_toArray, List.getElem?_cons_succ, List.getElem?_cons_zero, Option.some.injEq] at ho2; subst ho2
            refine rg_take (v := ?_) 9 hoi (by kernel_rfl) (by kernel_rfl) (by kernel_rfl) (fun _ _ _ h => h) (by rfl) ?_ hS ?_
            rotate_left
            · intro w _; go_simp; try with_reducible rfl
            clear hoi; try simp only [Act.put, List.setIfInBounds_toArray, List.set_cons_zero, List.set_cons_succ]
            refine rg_at 10 (by decide) (fun oi hoi => ?_)
            have ho2 := hoi; simp only [List.getElem?_toArray, List.getElem?_cons_succ, List.getElem?_cons_zero, Option.some.injEq] at ho2; subst ho2
            refine rg_take (v := ?_) 10 hoi (by kernel_rfl) (by kernel_rfl) (by kernel_rfl) (fun _ _ _ h => h) (by rfl) ?_ hS ?_
            rotate_left
            · intro w _; go_simp; try with_reducible rfl
            clear hoi; try simp only [Act.put, List.setIfInBounds_toArray, List.set_cons_zero, List.set_cons_succ]
            refine rg_at 11 (by decide) (fun oi hoi => ?_)
            have ho2 := hoi; simp only [List.getElem?_toArray, List.getElem?_cons_succ, List.getElem?_cons_zero, Option.some.injEq] at ho2; subst ho2
            refine rg_take (v := ?_) 11 hoi (by kernel_rfl) (by kernel_rfl) (by kernel_rfl) (fun _ _ _ h => h) (by rfl) ?_ hS ?_
            rotate_left
            · intro w _; go_simp; try with_reducible rfl
            clear hoi; try simp only [Act.put, List.setIfInBounds_toArray, List.set_cons_zero, List.set_cons_succ]
            refine rg_at 12 (by decide) (fun oi hoi => ?_)
            have ho2 := hoi; simp only [List.getElem?_toArray, List.getElem?_cons_succ, List.getElem?_cons_zero, Option.some.injEq] at ho2; subst ho2
            refine rg_take (v := ?_) 12 hoi (by kernel_rfl) (by kernel_rfl) (by kernel_rfl) (fun _ _ _ h => h) (by rfl) ?_ hS ?_
            rotate_left
            · intro w hw; have hf := (CE.out w hw).2.1; clear hw; go_simp; try with_reducible rfl
            clear hoi; try simp only [Act.put, List.setIfInBounds_toArray, List.set_cons_zero, List.set_cons_succ]
            refine rg_at 6 (by decide) (fun oi hoi => ?_)
            have ho2 := hoi; simp only [List.getElem?_toArray, List.getElem?_cons_succ, List.getElem?_cons_zero, Option.some.injEq] at ho2; subst ho2
            refine rg_call 6 (by kernel_rfl) hoi (by rfl) (fun K hK => ?_)
            clear hoi
            go_simp
            refine Calls.mono HP.out ?_
            rintro e w5 ⟨rfl, F5, hI5, hm5⟩
            have hS5 := (below_drew hH.out.bel).trans (hm5.upd.below hH.out.bel.size fun k hk => hH.out.own k (.inl hk))
            go_wp2_with (fail)
            refine hK.out _ _ (hS5) (fun hS => ?_)
            clear hK K
            try simp only [Act.put, List.setIfInBounds_toArray, List.set_cons_zero, List.set_cons_succ]
            refine rg_at 13 (by decide) (fun oi hoi => ?_)
            have ho2 := hoi; simp only [List.getElem?_toArray, List.getElem?_cons_succ, List.getElem?_cons_zero, Option.some.injEq] at ho2; subst ho2
            refine rg_call 13 (by kernel_rfl) hoi (by rfl) (fun K hK => ?_)
            clear hoi
            go_simp
            have hpr := HPR.out _ (hH.out.b.upd (F := G) (G := F) (Upd.of_drew hm5.upd) (fun k hk hf => hH.out.fg k hf hk)) (CE.out _ hS5).2.2
            unfold val at hpr
            refine Calls.mono hpr ?_
            rintro e w6 ⟨rfl, G6, hR6, hm6⟩
            have hBt := hH.out.moved hI5 ⟨Upd.of_drew hm5.upd, hm5.sub⟩ hR6 hm6 HOK.out.1 HOK.out.2
            go_wp2_with (fail)
            refine hK.out _ _ (hBt.bel) (fun hS => ?_)
            clear hK K
            try simp only [Act.put, List.setIfInBounds_toArray, List.set_cons_zero, List.set_cons_succ]
            refine rg_at 14 (by decide) (fun oi hoi => ?_)
            have ho2 := hoi; simp only [List.getElem?_toArray, List.getElem?_cons_succ, List.getElem?_cons_zero, Option.some.injEq] at ho2; subst ho2
            refine rg_take (v := ?_) 14 hoi (by kernel_rfl) (by kernel_rfl) (by kernel_rfl) (fun _ _ _ h => h) (by rfl) ?_ hS ?_
            rotate_left
            · intro w _; go_simp; try with_reducible rfl
            clear hoi; try simp only [Act.put, List.setIfInBounds_toArray, List.set_cons_zero, List.set_cons_succ]
            refine wpAnyH_done (by kernel_rfl) ?_ _
            have HB := hid hBt
            clear hBt hI5 hm5 hS5 hR6 hm6 y0
            have HSM := hid (same p q F5 G6 zs w6 HB.out.a HB.out.b HB.out.small.1 HB.out.small.2)
            go_wp2_with (fail)
            refine Calls.mono HSM.out ?_
            rintro e w7 ⟨rfl, hu7⟩
            have HE := hid (HB.out.quiet hu7)
            clear hu7
            go_wp2
            go_roundw
            case rel => exact ⟨j + 1, F5, G6, zs, by omega, by go_num, HE⟩
            case measure => simp [intOf]; omega
          · have n1 : (k == 1) = false := by simp [hk1]
            by_cases hk2 : k = 2
            · subst hk2
              clear hk1 n1
              have hP := pop_ p ys F wr hH.out.a hH.out.small.1
              have hPR := fun W (hb : Ir W G q ys) => rpop_ q ys G W hb hH.out.small.2
              have hok' : ∀ y ∈ ys.tail, formed y = true := fun y hy => hH.out.ok y (List.mem_of_mem_tail hy)
              have hle' : ys.tail.length ≤ 8 := by have := hH.out.le; simp; omega
              generalize ys.headD zero = z at *
              generalize (!ys.isEmpty) = bb at *
              generalize ys.tail = tl at *
              have HP := hid hP
              have HPR := hid hPR
              have HOK := hid (And.intro hok' hle')
              clear hP hPR hok' hle'
              go_wp2_with (fail)
              refine Calls.mono HP.out ?_
              rintro e w3 ⟨v, rfl, hv, hI3, hu3, hf3⟩
              have hv' := hv
              obtain ⟨A3, c3, rfl, _⟩ := hv'
              simp only [val]
              have hal3 : Upd No w3 (w3.alloc (.cells #[.string z.1, .int .u64 z.2.1, .int .i64 z.2.2.1, .slice A3 z.2.2.2.length c3] 30)) := (Upd.refl _ _).alloc _
              have hbx3 := Blk.fresh w3 30 #[.string z.1, .int .u64 z.2.1, .int .i64 z.2.2.1, .slice A3 z.2.2.2.length c3]
              have hR4 := (hH.out.b.upd hu3 (fun k hk hf => hH.out.fg k hf hk)).upd hal3 (fun _ _ => no_ _)
              have hGl := hH.out.b.lt
              have hz3 := hu3.size
              have HPR2 := hid (HPR.out _ hR4)
              clear hR4
              go_wp2_with (fail)
              generalize w3.alloc (.cells #[.string z.1, .int .u64 z.2.1, .int .i64 z.2.2.1, .slice A3 z.2.2.2.length c3] 30) = w4 at *
              refine Calls.mono HPR2.out ?_
              rintro e w5 ⟨v', rfl, hv5, G5, hR5, hm5⟩
              have hv5' := hv5
              obtain ⟨A5, c5, rfl, _⟩ := hv5'
              simp only [val]
              have hal5 : Upd No w5 (w5.alloc (.cells #[.string z.1, .int .u64 z.2.1, .int .i64 z.2.2.1, .slice A5 z.2.2.2.length c5] 30)) := (Upd.refl _ _).alloc _
              have hbx5 := Blk.fresh w5 30 #[.string z.1, .int .u64 z.2.1, .int .i64 z.2.2.1, .slice A5 z.2.2.2.length c5]
              have hbx6 := (hbx3.upd hm5.upd (fun hk => by have := hGl _ hk; omega)).upd hal5 (no_ _)
              have hv6 := ((hv.upd hal3 (fun _ _ => no_ _)).upd hm5.upd (fun k hk hg => by have h1 := hGl k hg; have h2 := (hf3 k hk).1; omega)).upd hal5 (fun _ _ => no_ _)
              have hv7 := hv5.upd hal5 (fun _ _ => no_ _)
              have HB := hid (hH.out.moved hI3 ⟨hu3, fun k h => .inl h⟩ (hR5.upd hal5 (fun _ _ => no_ _)) ((Mv.trans (Mv.quiet (hal3.old (Nat.le_refl _))) hm5).trans (Mv.quiet (hal5.old (Nat.le_refl _)))) HOK.out.1 HOK.out.2)
              obtain ⟨a0, a1, a2, a3⟩ := box hbx6
              obtain ⟨b0, b1, b2, b3⟩ := box hbx5
              have HC := hid (same_ z z _ _ _ hv6 hv7)
              simp only [val, decide_true] at HC
              clear hv hI3 hu3 hf3 hal3 hbx3 hv5 hR5 hm5 hal5 hbx5 hbx6 hv6 hv7 HP HPR HPR2
              go_wp2_with (fail)
              generalize w5.alloc (.cells #[.string z.1, .int .u64 z.2.1, .int .i64 z.2.2.1, .slice A5 z.2.2.2.length c5] 30) = w6 at *
              refine Calls.mono HC.out ?_
              rintro e w7 ⟨rfl, hu7⟩
              have HB7 := hid (HB.out.quiet hu7)
              have HSM := hid (same p q F G5 tl w7 HB7.out.a HB7.out.b HB7.out.small.1 HB7.out.small.2)
              clear hu7 a0 a1 a2 a3 b0 b1 b2 b3
              go_wp2_with (fail)
              refine Calls.mono HSM.out ?_
              rintro e w8 ⟨rfl, hu8⟩
              have HE := hid (HB7.out.quiet hu8)
              clear hu8
              go_wp2
              go_roundw
              case rel => exact ⟨j + 1, F, G5, tl, by omega, by go_num, HE⟩
              case measure => simp [intOf]; omega
            · have n2 : (k == 2) = false := by simp [hk2]
              clear hk1 hk2
              have HSM := hid (same p q F G ys wr hH.out.a hH.out.b hH.out.small.1 hH.out.small.2)
              go_wp2_with (fail)
              refine Calls.mono HSM.out ?_
              rintro e w7 ⟨rfl, hu7⟩
              have HE := hid (hH.out.quiet hu7)
              clear hu7
              go_wp2
              go_roundw
              case rel => exact ⟨j + 1, F, G, ys, by omega, by go_num, HE⟩
              case measure => simp [intOf]; omega
        · obtain rfl : j = xs.length := by omega
          have hbel := hH.out.bel
          go_wp2
          go_ret
          exact ⟨rfl, hbel⟩
    · have HS0 : Hid (∃ (F0 G0 : Nat → Prop) (p q : Nat), Bt w ((w2.alloc (.cells #[.slice none 0 0] 40)).alloc (.cells #[.slice none 0 0] 42)) F0 G0 p q [] ∧ w2.heap.size + 1 = p ∧ w2.heap.size = q) :=
        hid ⟨fun k => k = w2.heap.size + 1, fun k => k = w2.heap.size, _, _, ⟨by
            have := Ib.new (w := w2.alloc (.cells #[.slice none 0 0] 40)) rfl
            simpa using this, (Ir.new rfl).upd ((Upd.refl No _).alloc _) (fun _ _ => no_ _), fun k hk hg => by omega, fun k hk => by
          have h1 := hb1.size
          have h2 := hu2.size
          rcases hk with hk | hk <;> omega, (hb1.trans (hu2.old hb1.size)).trans ((((Upd.refl No w2).alloc _).alloc _).old (Nat.le_trans hb1.size hu2.size)), fun x hx => (by cases hx), by simp⟩, rfl, rfl⟩
      clear hIa hu2 hb1
      go_wp2_with (fail)
      generalize (w2.alloc (.cells #[.slice none 0 0] 40)).alloc (.cells #[.slice none 0 0] 42) = w3 at *
      obtain ⟨F0, G0, p, q, hS, hp, hq⟩ := HS0.out
      rw [hp, hq]
      clear hp hq
      go_loopw [28] (fun v28 W => ∃ (j : Nat) (F G : Nat → Prop) (ys : List L), j ≤ xs.length ∧ v28 = .int .i64 j ∧ Hid (Bt w W F G p q ys)) (fun v28 _ => xs.length - (intOf v28).toNat)
      case atStart => exact ⟨0, F0, G0, [], by omega, rfl, hid hS⟩
      case round =>
        clear hS F0 G0
        obtain ⟨j, F, G, ys, hj, rfl, hH⟩ := hrel
        by_cases hlt : j < xs.length
        · obtain ⟨ad, rfl, x0, x1, x2, x3, x4⟩ := op_at hr hlt
          have hi := (hin _ (List.getElem_mem hlt)).1
          have hsm := hfew _ (List.getElem_mem hlt)
          generalize xs[j] = y at *
          obtain ⟨k, x, u⟩ := y
          simp only at x0 x1 x2 x3 x4 hi hsm
          have hi' := hi
          obtain ⟨Au, cu, hue, _, hq1, hq2⟩ := hi'
          subst hue
          have cel : ∀ W, Below w.heap.size w W → ∀ {a : Addr} {z : Value}, w.cell? a = some z → W.cell? a = some z := fun W hb a z hz => (World.cell?_of_block (w := w) (hb.block _ (World.block_lt_of_cell? _ _ hz))).trans hz
          have CE : Hid (∀ W, Below w.heap.size w W → W.cell? (ad.add (j * 5)) = some (.int .i64 k) ∧ (W.cell? ⟨(ad.add (j * 5)).block, (ad.add (j * 5)).off + 1, none⟩ = some (.string x.1) ∧ W.cell? ⟨(ad.add (j * 5)).block, (ad.add (j * 5)).off + 2, none⟩ = some (.int .u64 x.2.1) ∧ W.cell? ⟨(ad.add (j * 5)).block, (ad.add (j * 5)).off + 3, none⟩ = some (.int .i64 x.2.2.1) ∧ W.cell? ⟨(ad.add (j * 5)).block, (ad.add (j * 5)).off + 4, none⟩ = some (.slice Au x.2.2.2.length cu)) ∧ In W x (.slice Au x.2.2.2.length cu)) := hid fun W hb =>
            ⟨cel W hb x0, ⟨cel W hb x1, cel W hb x2, cel W hb x3, cel W hb x4⟩, In.below hi hb⟩
          have hj1 : (0 : Int) ≤ (j : Int) := by omega
          have hj2 : (j : Int) < (xs.length : Int) := by omega
          clear x0 x1 x2 x3 x4 hi cel
          obtain ⟨y0, _, _⟩ := CE.out wr hH.out.bel
          by_cases hk1 : k = 1
          · subst hk1
            obtain ⟨hok', hle'⟩ := pushL_ok x hH.out.ok hH.out.le
            have hP := push p ys F x (.slice Au x.2.2.2.length cu) wr.drew hH.out.a.drew (CE.out _ (below_drew hH.out.bel)).2.2
            have hPR := fun W (hb : Ir W G q ys) (hi : In W x (.slice Au x.2.2.2.length cu)) => rpush q ys G x (.slice Au x.2.2.2.length cu) W hb hi
            generalize pushL ys x = pl at *
            obtain ⟨cd, zs⟩ := pl
            simp only at hok' hle' hP hPR
            unfold val at hP
            have HP := hid hP
            have HPR := hid hPR
            have HOK := hid (And.intro hok' hle')
            clear hP hPR hok' hle'
            go_wp2_with (fail)
            refine wp_region_held_drew (S := fun W => Below w.heap.size w W) (by kernel_rfl) (below_drew hH.out.bel) (fun hS => ?_)
            refine rg_at 0 (by decide) (fun oi hoi => ?_)
            have ho2 := hoi; simp only [List.getElem?_toArray, List.getElem?_cons_succ, List.getElem?_cons_zero, Option.some.injEq] at ho2; subst ho2
            refine rg_take (v := ?_) 0 hoi (by kernel_rfl) (by kernel_rfl) (by kernel_rfl) (fun _ _ _ h => h) (by rfl) ?_ hS ?_
            rotate_left
            · intro w _; go_simp; try with_reducible rfl
            clear hoi; try simp only [Act.put, List.setIfInBounds_toArray, List.set_cons_zero, List.set_cons_succ]
            refine rg_at 1 (by decide) (fun oi hoi => ?_)
            have ho2 := hoi; simp only [List.getElem?_toArray, List.getElem?_cons_succ, List.getElem?_cons_zero, Option.some.injEq] at ho2; subst ho2
            refine rg_take (v := ?_) 1 hoi (by kernel_rfl) (by kernel_rfl) (by kernel_rfl) (fun _ _ _ h => h) (by rfl) ?_ hS ?_
            rotate_left
            · intro w _; go_simp; try with_reducible rfl
            clear hoi; try simp only [Act.put, List.setIfInBounds_toArray, List.set_cons_zero, List.set_cons_succ]
            refine rg_at 2 (by decide) (fun oi hoi => ?_)
            have ho2 := hoi; simp only [List.getElem?_toArray, List.getElem?_cons_succ, List.getElem?_cons_zero, Option.some.injEq] at ho2; subst ho2
            refine rg_take (v := ?_) 2 hoi (by kernel_rfl) (by kernel_rfl) (by kernel_rfl) (fun _ _ _ h => h) (by rfl) ?_ hS ?_
            rotate_left
            · intro w _; go_simp; try with_reducible rfl
            clear hoi; try simp only [Act.put, List.setIfInBounds_toArray, List.set_cons_zero, List.set_cons_succ]
            refine rg_at 3 (by decide) (fun oi hoi => ?_)
            have ho2 := hoi; simp only [List.getElem?_toArray, List.getElem?_cons_succ, List.getElem?_cons_zero, Option.some.injEq] at ho2; subst ho2
            refine rg_take (v := ?_) 3 hoi (by kernel_rfl) (by kernel_rfl) (by kernel_rfl) (fun _ _ _ h => h) (by rfl) ?_ hS ?_
            rotate_left
            · intro w _; go_simp; try with_reducible rfl
            clear hoi; try simp only [Act.put, List.setIfInBounds_toArray, List.set_cons_zero, List.set_cons_succ]
            refine rg_at 4 (by decide) (fun oi hoi => ?_)
            have ho2 := hoi; simp only [List.getElem?_toArray, List.getElem?_cons_succ, List.getElem?_cons_zero, Option.some.injEq] at ho2; subst ho2
            refine rg_take (v := ?_) 4 hoi (by kernel_rfl) (by kernel_rfl) (by kernel_rfl) (fun _ _ _ h => h) (by rfl) ?_ hS ?_
            rotate_left
            · intro w _; go_simp; try with_reducible rfl
            clear hoi; try simp only [Act.put, List.setIfInBounds_toArray, List.set_cons_zero, List.set_cons_succ]
            refine rg_at 5 (by decide) (fun oi hoi => ?_)
            have ho2 := hoi; simp only [List.getElem?_toArray, List.getElem?_cons_succ, List.getElem?_cons_zero, Option.some.injEq] at ho2; subst ho2
            refine rg_take (v := ?_) 5 hoi (by kernel_rfl) (by kernel_rfl) (by kernel_rfl) (fun _ _ _ h => h) (by rfl) ?_ hS ?_
            rotate_left
            · intro w hw; have hf := (CE.out w hw).2.1; clear hw; go_simp; try with_reducible rfl
            clear hoi; try simp only [Act.put, List.setIfInBounds_toArray, List.set_cons_zero, List.set_cons_succ]
            refine rg_at 7 (by decide) (fun oi hoi => ?_)
            have ho2 := hoi; simp only [List.getElem?_toArray, List.getElem?_cons_succ, List.getElem?_cons_zero, Option.some.injEq] at ho2; subst ho2
            refine rg_take (v := ?_) 7 hoi (by kernel_rfl) (by kernel_rfl) (by kernel_rfl) (fun _ _ _ h => h) (by rfl) ?_ hS ?_
            rotate_left
            · intro w _; go_simp; try with_reducible rfl
            clear hoi; try simp only [Act.put, List.setIfInBounds_toArray, List.set_cons_zero, List.set_cons_succ]
            refine rg_at 8 (by decide) (fun oi hoi => ?_)
            have ho2 := hoi; simp only [List.getElem?_toArray, List.getElem?_cons_succ, List.getElem?_cons_zero, Option.some.injEq] at ho2; subst ho2
            refine rg_take (v := ?_) 8 hoi (by kernel_rfl) (by kernel_rfl) (by kernel_rfl) (fun _ _ _ h => h) (by rfl) ?_ hS ?_
            rotate_left
            · intro w _; go_simp; try with_reducible rfl
            clear hoi; try simp only [Act.put, List.setIfInBounds_toArray, List.set_cons_zero, List.set_cons_succ]
            refine rg_at 9 (by decide) (fun oi hoi => ?_)
            have ho2 := hoi; simp only [List.getElem?_toArray, List.getElem?_cons_succ, List.getElem?_cons_zero, Option.some.injEq] at ho2; subst ho2
            refine rg_take (v := ?_) 9 hoi (by kernel_rfl) (by kernel_rfl) (by kernel_rfl) (fun _ _ _ h => h) (by rfl) ?_ hS ?_
            rotate_left
            · intro w _; go_simp; try with_reducible rfl
            clear hoi; try simp only [Act.put, List.setIfInBounds_toArray, List.set_cons_zero, List.set_cons_succ]
            refine rg_at 10 (by decide) (fun oi hoi => ?_)
            have ho2 := hoi; simp only [List.getElem?_toArray, List.getElem?_cons_succ, List.getElem?_cons_zero, Option.some.injEq] at ho2; subst ho2
            refine rg_take (v := ?_) 10 hoi (by kernel_rfl) (by kernel_rfl) (by kernel_rfl) (fun _ _ _ h => h) (by rfl) ?_ hS ?_
            rotate_left
            · intro w _; go_simp; try with_reducible rfl
            clear hoi; try simp only [Act.put, List.setIfInBounds_toArray, List.set_cons_zero, List.set_cons_succ]
            refine rg_at 11 (by decide) (fun oi hoi => ?_)
            have ho2 := hoi; simp only [List.getElem?_toArray, List.getElem?_cons_succ, List.getElem?_cons_zero, Option.some.injEq] at ho2; subst ho2
            refine rg_take (v := ?_) 11 hoi (by kernel_rfl) (by kernel_rfl) (by kernel_rfl) (fun _ _ _ h => h) (by rfl) ?_ hS ?_
            rotate_left
            · intro w _; go_simp; try with_reducible rfl
            clear hoi; try simp only [Act.put, List.setIfInBounds_toArray, List.set_cons_zero, List.set_cons_succ]
            refine rg_at 12 (by decide) (fun oi hoi => ?_)
            have ho2 := hoi; simp only [List.getElem?_toArray, List.getElem?_cons_succ, List.getElem?_cons_zero, Option.some.injEq] at ho2; subst ho2
            refine rg_take (v := ?_) 12 hoi (by kernel_rfl) (by kernel_rfl) (by kernel_rfl) (fun _ _ _ h => h) (by rfl) ?_ hS ?_
            rotate_left
            · intro w hw; have hf := (CE.out w hw).2.1; clear hw; go_simp; try with_reducible rfl
            clear hoi; try simp only [Act.put, List.setIfInBounds_toArray, List.set_cons_zero, List.set_cons_succ]
            refine rg_at 6 (by decide) (fun oi hoi => ?_)
            have ho2 := hoi; simp only [List.getElem?_toArray, List.getElem?_cons_succ, List.getElem?_cons_zero, Option.some.injEq] at ho2; subst ho2
            refine rg_call 6 (by kernel_rfl) hoi (by rfl) (fun K hK => ?_)
            clear hoi
            go_simp
            refine Calls.mono HP.out ?_
            rintro e w5 ⟨rfl, F5, hI5, hm5⟩
            have hS5 := (below_drew hH.out.bel).trans (hm5.upd.below hH.out.bel.size fun k hk => hH.out.own k (.inl hk))
            go_wp2_with (fail)
            refine hK.out _ _ (hS5) (fun hS => ?_)
            clear hK K
            try simp only [Act.put, List.setIfInBounds_toArray, List.set_cons_zero, List.set_cons_succ]
            refine rg_at 13 (by decide) (fun oi hoi => ?_)
            have ho2 := hoi; simp only [List.getElem?_toArray, List.getElem?_cons_succ, List.getElem?_cons_zero, Option.some.injEq] at ho2; subst ho2
            refine rg_call 13 (by kernel_rfl) hoi (by rfl) (fun K hK => ?_)
            clear hoi
            go_simp
            have hpr := HPR.out _ (hH.out.b.upd (F := G) (G := F) (Upd.of_drew hm5.upd) (fun k hk hf => hH.out.fg k hf hk)) (CE.out _ hS5).2.2
            unfold val at hpr
            refine Calls.mono hpr ?_
            rintro e w6 ⟨rfl, G6, hR6, hm6⟩
            have hBt := hH.out.moved hI5 ⟨Upd.of_drew hm5.upd, hm5.sub⟩ hR6 hm6 HOK.out.1 HOK.out.2
            go_wp2_with (fail)
            refine hK.out _ _ (hBt.bel) (fun hS => ?_)
            clear hK K
            try simp only [Act.put, List.setIfInBounds_toArray, List.set_cons_zero, List.set_cons_succ]
            refine rg_at 14 (by decide) (fun oi hoi => ?_)
            have ho2 := hoi; simp only [List.getElem?_toArray, List.getElem?_cons_succ, List.getElem?_cons_zero, Option.some.injEq] at ho2; subst ho2
            refine rg_take (v := ?_) 14 hoi (by kernel_rfl) (by kernel_rfl) (by kernel_rfl) (fun _ _ _ h => h) (by rfl) ?_ hS ?_
            rotate_left
            · intro w _; go_simp; try with_reducible rfl
            clear hoi; try simp only [Act.put, List.setIfInBounds_toArray, List.set_cons_zero, List.set_cons_succ]
            refine wpAnyH_done (by kernel_rfl) ?_ _
            have HB := hid hBt
            clear hBt hI5 hm5 hS5 hR6 hm6 y0
            have HSM := hid (same p q F5 G6 zs w6 HB.out.a HB.out.b HB.out.small.1 HB.out.small.2)
            go_wp2_with (fail)
            refine Calls.mono HSM.out ?_
            rintro e w7 ⟨rfl, hu7⟩
            have HE := hid (HB.out.quiet hu7)
            clear hu7
            go_wp2
            go_roundw
            case rel => exact ⟨j + 1, F5, G6, zs, by omega, by go_num, HE⟩
            case measure => simp [intOf]; omega
          · have n1 : (k == 1) = false := by simp [hk1]
            by_cases hk2 : k = 2
            · subst hk2
              clear hk1 n1
              have hP := pop_ p ys F wr hH.out.a hH.out.small.1
              have hPR := fun W (hb : Ir W G q ys) => rpop_ q ys G W hb hH.out.small.2
              have hok' : ∀ y ∈ ys.tail, formed y = true := fun y hy => hH.out.ok y (List.mem_of_mem_tail hy)
              have hle' : ys.tail.length ≤ 8 := by have := hH.out.le; simp; omega
              generalize ys.headD zero = z at *
              generalize (!ys.isEmpty) = bb at *
              generalize ys.tail = tl at *
              have HP := hid hP
              have HPR := hid hPR
              have HOK := hid (And.intro hok' hle')
              clear hP hPR hok' hle'
              go_wp2_with (fail)
              refine Calls.mono HP.out ?_
              rintro e w3 ⟨v, rfl, hv, hI3, hu3, hf3⟩
              have hv' := hv
              obtain ⟨A3, c3, rfl, _⟩ := hv'
              simp only [val]
              have hal3 : Upd No w3 (w3.alloc (.cells #[.string z.1, .int .u64 z.2.1, .int .i64 z.2.2.1, .slice A3 z.2.2.2.length c3] 30)) := (Upd.refl _ _).alloc _
              have hbx3 := Blk.fresh w3 30 #[.string z.1, .int .u64 z.2.1, .int .i64 z.2.2.1, .slice A3 z.2.2.2.length c3]
              have hR4 := (hH.out.b.upd hu3 (fun k hk hf => hH.out.fg k hf hk)).upd hal3 (fun _ _ => no_ _)
              have hGl := hH.out.b.lt
              have hz3 := hu3.size
              have HPR2 := hid (HPR.out _ hR4)
              clear hR4
              go_wp2_with (fail)
              generalize w3.alloc (.cells #[.string z.1, .int .u64 z.2.1, .int .i64 z.2.2.1, .slice A3 z.2.2.2.length c3] 30) = w4 at *
              refine Calls.mono HPR2.out ?_
              rintro e w5 ⟨v', rfl, hv5, G5, hR5, hm5⟩
              have hv5' := hv5
              obtain ⟨A5, c5, rfl, _⟩ := hv5'
              simp only [val]
              have hal5 : Upd No w5 (w5.alloc (.cells #[.string z.1, .int .u64 z.2.1, .int .i64 z.2.2.1, .slice A5 z.2.2.2.length c5] 30)) := (Upd.refl _ _).alloc _
              have hbx5 := Blk.fresh w5 30 #[.string z.1, .int .u64 z.2.1, .int .i64 z.2.2.1, .slice A5 z.2.2.2.length c5]
              have hbx6 := (hbx3.upd hm5.upd (fun hk => by have := hGl _ hk; omega)).upd hal5 (no_ _)
              have hv6 := ((hv.upd hal3 (fun _ _ => no_ _)).upd hm5.upd (fun k hk hg => by have h1 := hGl k hg; have h2 := (hf3 k hk).1; omega)).upd hal5 (fun _ _ => no_ _)
              have hv7 := hv5.upd hal5 (fun _ _ => no_ _)
              have HB := hid (hH.out.moved hI3 ⟨hu3, fun k h => .inl h⟩ (hR5.upd hal5 (fun _ _ => no_ _)) ((Mv.trans (Mv.quiet (hal3.old (Nat.le_refl _))) hm5).trans (Mv.quiet (hal5.old (Nat.le_refl _)))) HOK.out.1 HOK.out.2)
              obtain ⟨a0, a1, a2, a3⟩ := box hbx6
              obtain ⟨b0, b1, b2, b3⟩ := box hbx5
              have HC := hid (same_ z z _ _ _ hv6 hv7)
              simp only [val, decide_true] at HC
              clear hv hI3 hu3 hf3 hal3 hbx3 hv5 hR5 hm5 hal5 hbx5 hbx6 hv6 hv7 HP HPR HPR2
              go_wp2_with (fail)
              generalize w5.alloc (.cells #[.string z.1, .int .u64 z.2.1, .int .i64 z.2.2.1, .slice A5 z.2.2.2.length c5] 30) = w6 at *
              refine Calls.mono HC.out ?_
              rintro e w7 ⟨rfl, hu7⟩
              have HB7 := hid (HB.out.quiet hu7)
              have HSM := hid (same p q F G5 tl w7 HB7.out.a HB7.out.b HB7.out.small.1 HB7.out.small.2)
              clear hu7 a0 a1 a2 a3 b0 b1 b2 b3
              go_wp2_with (fail)
              refine Calls.mono HSM.out ?_
              rintro e w8 ⟨rfl, hu8⟩
              have HE := hid (HB7.out.quiet hu8)
              clear hu8
              go_wp2
              go_roundw
              case rel => exact ⟨j + 1, F, G5, tl, by omega, by go_num, HE⟩
              case measure => simp [intOf]; omega
            · have n2 : (k == 2) = false := by simp [hk2]
              clear hk1 hk2
              have HSM := hid (same p q F G ys wr hH.out.a hH.out.b hH.out.small.1 hH.out.small.2)
              go_wp2_with (fail)
              refine Calls.mono HSM.out ?_
              rintro e w7 ⟨rfl, hu7⟩
              have HE := hid (hH.out.quiet hu7)
              clear hu7
              go_wp2
              go_roundw
              case rel => exact ⟨j + 1, F, G, ys, by omega, by go_num, HE⟩
              case measure => simp [intOf]; omega
        · obtain rfl : j = xs.length := by omega
          have hbel := hH.out.bel
          go_wp2
          go_ret
          exact ⟨rfl, hbel⟩
end Go.Proofs.Ytgbdpplnfcfhmaa.Ip
