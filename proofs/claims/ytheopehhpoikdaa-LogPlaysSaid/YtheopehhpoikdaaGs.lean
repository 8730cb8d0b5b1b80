/-
  A log, its disk and the reference's log; the walk of reevelaw07.lost.
-/
import Derived.Test.YtheopehhpoikdaaGr
set_option linter.unusedVariables false
set_option linter.unusedSimpArgs false
namespace Go.Proofs.Ytheopehhpoikdaa.Gl
open Go.RowKit Go.Proofs.Ytheopehhpoikdaa Go.Proofs.Ytheopehhpoikdaa.B Go.Proofs.Ytheopehhpoikdaa.Cm Go.Proofs.Ytheopehhpoikdaa.Sm Go.Proofs.Ytheopehhpoikdaa.Dk Go.Proofs.Ytheopehhpoikdaa.Gp
/-- Behind an append of one text to the reference's. -/
theorem Rl.pushed {W W2 W3 : World} {r : Nat} {v : Value} {us : List (List Int)} {count : Nat} {ep : Int} {u : List Int} {A3 : Option Addr} {c3 : Nat} (h : Rl W r v us count ep)
    (hal : Upd No W W2) (ho3 : W3.ownsRow 0 9 1 (.slice A3 (us.length + 1) c3) (us.length + 1) (us.map st ++ [st u])) (hg : W2.grownBy W3 v.ownBlock) :
    Rl (W3.setCell ⟨r, 0, none⟩ (.slice A3 (us.length + 1) c3)) r (.slice A3 (us.length + 1) c3) (us ++ [u]) count ep ∧ Upd (fun k => k = r ∨ v.ownBlock = some k) W (W3.setCell ⟨r, 0, none⟩ (.slice A3 (us.length + 1) c3)) := by
  have hb2 := h.blk.upd hal (no_ _)
  have hne := own_blk_ne h.tx h.blk (by decide)
  have hb3 := hb2.grown hg hne.symm
  have hne3 := own_blk_ne ho3 hb3 (by decide)
  refine ⟨⟨?_, ?_⟩, ((hal.mono fun _ _ h => h.elim).grown hg fun k hk => .inl (.inr hk)).set (.inl (.inl rfl)) _⟩
  · have := hb3.put 0 (.slice A3 (us.length + 1) c3)
    simpa using this
  · rw [List.length_append, List.map_append]
    exact own_keep ho3 fun k hk => Below.heap_setCell _ _ _ _ (by rintro rfl; exact hne3 hk)
/-- A log, its disk, and the reference's log; us: what the reference's holds. -/
structure Tw (w W : World) (F D : Nat → Prop) (q p r : Nat) (m : Lm) (d : Dm) (v : Value) (us : List (List Int)) : Prop where
  pl : Pl w W F D q p m d
  rl : Rl W r v us m.count m.ep
  rn : w.heap.size ≤ r ∧ ¬ F r ∧ ¬ D r
  vn : ∀ g, v.ownBlock = some g → w.heap.size ≤ g ∧ ¬ F g ∧ ¬ D g
section
variable {w W W' : World} {F D F' D' G : Nat → Prop} {q p r : Nat} {m m' : Lm} {d d' : Dm} {v : Value} {us : List (List Int)}
theorem Tw.quiet (h : Tw w W F D q p r m d v us) (hu : Upd No W W') : Tw w W' F D q p r m d v us := ⟨h.pl.quiet hu, h.rl.upd hu (no_ _) fun _ _ => no_ _, h.rn, h.vn⟩
theorem Tw.moved (h : Tw w W F D q p r m d v us) (hp : Pl w W' F' D' q p m' d') (hu : Upd (fun k => F k ∨ D k) W W') (hs : ∀ k, (F' k ∨ D' k) → (F k ∨ D k) ∨ W.heap.size ≤ k) (hc : m'.count = m.count) (he : m'.ep = m.ep) : Tw w W' F' D' q p r m' d' v us := by
  have sub : ∀ g, g < W.heap.size → ¬ F g → ¬ D g → ¬ F' g ∧ ¬ D' g := fun g hg t2 t3 => ⟨fun h' => (hs g (.inl h')).elim (fun h => h.elim t2 t3) fun h => by omega, fun h' => (hs g (.inr h')).elim (fun h => h.elim t2 t3) fun h => by omega⟩
  refine ⟨hp, ?_, ⟨h.rn.1, sub r h.rl.blk.lt h.rn.2.1 h.rn.2.2⟩, fun g hg => ?_⟩
  · rw [hc, he]
    exact h.rl.upd hu (fun h' => h'.elim h.rn.2.1 h.rn.2.2) fun g hg h' => h'.elim (h.vn g hg).2.1 (h.vn g hg).2.2
  · obtain ⟨t1, t2, t3⟩ := h.vn g hg
    exact ⟨t1, sub g (h.rl.tx.lt g hg).2 t2 t3⟩
theorem Tw.disk (h : Tw w W F D q p r m d v us) (hd : Dk W' D p d') (hu : Upd (fun k => k = p) W W') (hp : D p) : Tw w W' F D q p r m d' v us := by
  have hF : ∀ k, F k → k ≠ p := fun k hk e => h.pl.fd k hk (e ▸ hp)
  refine ⟨⟨h.pl.lg.upd hu hF, hd, h.pl.fd, h.pl.own, h.pl.bel.trans (hu.below h.pl.bel.size fun k hk => hk ▸ h.pl.own p (.inr hp))⟩, h.rl.upd hu (fun e => h.rn.2.2 (e ▸ hp)) fun g hg e => (h.vn g hg).2.2 (e ▸ hp), h.rn, h.vn⟩
end
theorem Dk.here {w : World} {F : Nat → Prop} {p : Nat} {m : Dm} (h : Dk w F p m) : F p := by
  obtain ⟨ps, g, vl, h1, h2, h3, h4, h5, h6, h7, h8, h9⟩ := h
  exact h6
theorem append_over (q p : Nat) (m : Lm) (F : Nat → Prop) (A : Option Addr) (n c : Nat) (w : World) (h : Lg w F q p m) (hov : m.over = true) :
    Calls Try.prog 11 #[.pointer (some ⟨q, 0, none⟩), .slice A n c] w fun e w' => e = .returned (.int .i64 9) ∧ Upd No w w' := by
  obtain ⟨vu, h1, h2, h3, h4⟩ := h
  obtain ⟨_, _, _, _, _, _, c6⟩ := Lg.cells h1
  rw [hov] at c6
  clear h1 h2 h3 h4 hov
  go_enter Try.func11, Try.ntmps11
  go_wp2
  go_ret
  exact ⟨rfl, Upd.refl _ _⟩
theorem reset_over (q p : Nat) (m : Lm) (F : Nat → Prop) (n : Int) (w : World) (h : Lg w F q p m) (hov : m.over = true) :
    Calls Try.prog 16 #[.pointer (some ⟨q, 0, none⟩), .int .u64 n] w fun e w' => e = .returned (.int .i64 9) ∧ Upd No w w' := by
  obtain ⟨vu, h1, h2, h3, h4⟩ := h
  obtain ⟨_, _, _, _, _, _, c6⟩ := Lg.cells h1
  rw [hov] at c6
  clear h1 h2 h3 h4 hov
  go_enter Try.func16, Try.ntmps16
  go_wp2
  go_ret
  exact ⟨rfl, Upd.refl _ _⟩
theorem Snd.fuse {m : Lm} {d : Dm} (h : Snd m d) {f : Int} {b : Bool} (h1 : -1 ≤ f) (h2 : f ≤ 9223372036854775807) : Snd m { d with fuse := f, down := b } :=
  ⟨h.ar, h.fit, h.ok, ⟨h1, h2, h.dok.2.2⟩, h.area, h.bytes, h.size⟩
/-- Behind an Append that was refused, and a Restart. -/
theorem Live.refused {m : Lm} {d : Dm} {fr count nb n : Nat} {ep : Int} (h : Live m d fr count ep nb n) (f : Int) : Live m { { d with fuse := f } with fuse := -1, down := false } fr count ep nb (n + 1) :=
  ⟨h.snd.fuse (by omega) (by omega), h.fr, h.count, h.ep, h.over, rfl, rfl, h.nb, by have := h.size; simp only; omega⟩
/-- Behind one that was done. -/
theorem Live.done {m : Lm} {d : Dm} {fr count nb n : Nat} {ep : Int} (h : Live m d fr count ep nb n) {u : List Int} (hc : apC m u = 0) (hb : Byte u) (hn : n ≤ 1000) {f : Int} (hf1 : (nbl u : Int) ≤ f) (hf2 : f ≤ 9223372036854775807) :
    m.ap { d with fuse := f } u = (0, wrs { d with fuse := f } (m.fr + m.used) (blk m.ep m.used u) (nbl u), m.add u) ∧ Live (m.add u) { wrs { d with fuse := f } (m.fr + m.used) (blk m.ep m.used u) (nbl u) with fuse := -1, down := false } fr count ep nb (n + 1) := by
  obtain ⟨h1, h2, h3⟩ := apC_ok hc
  have h4 := nbl_le h2
  have hs := h.size
  have hd := h.down
  have hs1 : Snd m { d with fuse := f } := by
    have := h.snd.fuse (f := f) (b := d.down) (by omega) hf2
    exact this
  refine ⟨?_, (hs1.add hc hb (.inr hf1) (by simp only; omega)).fuse (by omega) (by omega), h.fr, h.count, h.ep, h.over, rfl, rfl, h.nb, ?_⟩
  · rw [ap_go h.over _ hc, if_pos]
    · rfl
    · unfold Dm.may
      simp only
      rw [hd, if_neg (by simp), if_neg (by omega)]
  · simp only [wrs, List.length_append, List.length_map, List.length_range]
    omega
/-- Behind one that was lost. -/
theorem Live.lost {m : Lm} {d : Dm} {fr count nb n : Nat} {ep : Int} (h : Live m d fr count ep nb n) {u : List Int} (hc : apC m u = 0) (hb : Byte u) (hn : n ≤ 1000) {f : Nat} (hf : f < nbl u) :
    m.ap { d with fuse := (f : Int) } u = (9, { wrs { d with fuse := (f : Int) } (m.fr + m.used) (blk m.ep m.used u) f with down := true }, { m with over := true }) ∧ Live m { { wrs { d with fuse := (f : Int) } (m.fr + m.used) (blk m.ep m.used u) f with down := true } with fuse := -1, down := false } fr count ep nb (n + 1) := by
  obtain ⟨h1, h2, h3⟩ := apC_ok hc
  have h4 := nbl_le h2
  have hs := h.size
  have hd := h.down
  have hmay : Dm.may { d with fuse := (f : Int) } (nbl u) = f := by
    unfold Dm.may
    simp only
    rw [hd, if_neg (by simp), if_pos ⟨by omega, by omega⟩]
    omega
  refine ⟨?_, ⟨?_, ?_, h.snd.ok, ⟨by simp, by simp, h.snd.dok.2.2⟩, h.snd.area, h.snd.bytes, ?_⟩, h.fr, h.count, h.ep, h.over, rfl, rfl, h.nb, ?_⟩
  · rw [ap_go h.over _ hc, hmay, if_neg (by omega)]
  · have e : bsOf { { wrs { d with fuse := (f : Int) } (m.fr + m.used) (blk m.ep m.used u) f with down := true } with fuse := -1, down := false } m.fr = put (bsOf d m.fr) m.ep m.used u f := by
      rw [← bsOf_wrs d m.fr m.used m.ep u f]
      exact bsOf_log rfl _
    rw [e]
    exact h.snd.ar.part hf
  · exact fit_wrs h.snd.fit _ _ _ hb _
  · simp only [wrs, List.length_append, List.length_map, List.length_range]
    omega
  · simp only [wrs, List.length_append, List.length_map, List.length_range]
    omega
end Go.Proofs.Ytheopehhpoikdaa.Gl
