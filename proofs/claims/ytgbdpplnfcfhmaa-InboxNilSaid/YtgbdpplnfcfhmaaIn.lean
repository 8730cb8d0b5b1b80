/-
  Inboxes: nil ones; writing to a copy's arguments.
-/
import Derived.Test.YtgbdpplnfcfhmaaIs
import Derived.Test.YtgbdpplnfcfhmaaIf
set_option linter.unusedVariables false
set_option linter.unusedSimpArgs false
namespace Go.Proofs.Ytgbdpplnfcfhmaa.In
open Go.RowKit Go.Proofs.Ytgbdpplnfcfhmaa.B Go.Proofs.Ytgbdpplnfcfhmaa.Lt Go.Proofs.Ytgbdpplnfcfhmaa.Ib Go.Proofs.Ytgbdpplnfcfhmaa.Ls Go.Proofs.Ytgbdpplnfcfhmaa.La Go.Proofs.Ytgbdpplnfcfhmaa.Ir
set_option maxHeartbeats 400000 in
theorem len_nil (w : World) : Calls Try.prog 12 #[.pointer none] w fun e w' => e = .returned (.int .i64 0) ∧ w = w' := by
  go_enter Try.func12, Try.ntmps12
  go_wp2
  go_ret
  exact ⟨rfl, rfl⟩
set_option maxHeartbeats 400000 in
theorem all_nil (w : World) : Calls Try.prog 19 #[.pointer none] w fun e w' => e = .returned (.slice none 0 0) ∧ w = w' := by
  go_enter Try.func19, Try.ntmps19
  go_wp2
  go_ret
  exact ⟨rfl, rfl⟩
set_option maxHeartbeats 400000 in
theorem enc_nil (w : World) : Calls Try.prog 22 #[.pointer none] w fun e w' => e = .returned (.slice none 0 0) ∧ w = w' := by
  go_enter Try.func22, Try.ntmps22
  go_wp2
  go_ret
  exact ⟨rfl, rfl⟩
set_option maxHeartbeats 1000000 in
set_option maxRecDepth 100000 in
theorem first_nil (w : World) :
    Calls Try.prog 20 #[.pointer none] w fun e w' => FsOut w zero false e w' := by
  have hL := hid (fun W (hu : Upd No w W) => len_nil W)
  have hu1 : Upd No w (w.alloc (.cells #[.string ⟨#[]⟩, .int .u64 0, .int .i64 0, .slice none 0 0] 30)) := (Upd.refl _ _).alloc _
  have hb1 := Blk.fresh w 30 #[.string ⟨#[]⟩, .int .u64 0, .int .i64 0, .slice none 0 0]
  go_enter Try.func20, Try.ntmps20
  go_wp2_with (fail)
  generalize w.alloc (.cells #[.string ⟨#[]⟩, .int .u64 0, .int .i64 0, .slice none 0 0] 30) = w1 at *
  obtain ⟨z0, z1, z2, z3⟩ := box hb1
  have g0 := hb1.free 0
  have g1 := hb1.free 1
  have g2 := hb1.free 2
  have g3 := hb1.free 3
  refine Calls.mono (hL.out _ hu1) ?_
  rintro e w2 ⟨rfl, rfl⟩
  have HB := hid (put4_blk hb1 zero (.slice none 0 0))
  have HU := hid (put4_new hu1 (Nat.le_refl _) zero (.slice none 0 0))
  clear hb1
  go_wp2
  simp only [put4, zero] at HB HU
  generalize (((w1.setCell ⟨w.heap.size, 0, none⟩ (.string ⟨#[]⟩)).setCell ⟨w.heap.size, 1, none⟩ (.int .u64 0)).setCell ⟨w.heap.size, 2, none⟩ (.int .i64 0)).setCell ⟨w.heap.size, 3, none⟩ (.slice none 0 0) = W5 at *
  obtain ⟨q0, q1, q2, q3⟩ := box HB.out
  exact bodyPost_ret (v := .tuple #[val zero (.slice none 0 0), .bool false]) (by simp [results, go_sem, q0, q1, q2, q3, val, zero]) rfl (.of ⟨_, rfl, In.nil _, HU.out, fun k hk => by simp [Value.ownBlock] at hk⟩)
set_option maxHeartbeats 1000000 in
set_option maxRecDepth 100000 in
theorem pop_nil (w : World) :
    Calls Try.prog 11 #[.pointer none] w fun e w' => FsOut w zero false e w' := by
  have hu1 : Upd No w (w.alloc (.cells #[.string ⟨#[]⟩, .int .u64 0, .int .i64 0, .slice none 0 0] 30)) := (Upd.refl _ _).alloc _
  have hb1 := Blk.fresh w 30 #[.string ⟨#[]⟩, .int .u64 0, .int .i64 0, .slice none 0 0]
  have hu1l := alloc_lt w (.cells #[.string ⟨#[]⟩, .int .u64 0, .int .i64 0, .slice none 0 0] 30)
  go_enter Try.func11, Try.ntmps11
  go_wp2_with (fail)
  generalize w.alloc (.cells #[.string ⟨#[]⟩, .int .u64 0, .int .i64 0, .slice none 0 0] 30) = w1 at *
  refine Calls.mono (first_nil w1) ?_
  rintro e w2 ⟨v, rfl, hx, hu2, hf⟩
  have hx' := hx
  obtain ⟨A3, c3', hv3, _⟩ := hx'
  subst hv3
  simp only [val, zero]
  simp only [zero] at hx hf
  have hua : Upd No w2 (w2.alloc (.cells #[.string ⟨#[]⟩, .int .u64 0, .int .i64 0, .slice A3 0 c3'] 30)) := (Upd.refl _ _).alloc _
  have hba := (hb1.upd hu2 (no_ _)).alloc (.cells #[.string ⟨#[]⟩, .int .u64 0, .int .i64 0, .slice A3 0 c3'] 30)
  obtain ⟨z0, z1, z2, z3⟩ := box hba
  have g0 := hba.free 0
  have g1 := hba.free 1
  have g2 := hba.free 2
  have g3 := hba.free 3
  have hsz2 := hu2.size
  have huw := (hu1.next hu2).next hua
  have HX0 := hid (hx.upd hua (fun _ _ => no_ _))
  have HF0 := hid (show ∀ k, (Value.slice A3 0 c3').ownBlock = some k → w1.heap.size ≤ k ∧ ∃ cs, Blk (w2.alloc (.cells #[.string ⟨#[]⟩, .int .u64 0, .int .i64 0, .slice A3 0 c3'] 30)) k 2 cs from fun k hk => ⟨(hf k hk).1, (hf k hk).2.elim fun cs hB => ⟨cs, hB.alloc _⟩⟩)
  go_wp2_with (fail)
  generalize w2.alloc (.cells #[.string ⟨#[]⟩, .int .u64 0, .int .i64 0, .slice A3 0 c3'] 30) = wa at *
  have HB := hid (put4_blk hba zero (.slice A3 0 c3'))
  have HU := hid (put4_new huw (Nat.le_refl _) zero (.slice A3 0 c3'))
  have HX := hid (HX0.out.upd (put4_upd wa w.heap.size zero (.slice A3 0 c3')) (fun k hk e => by have := (HF0.out k hk).1; omega))
  have HF := hid (show ∀ k, (Value.slice A3 0 c3').ownBlock = some k → w.heap.size ≤ k ∧ ∃ cs, Blk (put4 wa w.heap.size zero (.slice A3 0 c3')) k 2 cs from fun k hk => ⟨by have := (HF0.out k hk).1; omega, (HF0.out k hk).2.elim fun cs hB => ⟨cs, hB.upd (put4_upd wa w.heap.size zero (.slice A3 0 c3')) (fun e => by have := (HF0.out k hk).1; omega)⟩⟩)
  simp only [put4, zero] at HB HU HX HF
  generalize (((wa.setCell ⟨w.heap.size, 0, none⟩ (.string ⟨#[]⟩)).setCell ⟨w.heap.size, 1, none⟩ (.int .u64 0)).setCell ⟨w.heap.size, 2, none⟩ (.int .i64 0)).setCell ⟨w.heap.size, 3, none⟩ (.slice A3 0 c3') = W5 at *
  obtain ⟨q0, q1, q2, q3⟩ := box HB.out
  exact bodyPost_ret (v := .tuple #[val zero (.slice A3 0 c3'), .bool false]) (by simp [results, go_sem, q0, q1, q2, q3, val, zero]) rfl (FsOut.of ⟨_, rfl, HX.out, HU.out, HF.out⟩)
set_option maxHeartbeats 400000 in
theorem push_nil (x : L) (u : Value) (w : World) : Calls Try.prog 10 #[.pointer none, val x u] w fun e w' => e = .returned (.int .i64 1) ∧ Upd No w w' := by
  have hu : Upd No w (w.alloc (.cells #[.string x.1, .int .u64 x.2.1, .int .i64 x.2.2.1, u] 30)) := (Upd.refl _ _).alloc _
  unfold val
  go_enter Try.func10, Try.ntmps10
  go_wp2
  go_ret
  exact ⟨rfl, hu⟩
/-- The arguments of a copy may be written to. -/
def Lp (w0 W : World) (u : Value) (n : Nat) : Prop :=
  Upd (fun k => u.ownBlock = some k) w0 W ∧ (0 < n → ∃ g off c cs, u = .slice (some ⟨g, off, none⟩) n c ∧ Blk W g 2 cs ∧ ∀ i, i < n → ∃ x : Int, cs[off + i]? = some (.int .i64 x))
theorem Lp.start {w : World} {x : L} {u : Value} (h : Lt.In w x u) (hb : ∀ k, u.ownBlock = some k → ∃ cs, Blk w k 2 cs) : Lp w w u x.2.2.2.length := by
  refine ⟨Upd.refl _ _, fun hn => ?_⟩
  obtain ⟨A, c, rfl, hr, _⟩ := h
  obtain ⟨ad, rfl, h0⟩ := hr.at_ (i := 0) hn
  obtain ⟨cs, hB⟩ := hb ad.block rfl
  have hsp : ad.spot = none := by
    have h0' : w.cell? ad = some (.int .i64 (gi x.2.2.2 0)) := h0
    have hB' : w.heap[ad.block]? = some (.cells cs 2 (0, 0)) := hB
    simp only [World.cell?, hB'] at h0'
    split at h0'
    · cases h0'
    · rename_i hs
      simpa using hs
  obtain ⟨g, off, sp⟩ := ad
  simp only at hsp hB
  subst hsp
  refine ⟨g, off, c, cs, rfl, hB, fun i hi => ⟨gi x.2.2.2 i, ?_⟩⟩
  have hc := Rn.cell hr hi
  rw [add_off, hB.cell] at hc
  exact hc
theorem Lp.put {w0 W : World} {u : Value} {n i : Nat} {g off c : Nat} {cs : Array Value} (h : Lp w0 W u n) (hu : u = .slice (some ⟨g, off, none⟩) n c) (hB : Blk W g 2 cs) (hx : ∀ i, i < n → ∃ x : Int, cs[off + i]? = some (.int .i64 x)) (hi : i < n) (z : Int) :
    Lp w0 (W.setCell ⟨g, off + i, none⟩ (.int .i64 z)) u n := by
  refine ⟨h.1.set (.inl (by rw [hu]; rfl)) _, fun _ => ⟨g, off, c, _, hu, hB.put (off + i) (.int .i64 z), fun j hj => ?_⟩⟩
  by_cases hij : i = j
  · subst hij
    obtain ⟨x, hx'⟩ := hx i hi
    have := (Array.getElem?_eq_some_iff.1 hx').1
    exact ⟨z, by rw [Array.getElem?_setIfInBounds, if_pos rfl, if_pos this]⟩
  · obtain ⟨x, hx'⟩ := hx j hj
    exact ⟨x, by rw [Array.getElem?_setIfInBounds, if_neg (by omega)]; exact hx'⟩
end Go.Proofs.Ytgbdpplnfcfhmaa.In
