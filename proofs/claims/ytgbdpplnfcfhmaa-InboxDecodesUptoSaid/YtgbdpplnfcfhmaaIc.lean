/-
  Inboxes: the first letter, told and taken.
-/
import Derived.Test.YtgbdpplnfcfhmaaIb
set_option linter.unusedVariables false
set_option linter.unusedSimpArgs false
namespace Go.Proofs.Ytgbdpplnfcfhmaa.Ib
open Go.RowKit Go.Proofs.Ytgbdpplnfcfhmaa.B Go.Proofs.Ytgbdpplnfcfhmaa.Lt
def FsOut (w : World) (x : L) (b : Bool) (e : Ending) (w' : World) : Prop := ∃ v, e = .returned (.tuple #[val x v, .bool b]) ∧ In w' x v ∧ Upd No w w' ∧ ∀ k, v.ownBlock = some k → w.heap.size ≤ k ∧ ∃ cs, Blk w' k 2 cs
theorem FsOut.of {w : World} {x : L} {b : Bool} {e : Ending} {w' : World} (h : ∃ v, e = .returned (.tuple #[val x v, .bool b]) ∧ In w' x v ∧ Upd No w w' ∧ ∀ k, v.ownBlock = some k → w.heap.size ≤ k ∧ ∃ cs, Blk w' k 2 cs) : FsOut w x b e w' := h
theorem Row.head {F : Nat → Prop} {w : World} {v : Value} {x : L} {r : List L} (h : Row w F v (x :: r)) :
    ∃ (g off n c : Nat) (u : Value), v = .slice (some ⟨g, off, none⟩) (n + 1) c ∧ n = r.length ∧ n + 1 ≤ c ∧ c ≤ maxLen ∧ In w x u ∧ (∀ k, u.ownBlock = some k → F k) ∧ w.cell? ⟨g, off, none⟩ = some (.string x.1) ∧ w.cell? ⟨g, off + 1, none⟩ = some (.int .u64 x.2.1) ∧ w.cell? ⟨g, off + 2, none⟩ = some (.int .i64 x.2.2.1) ∧ w.cell? ⟨g, off + 3, none⟩ = some u ∧ F g ∧ g < w.heap.size := by
  obtain ⟨ps, h1, h2, h3, h4⟩ := h
  match ps, h1 with
  | (y, u) :: qs, h1 =>
    simp only [List.map_cons, List.cons.injEq] at h1
    obtain ⟨rfl, rfl⟩ := h1
    obtain ⟨hi, hk⟩ := h3 (y, u) (by simp)
    rcases h2.2 with ⟨_, h⟩ | ⟨g, off, cap, cur, rfl, _, hh, g1, g2, g3, hc⟩
    · simp at h
    · have e : ∀ j w', (pcells ((y, u) :: qs))[j]? = some w' → w.cell? ⟨g, off + j, none⟩ = some w' := fun j w' hj => by rw [hh.cell]; exact hc j w' hj
      exact ⟨g, off, qs.length, cap, u, by simp, by simp, by simpa using g1, g2, hi, fun k hk' => (hk k hk').1, e 0 _ rfl, e 1 _ rfl, e 2 _ rfl, e 3 _ rfl, h4 g rfl, hh.lt⟩
set_option maxHeartbeats 1000000 in
set_option maxRecDepth 100000 in
theorem first_none (p : Nat) (F : Nat → Prop) (w : World) (h : Ib w F p []) :
    Calls Try.prog 20 #[.pointer (some ⟨p, 0, none⟩)] w fun e w' => FsOut w zero false e w' := by
  have hL := hid (fun W (hu : Upd No w W) => len_ p [] F W (h.upd hu (fun _ _ => no_ _)))
  rw [show (([] : List L).length : Int) = 0 from rfl] at hL
  have hu1 : Upd No w (w.alloc (.cells #[.string ⟨#[]⟩, .int .u64 0, .int .i64 0, .slice none 0 0] 30)) := (Upd.refl _ _).alloc _
  have hb1 := Blk.fresh w 30 #[.string ⟨#[]⟩, .int .u64 0, .int .i64 0, .slice none 0 0]
  go_enter Try.func20, Try.ntmps20
  go_wp2_with (fail)
  generalize w.alloc (.cells #[.string ⟨#[]⟩, .int .u64 0, .int .i64 0, .slice none 0 0] 30) = w1 at *
  obtain ⟨z0, z1, z2, z3⟩ := box hb1
  have g0 := hb1.free 0
  have g1 := hb1.free 1
  have g2 := hb1.free 2
  have g3 := hb1.free 3
  refine Calls.mono (hL.out _ hu1) ?_
  rintro e w2 ⟨rfl, rfl⟩
  have HB := hid (put4_blk hb1 zero (.slice none 0 0))
  have HU := hid (put4_new hu1 (Nat.le_refl _) zero (.slice none 0 0))
  clear hb1
  go_wp2
  simp only [put4, zero] at HB HU
  generalize (((w1.setCell ⟨w.heap.size, 0, none⟩ (.string ⟨#[]⟩)).setCell ⟨w.heap.size, 1, none⟩ (.int .u64 0)).setCell ⟨w.heap.size, 2, none⟩ (.int .i64 0)).setCell ⟨w.heap.size, 3, none⟩ (.slice none 0 0) = W5 at *
  obtain ⟨q0, q1, q2, q3⟩ := box HB.out
  exact bodyPost_ret (v := .tuple #[val zero (.slice none 0 0), .bool false]) (by simp [results, go_sem, q0, q1, q2, q3, val, zero]) rfl (.of ⟨_, rfl, In.nil _, HU.out, fun k hk => by simp [Value.ownBlock] at hk⟩)
set_option maxHeartbeats 1000000 in
set_option maxRecDepth 100000 in
theorem first_some (p : Nat) (x : L) (r : List L) (F : Nat → Prop) (w : World) (h : Ib w F p (x :: r)) (hl : x.2.2.2.length ≤ 1000000) :
    Calls Try.prog 20 #[.pointer (some ⟨p, 0, none⟩)] w fun e w' => FsOut w x true e w' := by
  have hL := hid (fun W (hu : Upd No w W) => len_ p (x :: r) F W (h.upd hu (fun _ _ => no_ _)))
  obtain ⟨n1, hn1⟩ : ∃ n1 : Nat, n1 = (x :: r).length := ⟨_, rfl⟩
  have hn1' : (0 : Int) < (n1 : Int) := by rw [hn1]; simp
  rw [← hn1] at hL
  obtain ⟨vl, h1, h2, h3, h4⟩ := h
  obtain ⟨g, off, n, c, u, rfl, hn, hnc, hcm, hx, hxF, c0, c1, c2, c3, _, hgl⟩ := h2.head
  have hu1 : Upd No w (w.alloc (.cells #[.string ⟨#[]⟩, .int .u64 0, .int .i64 0, .slice none 0 0] 30)) := (Upd.refl _ _).alloc _
  have hb1 := Blk.fresh w 30 #[.string ⟨#[]⟩, .int .u64 0, .int .i64 0, .slice none 0 0]
  have hu1l := alloc_lt w (.cells #[.string ⟨#[]⟩, .int .u64 0, .int .i64 0, .slice none 0 0] 30)
  clear hn
  go_enter Try.func20, Try.ntmps20
  go_wp2_with (fail)
  generalize w.alloc (.cells #[.string ⟨#[]⟩, .int .u64 0, .int .i64 0, .slice none 0 0] 30) = w1 at *
  refine Calls.mono (hL.out _ hu1) ?_
  rintro e w2 ⟨rfl, rfl⟩
  have k0 := (h1.upd hu1 (no_ _)).cell 0
  simp at k0
  have d0 := (hu1.cell (p := ⟨g, off, none⟩) hgl (no_ _)).trans c0
  have d1 := (hu1.cell (p := ⟨g, off + 1, none⟩) hgl (no_ _)).trans c1
  have d2 := (hu1.cell (p := ⟨g, off + 2, none⟩) hgl (no_ _)).trans c2
  have d3 := (hu1.cell (p := ⟨g, off + 3, none⟩) hgl (no_ _)).trans c3
  have HC := hid (copy_ x u w1 (hx.upd hu1 (fun _ _ => no_ _)) hl)
  unfold val at HC
  go_wp2_with (fail)
  refine Calls.mono HC.out ?_
  rintro e w3 ⟨v3, rfl, hx3, hu3, hf3⟩
  have hx3' := hx3
  obtain ⟨A3, c3', hv3, _⟩ := hx3'
  subst hv3
  unfold val
  have hb3 := hb1.upd hu3 (no_ _)
  have hu13 := hu1.next hu3
  obtain ⟨z0, z1, z2, z3⟩ := box hb3
  have g0 := hb3.free 0
  have g1 := hb3.free 1
  have g2 := hb3.free 2
  have g3 := hb3.free 3
  have HB := hid (put4_blk hb3 x (.slice A3 x.2.2.2.length c3'))
  have HU := hid (put4_new hu13 (Nat.le_refl _) x (.slice A3 x.2.2.2.length c3'))
  have HX := hid (hx3.upd (put4_upd w3 w.heap.size x (.slice A3 x.2.2.2.length c3')) (fun k hk e => by have := (hf3 k hk).1; omega))
  have HF := hid (show ∀ k, (Value.slice A3 x.2.2.2.length c3').ownBlock = some k → w.heap.size ≤ k ∧ ∃ cs, Blk (put4 w3 w.heap.size x (.slice A3 x.2.2.2.length c3')) k 2 cs from fun k hk => ⟨by have := (hf3 k hk).1; omega, (hf3 k hk).2.elim fun cs hB => ⟨cs, hB.upd (put4_upd w3 w.heap.size x (.slice A3 x.2.2.2.length c3')) (fun e => by have := (hf3 k hk).1; omega)⟩⟩)
  have h1v := In.one hx3
  clear hb1 hb3
  go_wp2
  simp only [put4] at HB HU HX HF
  generalize (((w3.setCell ⟨w.heap.size, 0, none⟩ (.string x.1)).setCell ⟨w.heap.size, 1, none⟩ (.int .u64 x.2.1)).setCell ⟨w.heap.size, 2, none⟩ (.int .i64 x.2.2.1)).setCell ⟨w.heap.size, 3, none⟩ (.slice A3 x.2.2.2.length c3') = W5 at *
  obtain ⟨q0, q1, q2, q3⟩ := box HB.out
  exact bodyPost_ret (v := .tuple #[val x (.slice A3 x.2.2.2.length c3'), .bool true]) (by simp [results, go_sem, q0, q1, q2, q3, val]) rfl (.of ⟨_, rfl, HX.out, HU.out, HF.out⟩)
def PopOut (w : World) (F : Nat → Prop) (p : Nat) (x : L) (b : Bool) (r : List L) (e : Ending) (w' : World) : Prop :=
  ∃ v, e = .returned (.tuple #[val x v, .bool b]) ∧ In w' x v ∧ Ib w' F p r ∧ Upd F w w' ∧ ∀ k, v.ownBlock = some k → w.heap.size ≤ k ∧ ∃ cs, Blk w' k 2 cs
theorem PopOut.of {w : World} {F : Nat → Prop} {p : Nat} {x : L} {b : Bool} {r : List L} {e : Ending} {w' : World}
    (h : ∃ v, e = .returned (.tuple #[val x v, .bool b]) ∧ In w' x v ∧ Ib w' F p r ∧ Upd F w w' ∧ ∀ k, v.ownBlock = some k → w.heap.size ≤ k ∧ ∃ cs, Blk w' k 2 cs) : PopOut w F p x b r e w' := h
/-- Behind 'i.list = i.list[1:]'. -/
theorem Ib.popped {w : World} {F : Nat → Prop} {p : Nat} {x : L} {r : List L} {n c : Nat} {A : Option Addr} (h1 : Blk w p 42 #[.slice A (n + 1) c]) (h2 : Row w F (.slice A (n + 1) c) (x :: r)) (h3 : F p) (h4 : ∀ k, F k → k < w.heap.size) :
    Ib (w.setCell ⟨p, 0, none⟩ (.slice (if c = 1 then A else A.map (·.add (1 * 4))) n (c - 1))) F p r := by
  have h2' := h2
  obtain ⟨ps, e1, e2, e3, e4⟩ := h2
  match ps, e1 with
  | (y, u) :: qs, e1 =>
    simp only [List.map_cons, List.cons.injEq] at e1
    obtain ⟨rfl, rfl⟩ := e1
    obtain ⟨A0, c0, ev, _, _⟩ := e2.shape
    simp only [Value.slice.injEq, List.length_cons] at ev
    have hn : n = qs.length := by omega
    subst hn
    have hd := (show Sl w 0 30 4 (.slice A (qs.length + 1) c) (qs.length + 1) (pcells ((y, u) :: qs)) from e2).drop (m := 1) (by omega)
    rw [pcells_drop] at hd
    have hR : Row w F (.slice (if c = 1 then A else A.map (·.add (1 * 4))) qs.length (c - 1)) (qs.map (·.1)) := ⟨qs, rfl, hd, fun z hz => e3 z (by simp [hz]), fun k hk => e4 k (by
      rcases A with _ | ad
      · simp [Value.ownBlock] at hk
      · split at hk
        · simpa [Value.ownBlock] using hk
        · simp only [Option.map_some, Value.ownBlock, Addr_add_block] at hk ⊢
          exact hk)⟩
    refine ⟨_, ?_, hR.far h1 (by decide) (by decide) ((Upd.refl _ _).set1 0 _), h3, fun k hk => by have := h4 k hk; simpa [World.setCell] using this⟩
    have := h1.put 0 (.slice (if c = 1 then A else A.map (·.add (1 * 4))) qs.length (c - 1))
    simpa using this
set_option maxHeartbeats 1000000 in
set_option maxRecDepth 100000 in
theorem pop_none (p : Nat) (F : Nat → Prop) (w : World) (h : Ib w F p []) :
    Calls Try.prog 11 #[.pointer (some ⟨p, 0, none⟩)] w fun e w' => PopOut w F p zero false [] e w' := by
  have hu1 : Upd No w (w.alloc (.cells #[.string ⟨#[]⟩, .int .u64 0, .int .i64 0, .slice none 0 0] 30)) := (Upd.refl _ _).alloc _
  have hb1 := Blk.fresh w 30 #[.string ⟨#[]⟩, .int .u64 0, .int .i64 0, .slice none 0 0]
  have hu1l := alloc_lt w (.cells #[.string ⟨#[]⟩, .int .u64 0, .int .i64 0, .slice none 0 0] 30)
  go_enter Try.func11, Try.ntmps11
  go_wp2_with (fail)
  generalize w.alloc (.cells #[.string ⟨#[]⟩, .int .u64 0, .int .i64 0, .slice none 0 0] 30) = w1 at *
  refine Calls.mono (first_none p F w1 (h.upd hu1 (fun _ _ => no_ _))) ?_
  rintro e w2 ⟨v, rfl, hx, hu2, hf⟩
  have hx' := hx
  obtain ⟨A3, c3', hv3, _⟩ := hx'
  subst hv3
  simp only [val, zero]
  simp only [zero] at hx hf
  have hua : Upd No w2 (w2.alloc (.cells #[.string ⟨#[]⟩, .int .u64 0, .int .i64 0, .slice A3 0 c3'] 30)) := (Upd.refl _ _).alloc _
  have hba := (hb1.upd hu2 (no_ _)).alloc (.cells #[.string ⟨#[]⟩, .int .u64 0, .int .i64 0, .slice A3 0 c3'] 30)
  obtain ⟨z0, z1, z2, z3⟩ := box hba
  have g0 := hba.free 0
  have g1 := hba.free 1
  have g2 := hba.free 2
  have g3 := hba.free 3
  have hsz2 := hu2.size
  have huw := (hu1.next hu2).next hua
  have HX0 := hid (hx.upd hua (fun _ _ => no_ _))
  have HF0 := hid (show ∀ k, (Value.slice A3 0 c3').ownBlock = some k → w1.heap.size ≤ k ∧ ∃ cs, Blk (w2.alloc (.cells #[.string ⟨#[]⟩, .int .u64 0, .int .i64 0, .slice A3 0 c3'] 30)) k 2 cs from fun k hk => ⟨(hf k hk).1, (hf k hk).2.elim fun cs hB => ⟨cs, hB.alloc _⟩⟩)
  go_wp2_with (fail)
  generalize w2.alloc (.cells #[.string ⟨#[]⟩, .int .u64 0, .int .i64 0, .slice A3 0 c3'] 30) = wa at *
  have HB := hid (put4_blk hba zero (.slice A3 0 c3'))
  have HU := hid (put4_new huw (Nat.le_refl _) zero (.slice A3 0 c3'))
  have HX := hid (HX0.out.upd (put4_upd wa w.heap.size zero (.slice A3 0 c3')) (fun k hk e => by have := (HF0.out k hk).1; omega))
  have HF := hid (show ∀ k, (Value.slice A3 0 c3').ownBlock = some k → w.heap.size ≤ k ∧ ∃ cs, Blk (put4 wa w.heap.size zero (.slice A3 0 c3')) k 2 cs from fun k hk => ⟨by have := (HF0.out k hk).1; omega, (HF0.out k hk).2.elim fun cs hB => ⟨cs, hB.upd (put4_upd wa w.heap.size zero (.slice A3 0 c3')) (fun e => by have := (HF0.out k hk).1; omega)⟩⟩)
  simp only [put4, zero] at HB HU HX HF
  generalize (((wa.setCell ⟨w.heap.size, 0, none⟩ (.string ⟨#[]⟩)).setCell ⟨w.heap.size, 1, none⟩ (.int .u64 0)).setCell ⟨w.heap.size, 2, none⟩ (.int .i64 0)).setCell ⟨w.heap.size, 3, none⟩ (.slice A3 0 c3') = W5 at *
  obtain ⟨q0, q1, q2, q3⟩ := box HB.out
  exact bodyPost_ret (v := .tuple #[val zero (.slice A3 0 c3'), .bool false]) (by simp [results, go_sem, q0, q1, q2, q3, val, zero]) rfl (PopOut.of ⟨_, rfl, HX.out, h.upd HU.out (fun _ _ => no_ _), HU.out.mono (fun _ _ h => h.elim), HF.out⟩)
set_option maxHeartbeats 1000000 in
set_option maxRecDepth 100000 in
theorem pop_some (p : Nat) (x : L) (r : List L) (F : Nat → Prop) (w : World) (h : Ib w F p (x :: r)) (hl : x.2.2.2.length ≤ 1000000) :
    Calls Try.prog 11 #[.pointer (some ⟨p, 0, none⟩)] w fun e w' => PopOut w F p x true r e w' := by
  have hu1 : Upd No w (w.alloc (.cells #[.string ⟨#[]⟩, .int .u64 0, .int .i64 0, .slice none 0 0] 30)) := (Upd.refl _ _).alloc _
  have hb1 := Blk.fresh w 30 #[.string ⟨#[]⟩, .int .u64 0, .int .i64 0, .slice none 0 0]
  have hu1l := alloc_lt w (.cells #[.string ⟨#[]⟩, .int .u64 0, .int .i64 0, .slice none 0 0] 30)
  go_enter Try.func11, Try.ntmps11
  go_wp2_with (fail)
  generalize w.alloc (.cells #[.string ⟨#[]⟩, .int .u64 0, .int .i64 0, .slice none 0 0] 30) = w1 at *
  refine Calls.mono (first_some p x r F w1 (h.upd hu1 (fun _ _ => no_ _)) hl) ?_
  rintro e w2 ⟨v, rfl, hx, hu2, hf⟩
  have hx' := hx
  obtain ⟨A3, c3', hv3, _⟩ := hx'
  subst hv3
  obtain ⟨s, sn, k, l⟩ := x
  simp only [val]
  simp only at hx hf
  have hua : Upd No w2 (w2.alloc (.cells #[.string s, .int .u64 sn, .int .i64 k, .slice A3 l.length c3'] 30)) := (Upd.refl _ _).alloc _
  have hba := (hb1.upd hu2 (no_ _)).alloc (.cells #[.string s, .int .u64 sn, .int .i64 k, .slice A3 l.length c3'] 30)
  have hbb := Blk.fresh w2 30 #[.string s, .int .u64 sn, .int .i64 k, .slice A3 l.length c3']
  have hsz2 := hu2.size
  have huw := (hu1.next hu2).next hua
  have HX0 := hid (hx.upd hua (fun _ _ => no_ _))
  have HF0 := hid (show ∀ k', (Value.slice A3 l.length c3').ownBlock = some k' → w1.heap.size ≤ k' ∧ ∃ cs, Blk (w2.alloc (.cells #[.string s, .int .u64 sn, .int .i64 k, .slice A3 l.length c3'] 30)) k' 2 cs from fun k' hk => ⟨(hf k' hk).1, (hf k' hk).2.elim fun cs hB => ⟨cs, hB.alloc _⟩⟩)
  have hIa := h.upd huw (fun _ _ => no_ _)
  have hpl := h.lt
  obtain ⟨vl, i1, i2, i3, i4⟩ := hIa
  obtain ⟨g, off, n, c, u0, rfl, hn, hnc, hcm, _⟩ := i2.head
  subst hn
  simp only [maxLen] at hcm
  have HP := hid (Ib.popped i1 i2 i3 i4)
  have j0 := i1.cell 0
  have jf := i1.free 0
  simp at j0
  have hbl := hb1.lt
  have hpw := hpl _ i3
  by_cases hc1 : c = 1
  · subst hc1
    rw [if_pos rfl] at HP
    obtain rfl : r = [] := List.eq_nil_of_length_eq_zero (by omega)
    have hbs : Hid (Blk ((w2.alloc (.cells #[.string s, .int .u64 sn, .int .i64 k, .slice A3 l.length c3'] 30)).setCell ⟨p, 0, none⟩ (.slice (some ⟨g, off, none⟩) 0 0)) w.heap.size 30 #[.string ⟨#[]⟩, .int .u64 0, .int .i64 0, .slice none 0 0]) := hid (hba.far (by simp; omega) _)
    have hbt : Hid (Blk ((w2.alloc (.cells #[.string s, .int .u64 sn, .int .i64 k, .slice A3 l.length c3'] 30)).setCell ⟨p, 0, none⟩ (.slice (some ⟨g, off, none⟩) 0 0)) w2.heap.size 30 #[.string s, .int .u64 sn, .int .i64 k, .slice A3 l.length c3']) := hid (hbb.far (by simp; omega) _)
    obtain ⟨z0, z1, z2, z3⟩ := box hbs.out
    obtain ⟨y0, y1, y2, y3⟩ := box hbt.out
    have g0 := hbs.out.free 0
    have g1 := hbs.out.free 1
    have g2 := hbs.out.free 2
    have g3 := hbs.out.free 3
    have hup : Hid (Upd F w ((w2.alloc (.cells #[.string s, .int .u64 sn, .int .i64 k, .slice A3 l.length c3'] 30)).setCell ⟨p, 0, none⟩ (.slice (some ⟨g, off, none⟩) 0 0))) := hid ((huw.mono fun _ _ h => h.elim).set (.inl i3) _)
    have HX1 : Hid (In ((w2.alloc (.cells #[.string s, .int .u64 sn, .int .i64 k, .slice A3 l.length c3'] 30)).setCell ⟨p, 0, none⟩ (.slice (some ⟨g, off, none⟩) 0 0)) (s, sn, k, l) (.slice A3 l.length c3')) := hid (HX0.out.upd ((Upd.refl (fun k => k = p) _).set1 0 _) (fun k' hk e => by have := (HF0.out k' hk).1; omega))
    have HF1 := hid (show ∀ k', (Value.slice A3 l.length c3').ownBlock = some k' → w1.heap.size ≤ k' ∧ ∃ cs, Blk ((w2.alloc (.cells #[.string s, .int .u64 sn, .int .i64 k, .slice A3 l.length c3'] 30)).setCell ⟨p, 0, none⟩ (.slice (some ⟨g, off, none⟩) 0 0)) k' 2 cs from fun k' hk => ⟨(HF0.out k' hk).1, (HF0.out k' hk).2.elim fun cs hB => ⟨cs, hB.far (by have := (HF0.out k' hk).1; simp; omega) _⟩⟩)
    clear hba hbb huw hua HX0
    go_wp2_with (fail)
    generalize ((w2.alloc (.cells #[.string s, .int .u64 sn, .int .i64 k, .slice A3 l.length c3'] 30)).setCell ⟨p, 0, none⟩ (.slice (some ⟨g, off, none⟩) 0 0)) = wb at *
    have HB := hid (put4_blk hbs.out (s, sn, k, l) (.slice A3 l.length c3'))
    have HU := hid (hup.out.trans (put4_upd wb w.heap.size (s, sn, k, l) (.slice A3 l.length c3')) (fun i hi e => by omega))
    have HX := hid (HX1.out.upd (put4_upd wb w.heap.size (s, sn, k, l) (.slice A3 l.length c3')) (fun k' hk e => by have := (HF1.out k' hk).1; omega))
    have HF := hid (show ∀ k', (Value.slice A3 l.length c3').ownBlock = some k' → w.heap.size ≤ k' ∧ ∃ cs, Blk (put4 wb w.heap.size (s, sn, k, l) (.slice A3 l.length c3')) k' 2 cs from fun k' hk => ⟨by have := (HF1.out k' hk).1; omega, (HF1.out k' hk).2.elim fun cs hB => ⟨cs, hB.upd (put4_upd wb w.heap.size (s, sn, k, l) (.slice A3 l.length c3')) (fun e => by have := (HF1.out k' hk).1; omega)⟩⟩)
    have HP2 := hid (HP.out.upd (put4_upd wb w.heap.size (s, sn, k, l) (.slice A3 l.length c3')) (fun k' hk e => by have := hpl k' hk; omega))
    simp only [put4] at HB HU HX HF HP2
    generalize (((wb.setCell ⟨w.heap.size, 0, none⟩ (.string s)).setCell ⟨w.heap.size, 1, none⟩ (.int .u64 sn)).setCell ⟨w.heap.size, 2, none⟩ (.int .i64 k)).setCell ⟨w.heap.size, 3, none⟩ (.slice A3 l.length c3') = W5 at *
    obtain ⟨q0, q1, q2, q3⟩ := box HB.out
    exact bodyPost_ret (v := .tuple #[val (s, sn, k, l) (.slice A3 l.length c3'), .bool true]) (by simp [results, go_sem, q0, q1, q2, q3, val]) rfl (PopOut.of ⟨_, rfl, HX.out, HP2.out, HU.out, HF.out⟩)
  · rw [if_neg hc1] at HP
    rw [show (some (⟨g, off, none⟩ : Addr)).map (·.add (1 * 4)) = some ⟨g, off + 4, none⟩ from by simp [add_off]] at HP
    have hbs : Hid (Blk ((w2.alloc (.cells #[.string s, .int .u64 sn, .int .i64 k, .slice A3 l.length c3'] 30)).setCell ⟨p, 0, none⟩ (.slice (some ⟨g, off + 4, none⟩) r.length (c - 1))) w.heap.size 30 #[.string ⟨#[]⟩, .int .u64 0, .int .i64 0, .slice none 0 0]) := hid (hba.far (by simp; omega) _)
    have hbt : Hid (Blk ((w2.alloc (.cells #[.string s, .int .u64 sn, .int .i64 k, .slice A3 l.length c3'] 30)).setCell ⟨p, 0, none⟩ (.slice (some ⟨g, off + 4, none⟩) r.length (c - 1))) w2.heap.size 30 #[.string s, .int .u64 sn, .int .i64 k, .slice A3 l.length c3']) := hid (hbb.far (by simp; omega) _)
    obtain ⟨z0, z1, z2, z3⟩ := box hbs.out
    obtain ⟨y0, y1, y2, y3⟩ := box hbt.out
    have g0 := hbs.out.free 0
    have g1 := hbs.out.free 1
    have g2 := hbs.out.free 2
    have g3 := hbs.out.free 3
    have hup : Hid (Upd F w ((w2.alloc (.cells #[.string s, .int .u64 sn, .int .i64 k, .slice A3 l.length c3'] 30)).setCell ⟨p, 0, none⟩ (.slice (some ⟨g, off + 4, none⟩) r.length (c - 1)))) := hid ((huw.mono fun _ _ h => h.elim).set (.inl i3) _)
    have HX1 : Hid (In ((w2.alloc (.cells #[.string s, .int .u64 sn, .int .i64 k, .slice A3 l.length c3'] 30)).setCell ⟨p, 0, none⟩ (.slice (some ⟨g, off + 4, none⟩) r.length (c - 1))) (s, sn, k, l) (.slice A3 l.length c3')) := hid (HX0.out.upd ((Upd.refl (fun k => k = p) _).set1 0 _) (fun k' hk e => by have := (HF0.out k' hk).1; omega))
    have HF1 := hid (show ∀ k', (Value.slice A3 l.length c3').ownBlock = some k' → w1.heap.size ≤ k' ∧ ∃ cs, Blk ((w2.alloc (.cells #[.string s, .int .u64 sn, .int .i64 k, .slice A3 l.length c3'] 30)).setCell ⟨p, 0, none⟩ (.slice (some ⟨g, off + 4, none⟩) r.length (c - 1))) k' 2 cs from fun k' hk => ⟨(HF0.out k' hk).1, (HF0.out k' hk).2.elim fun cs hB => ⟨cs, hB.far (by have := (HF0.out k' hk).1; simp; omega) _⟩⟩)
    clear hba hbb huw hua HX0
    go_wp2_with (fail)
    generalize ((w2.alloc (.cells #[.string s, .int .u64 sn, .int .i64 k, .slice A3 l.length c3'] 30)).setCell ⟨p, 0, none⟩ (.slice (some ⟨g, off + 4, none⟩) r.length (c - 1))) = wb at *
    have HB := hid (put4_blk hbs.out (s, sn, k, l) (.slice A3 l.length c3'))
    have HU := hid (hup.out.trans (put4_upd wb w.heap.size (s, sn, k, l) (.slice A3 l.length c3')) (fun i hi e => by omega))
    have HX := hid (HX1.out.upd (put4_upd wb w.heap.size (s, sn, k, l) (.slice A3 l.length c3')) (fun k' hk e => by have := (HF1.out k' hk).1; omega))
    have HF := hid (show ∀ k', (Value.slice A3 l.length c3').ownBlock = some k' → w.heap.size ≤ k' ∧ ∃ cs, Blk (put4 wb w.heap.size (s, sn, k, l) (.slice A3 l.length c3')) k' 2 cs from fun k' hk => ⟨by have := (HF1.out k' hk).1; omega, (HF1.out k' hk).2.elim fun cs hB => ⟨cs, hB.upd (put4_upd wb w.heap.size (s, sn, k, l) (.slice A3 l.length c3')) (fun e => by have := (HF1.out k' hk).1; omega)⟩⟩)
    have HP2 := hid (HP.out.upd (put4_upd wb w.heap.size (s, sn, k, l) (.slice A3 l.length c3')) (fun k' hk e => by have := hpl k' hk; omega))
    simp only [put4] at HB HU HX HF HP2
    generalize (((wb.setCell ⟨w.heap.size, 0, none⟩ (.string s)).setCell ⟨w.heap.size, 1, none⟩ (.int .u64 sn)).setCell ⟨w.heap.size, 2, none⟩ (.int .i64 k)).setCell ⟨w.heap.size, 3, none⟩ (.slice A3 l.length c3') = W5 at *
    obtain ⟨q0, q1, q2, q3⟩ := box HB.out
    exact bodyPost_ret (v := .tuple #[val (s, sn, k, l) (.slice A3 l.length c3'), .bool true]) (by simp [results, go_sem, q0, q1, q2, q3, val]) rfl (PopOut.of ⟨_, rfl, HX.out, HP2.out, HU.out, HF.out⟩)
end Go.Proofs.Ytgbdpplnfcfhmaa.Ib
