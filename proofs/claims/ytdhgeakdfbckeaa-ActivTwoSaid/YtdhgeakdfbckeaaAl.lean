/-
  reevelaw21.awake; arguments; the walk of ActivPlays.
-/
import Derived.Test.YtdhgeakdfbckeaaAu
import Derived.Test.YtdhgeakdfbckeaaOp
set_option linter.unusedVariables false
set_option linter.unusedSimpArgs false
namespace Go.Proofs.Ytdhgeakdfbckeaa.At
open Go.ChangeShapes Go.WideShapes Go.ChangeAt Go.RowKit Go.Proofs.Ytdhgeakdfbckeaa Go.Proofs.Ytdhgeakdfbckeaa.B Go.Proofs.Ytdhgeakdfbckeaa.Df Go.Proofs.Ytdhgeakdfbckeaa.Op
theorem below_drew {B : Nat} {w w' : World} (h : Below B w w') : Below B w w'.drew := ⟨h.os, h.tape, h.output, h.size, h.block⟩
theorem add_field (ad : Addr) (m k : Nat) (hk : 0 < k) : ad.add (m + k) = ⟨(ad.add m).block, (ad.add m).off + k, none⟩ := by
  unfold Addr.add
  by_cases hm : m = 0
  · subst hm; simp; omega
  · simp [hm]; omega
/-- A table that is new since w. -/
structure On (w W : World) (F : Nat → Prop) (p : Nat) (room : Int) (x : List ByteArray) : Prop where
  ta : Ta W F p room x
  own : ∀ k, F k → w.heap.size ≤ k
  bel : Below w.heap.size w W
  le : x.length ≤ 10000
section
variable {w W W' : World} {F F' H : Nat → Prop} {p : Nat} {room : Int} {x y : List ByteArray}
theorem On.moved (h : On w W F p room x) (hw : Ta W' F' p room y) (hm : Mv F F' W W') (hl : y.length ≤ 10000) : On w W' F' p room y where
  ta := hw
  own := fun k hk => (hm.sub k hk).elim (h.own k) fun hs => Nat.le_trans h.bel.size hs
  bel := h.bel.trans (hm.upd.below h.bel.size h.own)
  le := hl
theorem On.quiet (h : On w W F p room x) (hu : Upd No W W') : On w W' F p room x where
  ta := h.ta.upd hu fun _ _ => no_ _
  own := h.own
  bel := h.bel.trans (hu.old h.bel.size)
  le := h.le
theorem On.upd (h : On w W F p room x) (hu : Upd H W W') (hb : Below w.heap.size w W') (hn : ∀ k, F k → ¬ H k) : On w W' F p room x where
  ta := h.ta.upd hu hn
  own := h.own
  bel := hb
  le := h.le
end
theorem new2 (r : Int) (w W : World) (hb : Below w.heap.size w W) : Calls Try.prog 8 #[.int .i64 r] W fun e w' => e = .returned (.pointer (some ⟨W.heap.size, 0, none⟩)) ∧ On w w' (fun k => k = W.heap.size) W.heap.size (clip r) [] ∧ Upd No W w' := by
  refine (new_ r W).mono ?_
  rintro e w' ⟨h1, h2, hu⟩
  exact ⟨h1, ⟨h2, fun k hk => by rw [hk]; exact hb.size, hb.trans (hu.old hb.size), by simp⟩, hu⟩
set_option maxHeartbeats 1000000 in
theorem awake (w : World) : Calls Try.prog 7 #[] w fun e w' => e = .returned (.bool true) ∧ Below w.heap.size w w' := by
  have E0 : clip 1 = 1 := by decide
  have E1 : Hid (touchX [] (mst 1) ⟨#[97]⟩ = ([⟨#[97]⟩], ⟨#[]⟩, false)) := hid (by rfl)
  have E2 : Hid (touchX [⟨#[97]⟩] (mst 1) ⟨#[98]⟩ = ([⟨#[98]⟩], ⟨#[97]⟩, true)) := hid (by rfl)
  have E3 : Hid (hasK [⟨#[98]⟩] ⟨#[98]⟩ = true) := hid (by rfl)
  have HN := hid (new2 1 w w (Below.refl _ _))
  rw [E0] at HN
  clear E0
  go_enter Try.func7, Try.ntmps7
  go_wp2_with (fail)
  refine Calls.mono HN.out ?_
  rintro e w1 ⟨rfl, hO1, _⟩
  have HO1 := hid hO1
  clear hO1
  have HT := hid (touch (⟨#[97]⟩ : ByteArray) HO1.out.ta (by simp))
  rw [E1.out] at HT
  go_wp2_with (fail)
  refine Calls.mono HT.out ?_
  rintro e w2 ⟨rfl, F2, hw2, hm2⟩
  have HO2 := hid (HO1.out.moved hw2 hm2 (by simp))
  clear hw2 hm2
  have HT2 := hid (touch (⟨#[98]⟩ : ByteArray) HO2.out.ta (by simp))
  rw [E2.out] at HT2
  go_wp2_with (fail)
  refine Calls.mono HT2.out ?_
  rintro e w3 ⟨rfl, F3, hw3, hm3⟩
  have HO3 := hid (HO2.out.moved hw3 hm3 (by simp))
  clear hw3 hm3
  have HS := hid (has_ (⟨#[98]⟩ : ByteArray) HO3.out.ta)
  rw [E3.out] at HS
  go_wp2_with (fail)
  refine Calls.mono HS.out ?_
  rintro e w4 ⟨rfl, rfl⟩
  go_wp2
  go_ret
  exact ⟨rfl, HO3.out.bel⟩
/-! arguments -/
theorem open_strs {H : Type} {enc : TypeId × Value → H} {W : World} {base : Nat} {v : Value} {d : DataW H} {p : List MemPlace}
    (hv : Value.okWide Try.prog W .any base 28 v) (h : DataW.Trod enc Try.prog W 0 (fun _ => true) true 28 v d p) :
    ∃ (xs : List ByteArray) (A : Option Addr) (c : Nat), v = .slice A xs.length c ∧ Rd W 1 A xs.length (strs xs) ∧ (xs.length ≤ maxLen ∧ ∀ x ∈ xs, x.size ≤ maxLen) := by
  obtain ⟨xs, A, c, h1, h2, h3, h4, h5, h6, h7, h8⟩ := open_rows (α := ByteArray) 1 (fun k => [.string k]) (fun o _ => o.size ≤ maxLen) Try.underlying28 (by kernel_rfl) (by omega)
    (fun n cs x hx hl => by
      obtain ⟨s, hs, _, hw⟩ := DataW.trod_string Try.underlying9 hx
      exact ⟨s, hs, hw⟩) hv h
  exact ⟨xs, A, c, h1, by rw [show strs xs = xs.flatMap fun k => [.string k] from List.map_eq_flatMap]; exact h2, Nat.le_trans h4 h5, fun x hx => (h7 x hx).elim fun _ h => h⟩
abbrev Od := Int × ByteArray
def odc (o : Od) : List Value := [.int .i64 o.1, .string o.2]
theorem open_ops {H : Type} {enc : TypeId × Value → H} {W : World} {base : Nat} {v : Value} {d : DataW H} {p : List MemPlace}
    (hv : Value.okWide Try.prog W .any base 22 v) (h : DataW.Trod enc Try.prog W 0 (fun _ => true) true 22 v d p) :
    ∃ (xs : List Od) (A : Option Addr) (c : Nat), v = .slice A xs.length c ∧ Rd W 2 A xs.length (xs.flatMap odc) ∧ (xs.length ≤ maxLen ∧ ∀ x ∈ xs, x.2.size ≤ maxLen) := by
  obtain ⟨xs, A, c, h1, h2, h3, h4, h5, h6, h7, h8⟩ := open_rows (α := Od) 2 odc (fun o _ => o.2.size ≤ maxLen) Try.underlying22 (by kernel_rfl) (by omega)
    (fun n cs x hx hl => by
      obtain ⟨ys, k, hk, hxy, _, hxl, hf⟩ := DataW.trod_struct Try.underlying32 hx
      match ys, hxl, cs, hl with
      | [y0, y1], _, [v0, v1], _ =>
        have g0 := hf 0 _ rfl
        have g1 := hf 1 _ rfl
        have e0 : Try.prog.cellsOf 3 = 1 := by kernel_rfl
        have e1 : Try.prog.cellsOf 9 = 1 := by kernel_rfl
        simp [e0, e1] at g0 g1
        obtain ⟨x0, z0, _, _⟩ := DataW.trod_int Try.underlying3 g0
        obtain ⟨x1, z1, _, w1⟩ := DataW.trod_string Try.underlying9 g1
        simp only [List.cons.injEq, and_true] at z0 z1
        subst z0 z1
        exact ⟨(x0, x1), rfl, w1⟩) hv h
  exact ⟨xs, A, c, h1, h2, Nat.le_trans h4 h5, fun x hx => (h7 x hx).elim fun _ h => h⟩
theorem od_at {W : World} {A : Option Addr} {xs : List Od} (h : Rd W 2 A xs.length (xs.flatMap odc)) {i : Nat} (hi : i < xs.length) :
    ∃ ad, A = some ad ∧ W.cell? (ad.add (i * 2)) = some (.int .i64 xs[i].1) ∧ W.cell? ⟨(ad.add (i * 2)).block, (ad.add (i * 2)).off + 1, none⟩ = some (.string xs[i].2) := by
  obtain ⟨ad, e, hc⟩ := row_at h (fun _ _ => rfl) rfl hi
  have h0 := hc 0 (by omega)
  have h1 := hc 1 (by omega)
  rw [add_field _ _ _ (by omega)] at h1
  exact ⟨ad, e, h0, h1⟩
/-- Both tables hold x. -/
structure Bo (w W : World) (F : Nat → Prop) (p : Nat) (room : Int) (G : Nat → Prop) (q : Nat) (x : List ByteArray) : Prop where
  a : On w W F p room x
  b : Tb W G q (mst room) x
  fg : ∀ k, F k → ¬ G k
  own : ∀ k, G k → w.heap.size ≤ k
  mm : mst room ≤ 10000
section
variable {w W W1 W2 : World} {F F' G G' : Nat → Prop} {p q : Nat} {room : Int} {x y : List ByteArray}
theorem Bo.moved (h : Bo w W F p room G q x) (ha : Ta W1 F' p room y) (hm : Mv F F' W W1) (hb : Tb W2 G' q (mst room) y) (hm2 : Mv G G' W1 W2) (hl : y.length ≤ 10000) : Bo w W2 F' p room G' q y := by
  have h1 := h.a.moved ha hm hl
  have hF : ∀ k, F' k → ¬ G k := fun k hk hg => (hm.sub k hk).elim (fun hf => h.fg k hf hg) fun hn => by have := h.b.lt k hg; omega
  have hb2 : Below w.heap.size w W2 := h1.bel.trans (hm2.upd.below h1.bel.size h.own)
  exact ⟨h1.upd hm2.upd hb2 hF, hb, fun k hk hg => (hm2.sub k hg).elim (hF k hk) fun hn => by have := ha.lt k hk; omega, fun k hk => (hm2.sub k hk).elim (h.own k) fun hn => Nat.le_trans h1.bel.size hn, h.mm⟩
theorem Bo.quiet (h : Bo w W F p room G q x) (hu : Upd No W W1) : Bo w W1 F p room G q x := ⟨h.a.quiet hu, h.b.upd hu fun _ _ => no_ _, h.fg, h.own, h.mm⟩
end
end Go.Proofs.Ytdhgeakdfbckeaa.At
