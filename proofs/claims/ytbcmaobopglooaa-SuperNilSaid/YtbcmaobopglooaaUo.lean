/-
  The object of package super; its small calls.
-/
import Derived.Test.YtbcmaobopglooaaUp
import Derived.Test.YtbcmaobopglooaaCr2
import Derived.Test.YtbcmaobopglooaaSo
import Derived.Test.YtbcmaobopglooaaDq
set_option linter.unusedVariables false
set_option linter.unusedSimpArgs false
namespace Go.Proofs.Ytbcmaobopglooaa.Up
open Go.RowKit Go.Proofs.Ytbcmaobopglooaa.B Go.Proofs.Ytbcmaobopglooaa.Cm Go.Proofs.Ytbcmaobopglooaa.Sm Go.Proofs.Ytbcmaobopglooaa.Dk
/-- What a record holds. -/
structure Su where
  gen : Int
  pay : List Int
  over : Bool
def Su.ok (m : Su) : Prop := (0 ≤ m.gen ∧ m.gen ≤ 18446744073709551615) ∧ m.pay.length ≤ 242 ∧ Byte m.pay
/-- The record at q, on the disk at p, holds m. -/
def Sp (w : World) (F : Nat → Prop) (q p : Nat) (m : Su) : Prop :=
  ∃ A c, Blk w q 44 #[.pointer (some ⟨p, 0, none⟩), .int .u64 m.gen, .slice A m.pay.length c, .bool m.over] ∧ Rn w .u8 A m.pay ∧ (m.pay.length ≤ c ∧ c ≤ 9223372036854775807) ∧
    (0 < m.pay.length → ∀ ad, A = some ad → F ad.block ∧ ad.block ≠ q) ∧ F q ∧ ∀ k, F k → k < w.heap.size
section
variable {w w' : World} {F G : Nat → Prop} {q p : Nat} {m : Su}
theorem rd0 {w w' : World} {A : Option Addr} {n size : Nat} {xs : List Value} {F : Nat → Prop} (h : Rd w size A n xs) (hs : 0 < size) (hu : Upd F w w') (hn : 0 < n → ∀ ad, A = some ad → ¬ F ad.block) : Rd w' size A n xs := by
  by_cases h0 : 0 < n
  · exact Rd.upd h hs hu (hn h0)
  · exact ⟨h.1, fun h1 => absurd h1 h0⟩
theorem Sp.upd (h : Sp w F q p m) (hu : Upd G w w') (hn : ∀ k, F k → ¬ G k) : Sp w' F q p m := by
  obtain ⟨A, c, h1, h2, h3, h4, h5, h6⟩ := h
  exact ⟨A, c, h1.upd hu (hn _ h5), rd0 h2 (by omega) hu fun h0 ad e => hn _ (h4 h0 ad e).1, h3, h4, h5, fun k hk => Nat.lt_of_lt_of_le (h6 k hk) hu.size⟩
theorem Sp.quiet (h : Sp w F q p m) (hu : Upd No w w') : Sp w' F q p m := h.upd hu fun _ _ => no_ _
theorem Sp.lt (h : Sp w F q p m) : ∀ k, F k → k < w.heap.size := by
  obtain ⟨A, c, h1, h2, h3, h4, h5, h6⟩ := h
  exact h6
theorem Sp.here (h : Sp w F q p m) : F q := by
  obtain ⟨A, c, h1, h2, h3, h4, h5, h6⟩ := h
  exact h5
/-- Behind a store to the flag. -/
theorem Sp.flag (h : Sp w F q p m) (b : Bool) : Sp (w.setCell ⟨q, 3, none⟩ (.bool b)) F q p { m with over := b } := by
  obtain ⟨A, c, h1, h2, h3, h4, h5, h6⟩ := h
  have hu : Upd (fun k => k = q) w (w.setCell ⟨q, 3, none⟩ (.bool b)) := (Upd.refl _ _).set1 _ _
  exact ⟨A, c, by simpa using h1.put 3 (.bool b), rd0 h2 (by omega) hu fun h0 ad e => (h4 h0 ad e).2, h3, h4, h5, fun k hk => Nat.lt_of_lt_of_le (h6 k hk) hu.size⟩
/-- Behind stores of a generation and a payload. -/
theorem Sp.laid {A' : Option Addr} {c' : Nat} {l : List Int} {g : Int} (h : Sp w F q p m) (hu : Upd (fun k => k = q) w w') (hb : ∀ A c, Blk w q 44 #[.pointer (some ⟨p, 0, none⟩), .int .u64 m.gen, .slice A m.pay.length c, .bool m.over] → Blk w' q 44 #[.pointer (some ⟨p, 0, none⟩), .int .u64 g, .slice A' l.length c', .bool m.over])
    (hr : Rn w .u8 A' l) (hc : l.length ≤ c' ∧ c' ≤ 9223372036854775807) (hq : 0 < l.length → ∀ ad, A' = some ad → ad.block ≠ q ∧ ad.block < w.heap.size) : Sp w' (fun k => F k ∨ (0 < l.length ∧ ∃ ad, A' = some ad ∧ k = ad.block)) q p { m with gen := g, pay := l } := by
  obtain ⟨A, c, h1, h2, h3, h4, h5, h6⟩ := h
  refine ⟨A', c', hb A c h1, rd0 hr (by omega) hu fun h0 ad e => (hq h0 ad e).1, hc, fun h0 ad e => ⟨.inr ⟨h0, ad, e, rfl⟩, (hq h0 ad e).1⟩, .inl h5, ?_⟩
  rintro k (hk | ⟨h0, ad, e, rfl⟩)
  · exact Nat.lt_of_lt_of_le (h6 k hk) hu.size
  · exact Nat.lt_of_lt_of_le (hq h0 ad e).2 hu.size
end
set_option maxHeartbeats 400000 in
theorem generation_nil (w : World) : Calls Try.prog 12 #[.pointer none] w fun e w' => e = .returned (.int .u64 0) ∧ w = w' := by
  go_enter Try.func12, Try.ntmps12
  go_wp2
  go_ret
  exact ⟨rfl, rfl⟩
set_option maxHeartbeats 400000 in
theorem generation (w : World) (F : Nat → Prop) (q p : Nat) (m : Su) (h : Sp w F q p m) : Calls Try.prog 12 #[.pointer (some ⟨q, 0, none⟩)] w fun e w' => e = .returned (.int .u64 m.gen) ∧ w = w' := by
  obtain ⟨A, c, h1, h2, h3, h4, h5, h6⟩ := h
  have hc1 := h1.cell 1
  simp at hc1
  go_enter Try.func12, Try.ntmps12
  go_wp2
  go_ret
  exact ⟨rfl, rfl⟩
set_option maxHeartbeats 400000 in
theorem payload_nil (w : World) : Calls Try.prog 11 #[.pointer none] w fun e w' => e = .returned (.slice none 0 0) ∧ w = w' := by
  go_enter Try.func11, Try.ntmps11
  go_wp2
  go_ret
  exact ⟨rfl, rfl⟩
/-- A new slice of bytes. -/
def NewB (w : World) (l : List Int) (e : Ending) (w' : World) : Prop := ∃ A c, e = .returned (.slice A l.length c) ∧ w'.ownsRow w.heap.size 5 1 (.slice A l.length c) l.length (nums .u8 l) ∧ Upd No w w'
theorem NewB.of {w : World} {l : List Int} {e : Ending} {w' : World} (h : ∃ A c, e = .returned (.slice A l.length c) ∧ w'.ownsRow w.heap.size 5 1 (.slice A l.length c) l.length (nums .u8 l) ∧ Upd No w w') : NewB w l e w' := h
set_option maxHeartbeats 400000 in
theorem payload (w : World) (F : Nat → Prop) (q p : Nat) (m : Su) (h : Sp w F q p m) (hok : m.ok) : Calls Try.prog 11 #[.pointer (some ⟨q, 0, none⟩)] w fun e w' => NewB w m.pay e w' := by
  obtain ⟨A, c, h1, h2, h3, h4, h5, h6⟩ := h
  have hc2 := h1.cell 2
  simp at hc2
  have hl := hok.2.1
  have HC := hid (clone A m.pay.length c (nums .u8 m.pay) w h2 (nums_one .u8 _) (by omega))
  go_enter Try.func11, Try.ntmps11
  go_wp2_with (fail)
  refine Calls.mono HC.out ?_
  rintro e w' ⟨A', c', rfl, ho', hu', _⟩
  go_wp2
  go_ret
  exact .of ⟨A', c', rfl, ho', hu'⟩
end Go.Proofs.Ytbcmaobopglooaa.Up
