/-
  The walk of LogPlays.
-/
import Derived.Test.YtheopehhpoikdaaGt
set_option linter.unusedVariables false
set_option linter.unusedSimpArgs false
namespace Go.Proofs.Ytheopehhpoikdaa.Gl
open Go.RowKit Go.Proofs.Ytheopehhpoikdaa Go.Proofs.Ytheopehhpoikdaa.B Go.Proofs.Ytheopehhpoikdaa.Cm Go.Proofs.Ytheopehhpoikdaa.Sm Go.Proofs.Ytheopehhpoikdaa.Dk Go.Proofs.Ytheopehhpoikdaa.Gp
theorem by_num (N : Int) : ∃ y : Nat, y < 5 ∧ (IntKind.u64.wrap N).tmod 5 = (y : Int) := by
  have h : IntKind.u64.wrap N = N % 18446744073709551616 := by simp [IntKind.wrap, IntKind.bits, IntKind.signed]
  rw [h, Int.tmod_eq_emod_of_nonneg (by omega)]
  exact ⟨(N % 18446744073709551616 % 5).toNat, by omega, by omega⟩
/-- The first Open. -/
theorem open_first {w W : World} {D : Nat → Prop} {p r nb fr count : Nat} (h : Pd w W D p ⟨nb, [], -1, false⟩) (hrl : Rl W r (.slice none 0 0) [] count 1) (hr : w.heap.size ≤ r ∧ ¬ D r) (hnb : nb ≤ 65536) (hn : 1 ≤ count) (ha : fr + count ≤ nb) :
    Calls Try.prog 9 #[.pointer (some ⟨p, 0, none⟩), .int .i64 fr, .int .i64 count, .int .u64 1] W fun e w' => ∃ q F, e = .returned (.tuple #[.pointer (some ⟨q, 0, none⟩), .int .i64 0]) ∧ Tw w w' F D q p r (Lm.new fr count 1) ⟨nb, [], -1, false⟩ (.slice none 0 0) [] := by
  have h1 := open_ p ⟨nb, [], -1, false⟩ D fr count 1 W h.dk ⟨by simp, by simp, hnb⟩ (fun x hx => by cases hx) (by omega)
  rw [opL_new hn ha (by omega)] at h1
  refine h1.mono ?_
  rintro e w' ⟨q, F, rfl, hl, _, hF, hu⟩
  exact ⟨q, F, rfl, h.opened hl hF hu, hrl.upd hu (no_ _) fun _ _ => no_ _, ⟨hr.1, fun h' => by have := hF r h'; have := hrl.blk.lt; omega, hr.2⟩, fun g hg => by simp [Value.ownBlock] at hg⟩
/-- What a round begins with: the three, and a log that goes on. -/
structure Ro (w W : World) (F D : Nat → Prop) (q p r : Nat) (m : Lm) (d : Dm) (v : Value) (fr count nb n : Nat) : Prop where
  tw : Tw w W F D q p r m d v m.us
  lv : Live m d fr count m.ep nb n
  ep : 1 ≤ m.ep ∧ m.ep ≤ 1 + 4 * n
theorem Ro.quiet {w W W' : World} {F D : Nat → Prop} {q p r : Nat} {m : Lm} {d : Dm} {v : Value} {fr count nb n : Nat} (h : Ro w W F D q p r m d v fr count nb n) (hu : Upd No W W') : Ro w W' F D q p r m d v fr count nb n := ⟨h.tw.quiet hu, h.lv, h.ep⟩
theorem Live.later1 {m : Lm} {d : Dm} {fr count nb n : Nat} {ep : Int} (h : Live m d fr count ep nb n) : Live m d fr count ep nb (n + 1) :=
  ⟨h.snd, h.fr, h.count, h.ep, h.over, h.down, h.fuse, h.nb, by have := h.size; omega⟩
theorem Ro.next {w W : World} {F D : Nat → Prop} {q p r : Nat} {m : Lm} {d : Dm} {v : Value} {fr count nb n : Nat} (h : Ro w W F D q p r m d v fr count nb n) : Ro w W F D q p r m d v fr count nb (n + 1) := ⟨h.tw, h.lv.later1, by have := h.ep; omega⟩
/-- Behind a Reset of both. -/
theorem Tw.reset {w W W' : World} {F D : Nat → Prop} {q p r : Nat} {m m' : Lm} {d : Dm} {v : Value} {us : List (List Int)} (h : Tw w W F D q p r m d v us) (hl : Lg W' F q p m') (hu : Upd F W W') (hc : m'.count = m.count) :
    Tw w ((W'.setCell ⟨r, 0, none⟩ (.slice none 0 0)).setCell ⟨r, 2, none⟩ (.int .u64 m'.ep)) F D q p r m' d (.slice none 0 0) [] := by
  have hp : Pl w W' F D q p m' d := ⟨hl, h.pl.dk.upd hu fun k hk hf => h.pl.fd k hf hk, h.pl.fd, h.pl.own, h.pl.bel.trans (hu.below h.pl.bel.size fun k hk => h.pl.own k (.inl hk))⟩
  have hb := h.rl.blk.upd hu h.rn.2.1
  have hu2 : Upd (fun k => k = r) W' ((W'.setCell ⟨r, 0, none⟩ (.slice none 0 0)).setCell ⟨r, 2, none⟩ (.int .u64 m'.ep)) := ((Upd.refl _ _).set1 _ _).set1 _ _
  refine ⟨⟨hp.lg.upd hu2 fun k hk e => h.rn.2.1 (e ▸ hk), hp.dk.upd hu2 fun k hk e => h.rn.2.2 (e ▸ hk), hp.fd, hp.own, hp.bel.trans (hu2.below hp.bel.size fun k hk => hk ▸ h.rn.1)⟩, ⟨?_, World.ownsRow_nil _ _ _ _⟩, h.rn, fun g hg => by simp [Value.ownBlock] at hg⟩
  have := (hb.put 0 (.slice none 0 0)).put 2 (.int .u64 m'.ep)
  rw [hc]
  simpa using this
end Go.Proofs.Ytheopehhpoikdaa.Gl
