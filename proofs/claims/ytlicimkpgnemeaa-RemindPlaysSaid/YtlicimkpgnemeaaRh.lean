/-
  RemindPlays.
-/
import Derived.Test.YtlicimkpgnemeaaRf
set_option linter.unusedVariables false
set_option linter.unusedSimpArgs false
namespace Go.Proofs.Ytlicimkpgnemeaa.Nd
open Go.RowKit Go.Proofs.Ytlicimkpgnemeaa.B Go.Proofs.Ytlicimkpgnemeaa.Op
set_option maxHeartbeats 400000 in
set_option maxRecDepth 100000 in
theorem plays_law (A : Option Addr) (c : Nat) (xs : List Oi) (zero : Bool) (w : World) (hr : Rd w 7 A xs.length (xs.flatMap ocells)) (hl : xs.length ≤ maxLen) (hx : ∀ x ∈ xs, Rg x.2.1) :
    Calls Try.prog 6 #[.slice A xs.length c, .bool zero] w fun e w' => e = .returned (.bool true) ∧ Below w.heap.size w w' := by
  have HPl := hid fun (W : World) (q p : Nat) (h : TwE w W q p) => play_ (c := c) h (fun W hu => Rd.upd hr (by omega) (Upd.of_below No hu) fun _ _ => no_ _) hl hx
  clear hr hl hx
  go_enter Try.func6, Try.ntmps6
  go_wp2_with (fail)
  refine (awake w).mono ?_
  rintro e w1 ⟨rfl, hb1⟩
  have HB := hid hb1
  have HP := hid (Pq.new hb1)
  clear hb1
  go_wp2_with (fail)
  refine (new_ w1).mono ?_
  rintro e w2 ⟨rfl, rfl⟩
  cases zero
  case' false =>
    have HC := hid (HPl.out _ _ _ ⟨_, _, _, Tw.new HP.out⟩)
  case' true =>
    have hp2 : Pq w ((w1.alloc (.cells #[.slice none 0 0] 47)).alloc (.cells #[.slice none 0 0] 47)) _ _ [] := Pq.new HP.out.bel
    have HC := hid (HPl.out _ _ _ ⟨_, _, _, Tw.new hp2⟩)
    clear hp2
  all_goals
    have e1 : ∀ (W : World) o, (W.alloc o).heap.size = W.heap.size + 1 := fun W o => by simp
    simp only [e1] at HC
    clear e1 HP
    go_wp2_with (fail)
    refine HC.out.mono ?_
    rintro e w9 ⟨rfl, h9⟩
    have HE := hid h9.bel
    clear h9 HC
    go_wp2
    go_ret
    exact ⟨rfl, HE.out⟩
end Go.Proofs.Ytlicimkpgnemeaa.Nd
