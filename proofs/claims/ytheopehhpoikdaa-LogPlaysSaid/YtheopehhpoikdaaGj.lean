/-
  LogPlays: the law, its numbers as they come.
-/
import Derived.Test.YtheopehhpoikdaaGk
set_option linter.unusedVariables false
set_option linter.unusedSimpArgs false
namespace Go.Proofs.Ytheopehhpoikdaa.Gl
open Go.RowKit Go.Proofs.Ytheopehhpoikdaa Go.Proofs.Ytheopehhpoikdaa.B Go.Proofs.Ytheopehhpoikdaa.Cm Go.Proofs.Ytheopehhpoikdaa.Sm Go.Proofs.Ytheopehhpoikdaa.Dk Go.Proofs.Ytheopehhpoikdaa.Gp
theorem plays_law (n k : Int) (A : Option Addr) (c : Nat) (xs : List Oi) (w : World) (hn : 0 ≤ n ∧ n ≤ 255) (hk : 0 ≤ k ∧ k ≤ 255) (hr : Rd w 3 A xs.length (xs.flatMap ocells)) (hl : xs.length ≤ c ∧ c ≤ maxLen) (hx : ∀ x ∈ xs, Orow w x ∧ Byte x.2.1 ∧ -9223372036854775808 ≤ x.1.2 ∧ x.1.2 ≤ 9223372036854775807) :
    Calls Try.prog 7 #[.int .u8 n, .int .u8 k, .slice A xs.length c] w fun e w' => e = .returned (.bool true) ∧ Below w.heap.size w w' := by
  obtain ⟨C, rfl⟩ : ∃ C : Nat, n = C := ⟨n.toNat, by omega⟩
  obtain ⟨f, rfl⟩ : ∃ f : Nat, k = f := ⟨k.toNat, by omega⟩
  exact plays C f A c xs w (by omega) (by omega) hr hl hx
end Go.Proofs.Ytheopehhpoikdaa.Gl
