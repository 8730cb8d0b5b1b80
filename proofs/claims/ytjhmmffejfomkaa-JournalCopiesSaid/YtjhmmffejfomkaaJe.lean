/-
  '==' of arrays of eight numbers.
-/
import Derived.Test.YtjhmmffejfomkaaJo
import Derived.ChangeKeysEq
set_option linter.unusedVariables false
set_option linter.unusedSimpArgs false
namespace Go.Proofs.Ytjhmmffejfomkaa.Jn
open Go.RowKit Go.Proofs.Ytjhmmffejfomkaa.B
theorem eq_i64 (d : Nat) (x : Int) (w : World) : (Op.equalIn (d + 1) 2 (.int .i64 x) (.int .i64 x)).run Try.prog w = .ok true w := by
  simp [Op.equalIn, run_underlying Try.underlying2]
theorem part_arr (b : List Int) (w : World) (i : Nat) (hi : i < 8) : (part 2 (arr b) i).run Try.prog w = .ok (.int .i64 (gi b i)) w :=
  run_part_plain w (by kernel_rfl) (arr_get b i hi)
theorem eq_arr (b : List Int) (w : World) : (Op.equalIn 10000 27 (.agg (arr b)) (.agg (arr b))).run Try.prog w = .ok true w := by
  obtain ⟨i, hi⟩ := info_of_underlying Try.underlying2
  rw [run_equalIn_array w 9999 (arr b) (arr b) Try.underlying27 hi, show Try.prog.cellsOf 2 = 1 from by kernel_rfl]
  have hp := part_arr b w
  have he := fun x => eq_i64 9998 x w
  simp only [show List.range 8 = [0, 1, 2, 3, 4, 5, 6, 7] from rfl, Op.eqItems, Nat.mul_one, Sem.run_bind, hp 0 (by omega), hp 1 (by omega), hp 2 (by omega), hp 3 (by omega), hp 4 (by omega), hp 5 (by omega), hp 6 (by omega), hp 7 (by omega), Result.andThen_ok, he, Bool.not_true, Bool.false_eq_true, if_false, Sem.run_pure]
end Go.Proofs.Ytjhmmffejfomkaa.Jn
