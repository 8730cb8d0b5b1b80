/-
  CodecBack: for every input the law returns true, and each argument reads behind the call as it read before; where what it reads is of the bulk that the given row names.
-/
import Derived.Test.YtlghblpkgmajeaaLaw
import Derived.Test.YtlghblpkgmajeaaCl
import Derived.Test.YtlghblpkgmajeaaCb
set_option linter.unusedVariables false
set_option linter.unusedSimpArgs false
namespace Go.Proofs.Ytlghblpkgmajeaa.codecBack
open Go.ChangeShapes Go.WideShapes Go.ChangeAt Go.RowKit Go.Proofs.Ytlghblpkgmajeaa
open Go.ChangeMaps (open_string shut_string)
set_option maxRecDepth 100000 in
theorem lifted (os : Os) (started : os.Started) (H : Type) (enc : TypeId × Value → H) (F : Stop.Interp) :
    ReturnsInHanded {} Try.checked os 8 .any ((Rows.OpenSpec.upto Rows.codecBackSpec).pre6 enc Try.prog Try.f8 Rows.codecBackUptoRow.domain false) (((Rows.OpenSpec.upto Rows.codecBackSpec).at F).post enc Try.prog Try.f8 false true false false) := by
  refine returnsInHanded_of_cond_sized (C := Try.checked) (s := (Rows.OpenSpec.upto Rows.codecBackSpec)) (k := Rows.uptoSmall) rfl Law.own started (by kernel_rfl) Try.func8
    (OpenSpec.witness (enc := enc) (C := Try.checked) (s := (Rows.OpenSpec.upto Rows.codecBackSpec)) (k := Rows.uptoSmall) rfl false ⟨#[], #[.slice none 0 0], []⟩ 8 (by kernel_rfl) (by kernel_rfl) (by kernel_rfl)
      (x := ([.nil], [], [])) (by kernel_rfl) rfl (by kernel_rfl)) ?_
  intro W base args ds gs before hval0 hW hcnd hk hsz0 _
  have hval : ∀ (j : Nat) t v, Try.f8.params[j]? = some t → args[j]? = some v → Value.okWide Try.prog W .any base t v := hval0
  have hsz : (DataW.weightsEach Try.prog (Try.f8.params.toList ++ (Rows.codecBackSpec).plain.varTypes Try.prog) (ds ++ gs)).all (· ≤ reachBytes) = true := hsz0
  have hpost : ∀ W', Below W.heap.size W W' → Rows.codecBackSpec.post enc Try.prog Try.f8 false true false false W args (.bool true) W' := fun W' hb => Law.post_true Law.laidOut (by kernel_rfl) rfl rfl Try.underlying4 (fun ds hl => by match ds, hl with | [_], _ => rfl) hW hb
  obtain ⟨p, q, hA0, hV, rfl, hfz, hnd⟩ := hW
  have hA : DataW.TrodAll enc Try.prog W 0 (fun _ => true) true Try.f8.params.toList args.toList ds p := hA0
  rw [Try.params8] at hA hval
  obtain ⟨v0, vs0, d0, ds0, p0, q0, hargs, rfl, rfl, h0, r0_⟩ := trodAll_cons hA
  obtain ⟨rfl, rfl, rfl⟩ := trodAll_nil r0_
  obtain rfl : args = #[v0] := by cases args; simp_all
  obtain ⟨rfl, rfl⟩ := trodVars_none hV
  obtain ⟨a0, A0, c0, rfl, r0, k0, n0, o0⟩ := Cl.open_pieces Try.underlying36 Try.underlying49 (by kernel_rfl) rfl rfl rfl (by kernel_rfl) (by kernel_rfl) (by kernel_rfl) Try.underlying3 Try.underlying22 Try.underlying9 (hval 0 36 v0 rfl rfl) h0 hk (by simp)
  clear hA0 hval0 hsz0
  exact Calls.mono (Cb.back A0 c0 a0 W r0 n0 k0 o0) fun e W' ⟨he, hb⟩ => ⟨_, he, hpost W' hb⟩
theorem over : Rows.codecBackUptoRow.holds Try.pinned (Rows.OpenSpec.upto Rows.codecBackSpec) :=
  OpenClaim.holds_of_cond 8 Try.f8 rfl rfl rfl rfl rfl rfl rfl ⟨rfl, rfl, rfl, rfl, rfl⟩ rfl rfl rfl rfl rfl (by kernel_rfl) Try.func8 (by kernel_rfl)
    (of_decide_eq_true (by kernel_rfl)) (by unfold Func.isWrapper; first | (rw [if_pos (by decide +kernel)]; kernel_rfl) | (rw [if_neg (by decide +kernel)]; exact ⟨rfl, rfl⟩))
    (fun os started H enc _ F => lifted os started H enc F)
theorem proved : Rows.CodecBackUptoSaid := over
#print axioms proved
end Go.Proofs.Ytlghblpkgmajeaa.codecBack
