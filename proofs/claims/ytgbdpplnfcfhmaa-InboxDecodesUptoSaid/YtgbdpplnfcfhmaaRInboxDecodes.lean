/-
  InboxDecodes: for every input the law returns true, and each argument reads behind the call as it read before; where what it reads is of the bulk that the given row names.
-/
import Derived.Test.YtgbdpplnfcfhmaaLaw
import Derived.Test.YtgbdpplnfcfhmaaIx
set_option linter.unusedVariables false
set_option linter.unusedSimpArgs false
namespace Go.Proofs.Ytgbdpplnfcfhmaa.inboxDecodes
open Go.ChangeShapes Go.WideShapes Go.ChangeAt Go.RowKit Go.Proofs.Ytgbdpplnfcfhmaa
open Go.ChangeMaps (open_string shut_string)
set_option maxRecDepth 100000 in
theorem lifted (os : Os) (started : os.Started) (H : Type) (enc : TypeId × Value → H) (F : Stop.Interp) :
    ReturnsInHanded {} Try.checked os 7 .any ((Rows.OpenSpec.upto Rows.inboxDecodesSpec).pre6 enc Try.prog Try.f7 Rows.inboxDecodesUptoRow.domain false) (((Rows.OpenSpec.upto Rows.inboxDecodesSpec).at F).post enc Try.prog Try.f7 false true false false) := by
  refine returnsInHanded_of_cond_sized (C := Try.checked) (s := (Rows.OpenSpec.upto Rows.inboxDecodesSpec)) (k := Rows.uptoSmall) rfl Law.own started (by kernel_rfl) Try.func7
    (OpenSpec.witness (enc := enc) (C := Try.checked) (s := (Rows.OpenSpec.upto Rows.inboxDecodesSpec)) (k := Rows.uptoSmall) rfl false ⟨#[], #[.slice none 0 0, .slice none 0 0], []⟩ 8 (by kernel_rfl) (by kernel_rfl) (by kernel_rfl)
      (x := ([.nil, .nil], [], [])) (by kernel_rfl) rfl (by kernel_rfl)) ?_
  intro W base args ds gs before hval0 hW hcnd hk hsz0 _
  have hval : ∀ (j : Nat) t v, Try.f7.params[j]? = some t → args[j]? = some v → Value.okWide Try.prog W .any base t v := hval0
  have hsz : (DataW.weightsEach Try.prog (Try.f7.params.toList ++ (Rows.inboxDecodesSpec).plain.varTypes Try.prog) (ds ++ gs)).all (· ≤ reachBytes) = true := hsz0
  have hpost : ∀ W', Below W.heap.size W W' → Rows.inboxDecodesSpec.post enc Try.prog Try.f7 false true false false W args (.bool true) W' := fun W' hb => Law.post_true Law.laidOut (by kernel_rfl) rfl rfl Try.underlying4 (fun ds hl => by match ds, hl with | [_, _], _ => rfl) hW hb
  obtain ⟨p, q, hA0, hV, rfl, hfz, hnd⟩ := hW
  have hA : DataW.TrodAll enc Try.prog W 0 (fun _ => true) true Try.f7.params.toList args.toList ds p := hA0
  rw [Try.params7] at hA hval
  obtain ⟨v0, vs0, d0, ds0, p0, q0, hargs, rfl, rfl, h0, r0_⟩ := trodAll_cons hA
  obtain ⟨v1, vs1, d1, ds1, p1, q1, rfl, rfl, rfl, h1, r1_⟩ := trodAll_cons r0_
  obtain ⟨rfl, rfl, rfl⟩ := trodAll_nil r1_
  obtain rfl : args = #[v0, v1] := by cases args; simp_all
  obtain ⟨rfl, rfl⟩ := trodVars_none hV
  obtain ⟨a0, A0, c0, rfl, r0, b0⟩ := Iw.open_ops2 (hval 0 35 v0 rfl rfl) h0
  obtain ⟨a1, A1, c1, rfl, r1, b1, s1⟩ := Law.open_nums Try.underlying52 Try.underlying5 (by kernel_rfl) (hval 1 52 v1 rfl rfl) h1 hsz (j := 1) rfl rfl
  have n1 := Law.small_len hk (d := d1) (by simp) s1
  clear hA0 hval0 hsz0
  exact Calls.mono (Iw.law_decodes A0 A1 c0 c1 a0 a1 W r0 b0.1 b0.2 r1 b1.1 b1.2.2.1 b1.2.2.2 n1) fun e W' ⟨he, hb⟩ => ⟨_, he, hpost W' hb⟩
theorem over : Rows.inboxDecodesUptoRow.holds Try.pinned (Rows.OpenSpec.upto Rows.inboxDecodesSpec) :=
  OpenClaim.holds_of_cond 7 Try.f7 rfl rfl rfl rfl rfl rfl rfl ⟨rfl, rfl, rfl, rfl, rfl⟩ rfl rfl rfl rfl rfl (by kernel_rfl) Try.func7 (by kernel_rfl)
    (of_decide_eq_true (by kernel_rfl)) (by unfold Func.isWrapper; first | (rw [if_pos (by decide +kernel)]; kernel_rfl) | (rw [if_neg (by decide +kernel)]; exact ⟨rfl, rfl⟩))
    (fun os started H enc _ F => lifted os started H enc F)
theorem proved : Rows.InboxDecodesUptoSaid := over
#print axioms proved
end Go.Proofs.Ytgbdpplnfcfhmaa.inboxDecodes
