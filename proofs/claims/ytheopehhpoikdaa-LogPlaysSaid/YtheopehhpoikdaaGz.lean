/-
  reevelaw07.same; lists of texts.
-/
import Derived.Test.YtheopehhpoikdaaGy
set_option linter.unusedVariables false
set_option linter.unusedSimpArgs false
namespace Go.Proofs.Ytheopehhpoikdaa.Gl
open Go.RowKit Go.Proofs.Ytheopehhpoikdaa Go.Proofs.Ytheopehhpoikdaa.B Go.Proofs.Ytheopehhpoikdaa.Cm Go.Proofs.Ytheopehhpoikdaa.Sm Go.Proofs.Ytheopehhpoikdaa.Dk Go.Proofs.Ytheopehhpoikdaa.Gp
/-- A list of bytes as a text. -/
def st (l : List Int) : Value := .string (strOfNums l)
theorem st_one (l : List (List Int)) : ∀ u ∈ l.map st, u.oneCell' = true := by
  intro u hu
  obtain ⟨x, _, rfl⟩ := List.mem_map.1 hu
  rfl
theorem str_info : (Try.prog.info? 9).map (fun i => (i.zero, i.size, i.bytes)) = some (some (.string ⟨#[]⟩), 1, 16) := by kernel_rfl
theorem conv_all {w : World} {A : Option Addr} {l : List Int} (h : Rn w .u8 A l) (c : Nat) : ∀ W, Upd No w W → (convert 31 9 (.slice A l.length c)).run Try.prog W = .ok (st l) W :=
  fun W hu => conv_str (P := Try.prog) (Rd.upd h (by omega) hu fun _ _ => no_ _ : Rn W .u8 A l) 31 9 5 c Try.underlying31 Try.underlying5 Try.underlying9
/-- The member j of a list of lists. -/
theorem Uns.at_ {w : World} {F : Nat → Prop} {A : Option Addr} {n c : Nat} {us : List (List Int)} (h : Uns w F (.slice A n c) us) {j : Nat} (hj : j < us.length) :
    ∃ ad Ab cb, A = some ad ∧ w.cell? (ad.add j) = some (.slice Ab us[j].length cb) ∧ Rn w .u8 Ab us[j] := by
  obtain ⟨vs, h1, h2, h3, h4⟩ := h
  have hvl : vs.length = us.length := by rw [← h1]; simp
  obtain ⟨_, _, hs, _, _⟩ := own_shape h2
  simp only [Value.slice.injEq] at hs
  obtain ⟨rfl, rfl, rfl⟩ := hs
  have hjv : j < vs.length := by omega
  obtain ⟨ad, y, e, hy1, hy2⟩ := (Rd.of_own h2).at_ hjv
  rw [List.getElem?_map, List.getElem?_eq_getElem hjv] at hy1
  simp only [Option.map_some, Option.some.injEq] at hy1
  have hox := h3 _ (List.getElem_mem hjv)
  have hu : us[j] = vs[j].1 := by subst h1; simp
  rw [hu]
  obtain ⟨Ab, cb, hve, _, _⟩ := own_shape hox.1
  rw [hve] at hy1
  subst hy1
  refine ⟨ad, Ab, cb, e, hy2, ?_⟩
  have h5 := hox.1
  rw [hve] at h5
  exact Rd.of_own h5
set_option maxHeartbeats 1000000 in
set_option maxRecDepth 100000 in
theorem same_ {F : Nat → Prop} {A B : Option Addr} {c d : Nat} {us : List (List Int)} {w : World} (hx : Uns w F (.slice A us.length c) us) (hy : Rd w 1 B us.length (us.map st)) (hl : us.length ≤ 65536) :
    Calls Try.prog 17 #[.slice A us.length c, .slice B us.length d] w fun e w' => e = .returned (.bool true) ∧ Upd No w w' := by
  have HX := hid fun W (hu : Upd No w W) => hx.upd hu fun _ _ => no_ _
  have HY := hid fun W (hu : Upd No w W) => Rd.upd hy (by omega) hu fun _ _ => no_ _
  clear hx hy
  go_enter Try.func17, Try.ntmps17
  go_wp2_with (fail)
  go_loopw [13] (fun v13 W => ∃ j : Nat, j ≤ us.length ∧ v13 = .int .i64 j ∧ Hid (Upd No w W)) (fun v13 _ => us.length - (intOf v13).toNat)
  case atStart => exact ⟨0, by omega, rfl, hid (Upd.refl _ _)⟩
  case round =>
    obtain ⟨j, hj, rfl, HU⟩ := hrel
    by_cases hlt : j < us.length
    · obtain ⟨ad, Ab, cb, rfl, hx1, hx2⟩ := (HX.out _ HU.out).at_ hlt
      obtain ⟨bd, y, rfl, hy1, hy2⟩ := (HY.out _ HU.out).at_ hlt
      rw [List.getElem?_map, List.getElem?_eq_getElem hlt] at hy1
      simp only [Option.map_some, Option.some.injEq] at hy1
      subst hy1
      generalize us[j] = l at *
      have hcv := conv_all hx2 cb
      unfold st at hcv hy2
      generalize strOfNums l = s0 at *
      have hj1 : (0 : Int) ≤ (j : Int) := by omega
      have hj2 : (j : Int) < (us.length : Int) := by omega
      have P1 : Hid (∀ W, W = wr.drew → W.cell? (ad.add j) = some (.slice Ab l.length cb) ∧ W.cell? (bd.add j) = some (.string s0)) := hid (by rintro W rfl; exact ⟨hx1, hy2⟩)
      have P2 : Hid (∀ W, W = wr.drew → (convert 31 9 (.slice Ab l.length cb)).run Try.prog W = .ok (.string s0) W) := hid (by rintro W rfl; exact hcv _ (Upd.refl No wr).drew)
      have HU2 := hid HU.out.drew
      clear hx1 hx2 hy2 hcv
      go_wp2_with (fail)
      refine wp_region_held_drew (S := fun W => W = wr.drew) (by kernel_rfl) rfl (fun hS => ?_)
      refine rg_at 0 (by decide) (fun oi hoi => ?_)
      have ho2 := hoi; simp only [List.getElem?_toArray, List.getElem?_cons_succ, List.getElem?_cons_zero, Option.some.injEq] at ho2; subst ho2
      refine rg_take (v := ?_) 0 hoi (by kernel_rfl) (by kernel_rfl) (by kernel_rfl) (fun _ _ _ h => h) (by rfl) ?_ hS ?_
      rotate_left
      · intro w _; go_simp; try with_reducible rfl
      clear hoi; try simp only [Act.put, List.setIfInBounds_toArray, List.set_cons_zero, List.set_cons_succ]
      refine rg_at 1 (by decide) (fun oi hoi => ?_)
      have ho2 := hoi; simp only [List.getElem?_toArray, List.getElem?_cons_succ, List.getElem?_cons_zero, Option.some.injEq] at ho2; subst ho2
      refine rg_take (v := ?_) 1 hoi (by kernel_rfl) (by kernel_rfl) (by kernel_rfl) (fun _ _ _ h => h) (by rfl) ?_ hS ?_
      rotate_left
      · intro w _; go_simp; try with_reducible rfl
      clear hoi; try simp only [Act.put, List.setIfInBounds_toArray, List.set_cons_zero, List.set_cons_succ]
      refine rg_at 2 (by decide) (fun oi hoi => ?_)
      have ho2 := hoi; simp only [List.getElem?_toArray, List.getElem?_cons_succ, List.getElem?_cons_zero, Option.some.injEq] at ho2; subst ho2
      refine rg_take (v := ?_) 2 hoi (by kernel_rfl) (by kernel_rfl) (by kernel_rfl) (fun _ _ _ h => h) (by rfl) ?_ hS ?_
      rotate_left
      · intro w _; go_simp; try with_reducible rfl
      clear hoi; try simp only [Act.put, List.setIfInBounds_toArray, List.set_cons_zero, List.set_cons_succ]
      refine rg_at 3 (by decide) (fun oi hoi => ?_)
      have ho2 := hoi; simp only [List.getElem?_toArray, List.getElem?_cons_succ, List.getElem?_cons_zero, Option.some.injEq] at ho2; subst ho2
      refine rg_take (v := ?_) 3 hoi (by kernel_rfl) (by kernel_rfl) (by kernel_rfl) (fun _ _ _ h => h) (by rfl) ?_ hS ?_
      rotate_left
      · intro w hw; have hf := (P1.out w hw).1; clear hw; go_simp; try with_reducible rfl
      clear hoi; try simp only [Act.put, List.setIfInBounds_toArray, List.set_cons_zero, List.set_cons_succ]
      refine rg_at 4 (by decide) (fun oi hoi => ?_)
      have ho2 := hoi; simp only [List.getElem?_toArray, List.getElem?_cons_succ, List.getElem?_cons_zero, Option.some.injEq] at ho2; subst ho2
      refine rg_take (v := ?_) 4 hoi (by kernel_rfl) (by kernel_rfl) (by kernel_rfl) (fun _ _ _ h => h) (by rfl) ?_ hS ?_
      rotate_left
      · intro w hw; have hf := P2.out w hw; clear hw; go_simp; try with_reducible rfl
      clear hoi; try simp only [Act.put, List.setIfInBounds_toArray, List.set_cons_zero, List.set_cons_succ]
      refine rg_at 5 (by decide) (fun oi hoi => ?_)
      have ho2 := hoi; simp only [List.getElem?_toArray, List.getElem?_cons_succ, List.getElem?_cons_zero, Option.some.injEq] at ho2; subst ho2
      refine rg_take (v := ?_) 5 hoi (by kernel_rfl) (by kernel_rfl) (by kernel_rfl) (fun _ _ _ h => h) (by rfl) ?_ hS ?_
      rotate_left
      · intro w _; go_simp; try with_reducible rfl
      clear hoi; try simp only [Act.put, List.setIfInBounds_toArray, List.set_cons_zero, List.set_cons_succ]
      refine rg_at 6 (by decide) (fun oi hoi => ?_)
      have ho2 := hoi; simp only [List.getElem?_toArray, List.getElem?_cons_succ, List.getElem?_cons_zero, Option.some.injEq] at ho2; subst ho2
      refine rg_take (v := ?_) 6 hoi (by kernel_rfl) (by kernel_rfl) (by kernel_rfl) (fun _ _ _ h => h) (by rfl) ?_ hS ?_
      rotate_left
      · intro w _; go_simp; try with_reducible rfl
      clear hoi; try simp only [Act.put, List.setIfInBounds_toArray, List.set_cons_zero, List.set_cons_succ]
      refine rg_at 7 (by decide) (fun oi hoi => ?_)
      have ho2 := hoi; simp only [List.getElem?_toArray, List.getElem?_cons_succ, List.getElem?_cons_zero, Option.some.injEq] at ho2; subst ho2
      refine rg_take (v := ?_) 7 hoi (by kernel_rfl) (by kernel_rfl) (by kernel_rfl) (fun _ _ _ h => h) (by rfl) ?_ hS ?_
      rotate_left
      · intro w _; go_simp; try with_reducible rfl
      clear hoi; try simp only [Act.put, List.setIfInBounds_toArray, List.set_cons_zero, List.set_cons_succ]
      refine rg_at 8 (by decide) (fun oi hoi => ?_)
      have ho2 := hoi; simp only [List.getElem?_toArray, List.getElem?_cons_succ, List.getElem?_cons_zero, Option.some.injEq] at ho2; subst ho2
      refine rg_take (v := ?_) 8 hoi (by kernel_rfl) (by kernel_rfl) (by kernel_rfl) (fun _ _ _ h => h) (by rfl) ?_ hS ?_
      rotate_left
      · intro w hw; have hf := (P1.out w hw).2; clear hw; go_simp; try with_reducible rfl
      clear hoi; try simp only [Act.put, List.setIfInBounds_toArray, List.set_cons_zero, List.set_cons_succ]
      refine rg_at 9 (by decide) (fun oi hoi => ?_)
      have ho2 := hoi; simp only [List.getElem?_toArray, List.getElem?_cons_succ, List.getElem?_cons_zero, Option.some.injEq] at ho2; subst ho2
      refine rg_take (v := ?_) 9 hoi (by kernel_rfl) (by kernel_rfl) (by kernel_rfl) (fun _ _ _ h => h) (by rfl) ?_ hS ?_
      rotate_left
      · intro w _; go_simp; try with_reducible rfl
      clear hoi; try simp only [Act.put, List.setIfInBounds_toArray, List.set_cons_zero, List.set_cons_succ]
      refine wpAnyH_done (by kernel_rfl) ?_ _
      clear hS
      go_wp2
      go_roundw
      case rel => exact ⟨j + 1, by omega, by go_num, HU2⟩
      case measure => simp [intOf]; omega
    · obtain rfl : j = us.length := by omega
      go_wp2
      go_ret
      exact ⟨rfl, HU.out⟩
end Go.Proofs.Ytheopehhpoikdaa.Gl
