/-
  The walk of WindowDecodes.
-/
import Derived.Test.YtogijfgfcdmbnaaWi
set_option linter.unusedVariables false
set_option linter.unusedSimpArgs false
namespace Go.Proofs.Ytogijfgfcdmbnaa.We
open Go.RowKit Go.Proofs.Ytogijfgfcdmbnaa.B Go.Proofs.Ytogijfgfcdmbnaa.Df Go.Proofs.Ytogijfgfcdmbnaa.Ws Go.Proofs.Ytogijfgfcdmbnaa.Mp Go.Proofs.Ytogijfgfcdmbnaa.Wp Go.Proofs.Ytogijfgfcdmbnaa.Ww Go.Proofs.Ytogijfgfcdmbnaa.Cm
open Go.Proofs.Ytogijfgfcdmbnaa.Cr (Byte)
theorem byte_of {l : List Int} (h : ∀ x ∈ l, (Lit.int .u8 x).wf = true) : Byte l := fun x hx => by
  have := Law.wf_u8 (h x hx)
  omega
theorem bytes_one : Try.prog.bytesOf 5 = 1 := by kernel_rfl
/-- A text made of bytes, at every later world. -/
theorem conv_all {w : World} {A : Option Addr} {l : List Int} (h : Rn w .u8 A l) (c : Nat) {st : ByteArray} (hst : st = strOfNums l) : ∀ W, Upd No w W → (convert 46 9 (.slice A l.length c)).run Try.prog W = .ok (.string st) W := by
  subst hst
  exact fun W hu => conv_str (P := Try.prog) (Rd.upd h (by omega) hu fun _ _ => no_ _ : Rn W .u8 A l) 46 9 5 c Try.underlying46 Try.underlying5 Try.underlying9
set_option maxHeartbeats 8000000 in
set_option maxRecDepth 100000 in
theorem law_decodes (A B : Option Addr) (c d : Nat) (xs : List Pr) (l : List Int) (w : World) (hr : Rd w 2 A xs.length (xs.flatMap prc)) (hl : xs.length ≤ maxLen) (hk : ∀ x ∈ xs, Wp.Key x.1 ∧ Wp.Key x.2)
    (hrb : Rn w .u8 B l) (hd : l.length ≤ d) (hdl : d * Try.prog.bytesOf 5 ≤ 140737488351232) (hby : ∀ x ∈ l, (Lit.int .u8 x).wf = true) :
    Calls Try.prog 8 #[.slice A xs.length c, .slice B l.length d] w fun e w' => e = .returned (.bool true) ∧ Below w.heap.size w w' := by
  simp only [maxLen] at hl
  rw [bytes_one] at hdl
  have hdm : d ≤ 9223372036854775807 := by omega
  have HKx := hid hk
  have HBy := hid (byte_of hby)
  have HB := hid fun W (hu : Upd No w W) => (Rd.upd hrb (by omega) hu fun _ _ => no_ _ : Rn W .u8 B l)
  clear hk hby hrb
  by_cases h300 : (300 : Int) < (xs.length : Int)
  · go_enter Try.func8, Try.ntmps8
    go_wp2_with (fail)
    refine Calls.mono (awake w) ?_
    rintro e w1 ⟨rfl, hb1⟩
    have HB1 := hid hb1
    clear hb1
    go_wp2_with (fail)
    refine Calls.mono (awake w1) ?_
    rintro e w2 ⟨rfl, hb2⟩
    have HB2 := hid (HB1.out.trans (hb2.mono HB1.out.size))
    clear hb2
    go_wp2
    go_ret
    exact ⟨rfl, HB2.out⟩
  have hxn : xs.length ≤ 300 := by omega
  go_enter Try.func8, Try.ntmps8
  go_wp2_with (fail)
  refine Calls.mono (awake w) ?_
  rintro e w1 ⟨rfl, hb1⟩
  have HB1 := hid hb1
  clear hb1
  go_wp2_with (fail)
  refine Calls.mono (new2 w w1 HB1.out) ?_
  rintro e w2 ⟨rfl, hO2, hu2⟩
  have HO2 := hid (And.intro hO2 hu2)
  clear hO2 hu2 h300
  have HS0 : Hid (∃ (F0 G0 : Nat → Prop) (p q : Nat) (w3 : World), w3 = w2.alloc (.cells #[.slice none 0 0] 38) ∧ Bw w w3 F0 p 0 G0 q [] ∧ w1.heap.size = p ∧ w2.heap.size = q) :=
    hid ⟨_, _, _, _, _, rfl, ⟨HO2.out.1.quiet ((Upd.refl No w2).alloc _), Rw.new rfl, fun k hk hg => by have := HO2.out.1.wd.lt k hk; omega, fun k hk => by have := HO2.out.1.bel.size; omega⟩, rfl, rfl⟩
  go_wp2_with (fail)
  obtain ⟨F0, G0, p, q, w3, hw3, hS, hp, hq⟩ := HS0.out
  rw [← hw3, hp, hq]
  have HSt := hid hS
  clear hw3 hp hq hS HS0 HO2
  go_loopw [27] (fun v27 W => ∃ (j : Nat) (F G : Nat → Prop) (x : St), j ≤ xs.length ∧ v27 = .int .i64 j ∧ Hid (Bw w W F p j G q x ∧ SerNd x)) (fun v27 _ => xs.length - (intOf v27).toNat)
  case atStart => exact ⟨0, F0, G0, [], by omega, rfl, hid ⟨HSt.out, SerNd.nil⟩⟩
  case round =>
    clear HSt F0 G0
    obtain ⟨j, F, G, x, hj, rfl, HW⟩ := hrel
    by_cases hlt : j < xs.length
    · obtain ⟨ad, rfl, x0, x1⟩ := pr_at hr hlt
      have hkk := HKx.out _ (List.getElem_mem hlt)
      generalize xs[j] = e0 at *
      obtain ⟨c0, s0⟩ := e0
      simp only at x0 x1 hkk
      have CE : Hid (∀ W, Below w.heap.size w W → W.cell? (ad.add (j * 2)) = some (.int .u64 c0) ∧ W.cell? ⟨(ad.add (j * 2)).block, (ad.add (j * 2)).off + 1, none⟩ = some (.int .u64 s0)) := hid fun W hb =>
        ⟨(hb.cell (World.block_lt_of_cell? _ _ x0)).trans x0, (hb.cell (World.block_lt_of_cell? _ _ x1)).trans x1⟩
      have hj1 : (0 : Int) ≤ (j : Int) := by omega
      have hj2 : (j : Int) < (xs.length : Int) := by omega
      clear x0 x1
      have hA := fun W (h : Wd W F p x j) => add c0 s0 h hkk.1 hkk.2 HW.out.1.a.ok (by omega)
      have hB := fun W (h : Rw W G q x) => radd c0 s0 h HW.out.1.a.ok
      have hOk := And.intro (HW.out.1.a.ok.add hkk.1 hkk.2) (HW.out.2.add c0 s0)
      unfold AddOut at hA
      unfold RAdd at hB
      generalize addX x c0 s0 = r at *
      obtain ⟨b, y⟩ := r
      simp only at hA hB hOk
      have HA := hid hA
      have HB' := hid hB
      have HOk := hid hOk
      clear hA hB hOk
      go_wp2_with (fail)
      refine wp_region_held_drew (S := fun W => Below w.heap.size w W) (by kernel_rfl) (below_drew HW.out.1.a.bel) (fun hS => ?_)
      refine rg_at 0 (by decide) (fun oi hoi => ?_)
      have ho2 := hoi; simp only [List.getElem?_toArray, List.getElem?_cons_succ, List.getElem?_cons_zero, Option.some.injEq] at ho2; subst ho2
      refine rg_take (v := ?_) 0 hoi (by kernel_rfl) (by kernel_rfl) (by kernel_rfl) (fun _ _ _ h => h) (by rfl) ?_ hS ?_
      rotate_left
      · intro w _; go_simp; try with_reducible rfl
      clear hoi; try simp only [Act.put, List.setIfInBounds_toArray, List.set_cons_zero, List.set_cons_succ]
      refine rg_at 1 (by decide) (fun oi hoi => ?_)
      have ho2 := hoi; simp only [List.getElem?_toArray, List.getElem?_cons_succ, List.getElem?_cons_zero, Option.some.injEq] at ho2; subst ho2
      refine rg_take (v := ?_) 1 hoi (by kernel_rfl) (by kernel_rfl) (by kernel_rfl) (fun _ _ _ h => h) (by rfl) ?_ hS ?_
      rotate_left
      · intro w _; go_simp; try with_reducible rfl
      clear hoi; try simp only [Act.put, List.setIfInBounds_toArray, List.set_cons_zero, List.set_cons_succ]
      refine rg_at 2 (by decide) (fun oi hoi => ?_)
      have ho2 := hoi; simp only [List.getElem?_toArray, List.getElem?_cons_succ, List.getElem?_cons_zero, Option.some.injEq] at ho2; subst ho2
      refine rg_take (v := ?_) 2 hoi (by kernel_rfl) (by kernel_rfl) (by kernel_rfl) (fun _ _ _ h => h) (by rfl) ?_ hS ?_
      rotate_left
      · intro w _; go_simp; try with_reducible rfl
      clear hoi; try simp only [Act.put, List.setIfInBounds_toArray, List.set_cons_zero, List.set_cons_succ]
      refine rg_at 3 (by decide) (fun oi hoi => ?_)
      have ho2 := hoi; simp only [List.getElem?_toArray, List.getElem?_cons_succ, List.getElem?_cons_zero, Option.some.injEq] at ho2; subst ho2
      refine rg_take (v := ?_) 3 hoi (by kernel_rfl) (by kernel_rfl) (by kernel_rfl) (fun _ _ _ h => h) (by rfl) ?_ hS ?_
      rotate_left
      · intro w _; go_simp; try with_reducible rfl
      clear hoi; try simp only [Act.put, List.setIfInBounds_toArray, List.set_cons_zero, List.set_cons_succ]
      refine rg_at 4 (by decide) (fun oi hoi => ?_)
      have ho2 := hoi; simp only [List.getElem?_toArray, List.getElem?_cons_succ, List.getElem?_cons_zero, Option.some.injEq] at ho2; subst ho2
      refine rg_take (v := ?_) 4 hoi (by kernel_rfl) (by kernel_rfl) (by kernel_rfl) (fun _ _ _ h => h) (by rfl) ?_ hS ?_
      rotate_left
      · intro w _; go_simp; try with_reducible rfl
      clear hoi; try simp only [Act.put, List.setIfInBounds_toArray, List.set_cons_zero, List.set_cons_succ]
      refine rg_at 5 (by decide) (fun oi hoi => ?_)
      have ho2 := hoi; simp only [List.getElem?_toArray, List.getElem?_cons_succ, List.getElem?_cons_zero, Option.some.injEq] at ho2; subst ho2
      refine rg_take (v := ?_) 5 hoi (by kernel_rfl) (by kernel_rfl) (by kernel_rfl) (fun _ _ _ h => h) (by rfl) ?_ hS ?_
      rotate_left
      · intro w hw; have hf := (CE.out w hw).1; clear hw; go_simp; try with_reducible rfl
      clear hoi; try simp only [Act.put, List.setIfInBounds_toArray, List.set_cons_zero, List.set_cons_succ]
      refine rg_at 6 (by decide) (fun oi hoi => ?_)
      have ho2 := hoi; simp only [List.getElem?_toArray, List.getElem?_cons_succ, List.getElem?_cons_zero, Option.some.injEq] at ho2; subst ho2
      refine rg_take (v := ?_) 6 hoi (by kernel_rfl) (by kernel_rfl) (by kernel_rfl) (fun _ _ _ h => h) (by rfl) ?_ hS ?_
      rotate_left
      · intro w _; go_simp; try with_reducible rfl
      clear hoi; try simp only [Act.put, List.setIfInBounds_toArray, List.set_cons_zero, List.set_cons_succ]
      refine rg_at 7 (by decide) (fun oi hoi => ?_)
      have ho2 := hoi; simp only [List.getElem?_toArray, List.getElem?_cons_succ, List.getElem?_cons_zero, Option.some.injEq] at ho2; subst ho2
      refine rg_take (v := ?_) 7 hoi (by kernel_rfl) (by kernel_rfl) (by kernel_rfl) (fun _ _ _ h => h) (by rfl) ?_ hS ?_
      rotate_left
      · intro w _; go_simp; try with_reducible rfl
      clear hoi; try simp only [Act.put, List.setIfInBounds_toArray, List.set_cons_zero, List.set_cons_succ]
      refine rg_at 8 (by decide) (fun oi hoi => ?_)
      have ho2 := hoi; simp only [List.getElem?_toArray, List.getElem?_cons_succ, List.getElem?_cons_zero, Option.some.injEq] at ho2; subst ho2
      refine rg_take (v := ?_) 8 hoi (by kernel_rfl) (by kernel_rfl) (by kernel_rfl) (fun _ _ _ h => h) (by rfl) ?_ hS ?_
      rotate_left
      · intro w _; go_simp; try with_reducible rfl
      clear hoi; try simp only [Act.put, List.setIfInBounds_toArray, List.set_cons_zero, List.set_cons_succ]
      refine rg_at 9 (by decide) (fun oi hoi => ?_)
      have ho2 := hoi; simp only [List.getElem?_toArray, List.getElem?_cons_succ, List.getElem?_cons_zero, Option.some.injEq] at ho2; subst ho2
      refine rg_take (v := ?_) 9 hoi (by kernel_rfl) (by kernel_rfl) (by kernel_rfl) (fun _ _ _ h => h) (by rfl) ?_ hS ?_
      rotate_left
      · intro w _; go_simp; try with_reducible rfl
      clear hoi; try simp only [Act.put, List.setIfInBounds_toArray, List.set_cons_zero, List.set_cons_succ]
      refine rg_at 10 (by decide) (fun oi hoi => ?_)
      have ho2 := hoi; simp only [List.getElem?_toArray, List.getElem?_cons_succ, List.getElem?_cons_zero, Option.some.injEq] at ho2; subst ho2
      refine rg_take (v := ?_) 10 hoi (by kernel_rfl) (by kernel_rfl) (by kernel_rfl) (fun _ _ _ h => h) (by rfl) ?_ hS ?_
      rotate_left
      · intro w hw; have hf := (CE.out w hw).2; clear hw; go_simp; try with_reducible rfl
      clear hoi; try simp only [Act.put, List.setIfInBounds_toArray, List.set_cons_zero, List.set_cons_succ]
      refine rg_at 11 (by decide) (fun oi hoi => ?_)
      have ho2 := hoi; simp only [List.getElem?_toArray, List.getElem?_cons_succ, List.getElem?_cons_zero, Option.some.injEq] at ho2; subst ho2
      refine rg_call 11 (by kernel_rfl) hoi (by rfl) (fun K hK => ?_)
      clear hoi
      go_simp
      refine Calls.mono (HA.out _ (HW.out.1.a.wd.upd (Upd.drew (Upd.refl No wr)) (fun _ _ => no_ _))) ?_
      rintro e w4 ⟨rfl, F4, hw4, hm4⟩
      have hm4' : Mv F F4 wr w4 := ⟨Upd.of_drew hm4.upd, hm4.sub⟩
      have hb4 := HW.out.1.b.upd hm4'.upd (fun k hk hf => HW.out.1.fg k hf hk)
      have hS4 := HW.out.1.a.bel.trans (hm4'.upd.below HW.out.1.a.bel.size HW.out.1.a.own)
      go_wp2_with (fail)
      refine hK.out _ _ (hS4) (fun hS => ?_)
      clear hK K
      try simp only [Act.put, List.setIfInBounds_toArray, List.set_cons_zero, List.set_cons_succ]
      refine wpAnyH_done (by kernel_rfl) ?_ _
      have H4 := hid (And.intro hw4 (And.intro hm4' hb4))
      clear hw4 hm4 hm4' hb4 hS
      go_wp2_with (fail)
      refine wp_region_held_drew (S := fun W => Below w.heap.size w W) (by kernel_rfl) (below_drew hS4) (fun hS => ?_)
      refine rg_at 0 (by decide) (fun oi hoi => ?_)
      have ho2 := hoi; simp only [List.getElem?_toArray, List.getElem?_cons_succ, List.getElem?_cons_zero, Option.some.injEq] at ho2; subst ho2
      refine rg_take (v := ?_) 0 hoi (by kernel_rfl) (by kernel_rfl) (by kernel_rfl) (fun _ _ _ h => h) (by rfl) ?_ hS ?_
      rotate_left
      · intro w _; go_simp; try with_reducible rfl
      clear hoi; try simp only [Act.put, List.setIfInBounds_toArray, List.set_cons_zero, List.set_cons_succ]
      refine rg_at 1 (by decide) (fun oi hoi => ?_)
      have ho2 := hoi; simp only [List.getElem?_toArray, List.getElem?_cons_succ, List.getElem?_cons_zero, Option.some.injEq] at ho2; subst ho2
      refine rg_take (v := ?_) 1 hoi (by kernel_rfl) (by kernel_rfl) (by kernel_rfl) (fun _ _ _ h => h) (by rfl) ?_ hS ?_
      rotate_left
      · intro w _; go_simp; try with_reducible rfl
      clear hoi; try simp only [Act.put, List.setIfInBounds_toArray, List.set_cons_zero, List.set_cons_succ]
      refine rg_at 2 (by decide) (fun oi hoi => ?_)
      have ho2 := hoi; simp only [List.getElem?_toArray, List.getElem?_cons_succ, List.getElem?_cons_zero, Option.some.injEq] at ho2; subst ho2
      refine rg_take (v := ?_) 2 hoi (by kernel_rfl) (by kernel_rfl) (by kernel_rfl) (fun _ _ _ h => h) (by rfl) ?_ hS ?_
      rotate_left
      · intro w _; go_simp; try with_reducible rfl
      clear hoi; try simp only [Act.put, List.setIfInBounds_toArray, List.set_cons_zero, List.set_cons_succ]
      refine rg_at 3 (by decide) (fun oi hoi => ?_)
      have ho2 := hoi; simp only [List.getElem?_toArray, List.getElem?_cons_succ, List.getElem?_cons_zero, Option.some.injEq] at ho2; subst ho2
      refine rg_take (v := ?_) 3 hoi (by kernel_rfl) (by kernel_rfl) (by kernel_rfl) (fun _ _ _ h => h) (by rfl) ?_ hS ?_
      rotate_left
      · intro w _; go_simp; try with_reducible rfl
      clear hoi; try simp only [Act.put, List.setIfInBounds_toArray, List.set_cons_zero, List.set_cons_succ]
      refine rg_at 4 (by decide) (fun oi hoi => ?_)
      have ho2 := hoi; simp only [List.getElem?_toArray, List.getElem?_cons_succ, List.getElem?_cons_zero, Option.some.injEq] at ho2; subst ho2
      refine rg_take (v := ?_) 4 hoi (by kernel_rfl) (by kernel_rfl) (by kernel_rfl) (fun _ _ _ h => h) (by rfl) ?_ hS ?_
      rotate_left
      · intro w _; go_simp; try with_reducible rfl
      clear hoi; try simp only [Act.put, List.setIfInBounds_toArray, List.set_cons_zero, List.set_cons_succ]
      refine rg_at 5 (by decide) (fun oi hoi => ?_)
      have ho2 := hoi; simp only [List.getElem?_toArray, List.getElem?_cons_succ, List.getElem?_cons_zero, Option.some.injEq] at ho2; subst ho2
      refine rg_take (v := ?_) 5 hoi (by kernel_rfl) (by kernel_rfl) (by kernel_rfl) (fun _ _ _ h => h) (by rfl) ?_ hS ?_
      rotate_left
      · intro w hw; have hf := (CE.out w hw).1; clear hw; go_simp; try with_reducible rfl
      clear hoi; try simp only [Act.put, List.setIfInBounds_toArray, List.set_cons_zero, List.set_cons_succ]
      refine rg_at 6 (by decide) (fun oi hoi => ?_)
      have ho2 := hoi; simp only [List.getElem?_toArray, List.getElem?_cons_succ, List.getElem?_cons_zero, Option.some.injEq] at ho2; subst ho2
      refine rg_take (v := ?_) 6 hoi (by kernel_rfl) (by kernel_rfl) (by kernel_rfl) (fun _ _ _ h => h) (by rfl) ?_ hS ?_
      rotate_left
      · intro w _; go_simp; try with_reducible rfl
      clear hoi; try simp only [Act.put, List.setIfInBounds_toArray, List.set_cons_zero, List.set_cons_succ]
      refine rg_at 7 (by decide) (fun oi hoi => ?_)
      have ho2 := hoi; simp only [List.getElem?_toArray, List.getElem?_cons_succ, List.getElem?_cons_zero, Option.some.injEq] at ho2; subst ho2
      refine rg_take (v := ?_) 7 hoi (by kernel_rfl) (by kernel_rfl) (by kernel_rfl) (fun _ _ _ h => h) (by rfl) ?_ hS ?_
      rotate_left
      · intro w _; go_simp; try with_reducible rfl
      clear hoi; try simp only [Act.put, List.setIfInBounds_toArray, List.set_cons_zero, List.set_cons_succ]
      refine rg_at 8 (by decide) (fun oi hoi => ?_)
      have ho2 := hoi; simp only [List.getElem?_toArray, List.getElem?_cons_succ, List.getElem?_cons_zero, Option.some.injEq] at ho2; subst ho2
      refine rg_take (v := ?_) 8 hoi (by kernel_rfl) (by kernel_rfl) (by kernel_rfl) (fun _ _ _ h => h) (by rfl) ?_ hS ?_
      rotate_left
      · intro w _; go_simp; try with_reducible rfl
      clear hoi; try simp only [Act.put, List.setIfInBounds_toArray, List.set_cons_zero, List.set_cons_succ]
      refine rg_at 9 (by decide) (fun oi hoi => ?_)
      have ho2 := hoi; simp only [List.getElem?_toArray, List.getElem?_cons_succ, List.getElem?_cons_zero, Option.some.injEq] at ho2; subst ho2
      refine rg_take (v := ?_) 9 hoi (by kernel_rfl) (by kernel_rfl) (by kernel_rfl) (fun _ _ _ h => h) (by rfl) ?_ hS ?_
      rotate_left
      · intro w _; go_simp; try with_reducible rfl
      clear hoi; try simp only [Act.put, List.setIfInBounds_toArray, List.set_cons_zero, List.set_cons_succ]
      refine rg_at 10 (by decide) (fun oi hoi => ?_)
      have ho2 := hoi; simp only [List.getElem?_toArray, List.getElem?_cons_succ, List.getElem?_cons_zero, Option.some.injEq] at ho2; subst ho2
      refine rg_take (v := ?_) 10 hoi (by kernel_rfl) (by kernel_rfl) (by kernel_rfl) (fun _ _ _ h => h) (by rfl) ?_ hS ?_
      rotate_left
      · intro w hw; have hf := (CE.out w hw).2; clear hw; go_simp; try with_reducible rfl
      clear hoi; try simp only [Act.put, List.setIfInBounds_toArray, List.set_cons_zero, List.set_cons_succ]
      refine rg_at 11 (by decide) (fun oi hoi => ?_)
      have ho2 := hoi; simp only [List.getElem?_toArray, List.getElem?_cons_succ, List.getElem?_cons_zero, Option.some.injEq] at ho2; subst ho2
      refine rg_call 11 (by kernel_rfl) hoi (by rfl) (fun K hK => ?_)
      clear hoi
      go_simp
      refine Calls.mono (HB'.out _ (H4.out.2.2.upd (Upd.drew (Upd.refl No w4)) (fun _ _ => no_ _))) ?_
      rintro e w5 ⟨rfl, G5, hw5, hm5⟩
      have hm5' : Mv G G5 w4 w5 := ⟨Upd.of_drew hm5.upd, hm5.sub⟩
      have HW5 := hid (HW.out.1.moved H4.out.1 H4.out.2.1 hw5 hm5' HOk.out.1)
      go_wp2_with (fail)
      refine hK.out _ _ (HW5.out.a.bel) (fun hS => ?_)
      clear hK K
      try simp only [Act.put, List.setIfInBounds_toArray, List.set_cons_zero, List.set_cons_succ]
      refine wpAnyH_done (by kernel_rfl) ?_ _
      clear hw5 hm5 hm5' hS4 hS H4
      go_wp2
      go_roundw
      case rel => exact ⟨j + 1, F4, G5, y, by omega, by go_num, hid ⟨HW5.out, HOk.out.2⟩⟩
      case measure => simp [intOf]; omega
    · obtain rfl : j = xs.length := by omega
      obtain ⟨wo, rfl⟩ : ∃ wo : World, wo = wr := ⟨_, rfl⟩
      obtain ⟨st, hst⟩ : ∃ st, st = strOfNums (encX x) := ⟨_, rfl⟩
      have HEA : Hid (∀ W, Upd No wo W → Calls Try.prog 20 #[.pointer (some ⟨p, 0, none⟩)] W fun e w' => EnOut W (encX x) e w') := hid fun W hu => encode (HW.out.1.quiet hu).a.wd HW.out.1.a.ok
      have HEB : Hid (∀ W, Upd No wo W → Calls Try.prog 21 #[.pointer (some ⟨q, 0, none⟩)] W fun e w' => EnOut W (encX x) e w') := hid fun W hu => rencode (HW.out.1.quiet hu).b HW.out.1.a.ok
      unfold EnOut at HEA HEB
      have HDe := hid (dec_enc HW.out.1.a.ok HW.out.2)
      have HEb := hid (encX_byte HW.out.1.a.ok)
      have HEl : Hid ((encX x).length ≤ 4000) := hid (by
        have h1 := encX_take_le HW.out.1.a.ok x.length
        rw [List.take_length] at h1
        have h2 := (num_length (x.length : Int)).2
        unfold encX
        rw [List.length_append]
        omega)
      generalize encX x = eb at *
      have HCv : Hid (∀ W W' A c, Rn W .u8 A eb → Upd No W W' → (convert 46 9 (.slice A eb.length c)).run Try.prog W' = .ok (.string st) W') := hid fun W W' A c h hu => conv_all h c hst W' hu
      clear hst
      go_wp2_with (fail)
      refine wp_region_held_drew (S := fun W => Upd No wo W) (by kernel_rfl) (Upd.drew (Upd.refl _ _)) (fun hS => ?_)
      refine rg_at 0 (by decide) (fun oi hoi => ?_)
      have ho2 := hoi; simp only [List.getElem?_toArray, List.getElem?_cons_succ, List.getElem?_cons_zero, Option.some.injEq] at ho2; subst ho2
      refine rg_take (v := ?_) 0 hoi (by kernel_rfl) (by kernel_rfl) (by kernel_rfl) (fun _ _ _ h => h) (by rfl) ?_ hS ?_
      rotate_left
      · intro w _; go_simp; try with_reducible rfl
      clear hoi; try simp only [Act.put, List.setIfInBounds_toArray, List.set_cons_zero, List.set_cons_succ]
      refine rg_at 3 (by decide) (fun oi hoi => ?_)
      have ho2 := hoi; simp only [List.getElem?_toArray, List.getElem?_cons_succ, List.getElem?_cons_zero, Option.some.injEq] at ho2; subst ho2
      refine rg_take (v := ?_) 3 hoi (by kernel_rfl) (by kernel_rfl) (by kernel_rfl) (fun _ _ _ h => h) (by rfl) ?_ hS ?_
      rotate_left
      · intro w _; go_simp; try with_reducible rfl
      clear hoi; try simp only [Act.put, List.setIfInBounds_toArray, List.set_cons_zero, List.set_cons_succ]
      refine rg_at 1 (by decide) (fun oi hoi => ?_)
      have ho2 := hoi; simp only [List.getElem?_toArray, List.getElem?_cons_succ, List.getElem?_cons_zero, Option.some.injEq] at ho2; subst ho2
      refine rg_call 1 (by kernel_rfl) hoi (by rfl) (fun K hK => ?_)
      clear hoi
      go_simp
      refine Calls.mono (HEA.out _ hS) ?_
      rintro e wx ⟨Ax, cx, rfl, _, _, hrx, hux⟩
      go_wp2_with (fail)
      refine hK.out _ _ (hS.next hux) (fun hS => ?_)
      clear hK K
      try simp only [Act.put, List.setIfInBounds_toArray, List.set_cons_zero, List.set_cons_succ]
      refine rg_two 2 4 (by kernel_rfl) ?_ ?_
      focus
        refine rg_op_at 2 (by decide) (fun oi hoi => ?_)
        have ho2 := hoi; simp only [List.getElem?_toArray, List.getElem?_cons_succ, List.getElem?_cons_zero, Option.some.injEq] at ho2; subst ho2
        refine rg_step 2 hoi (by rfl) (fun K hK => ?_)
        clear hoi
        have hf := HCv.out _ _ Ax cx hrx (by first | exact huy | exact Upd.refl _ _)
        go_simp
        refine hK.out _ _ (hS) (fun hS => ?_)
        clear hK K
        try simp only [Act.put, List.setIfInBounds_toArray, List.set_cons_zero, List.set_cons_succ]
        refine rg_at 4 (by decide) (fun oi hoi => ?_)
        have ho2 := hoi; simp only [List.getElem?_toArray, List.getElem?_cons_succ, List.getElem?_cons_zero, Option.some.injEq] at ho2; subst ho2
        refine rg_call 4 (by kernel_rfl) hoi (by rfl) (fun K hK => ?_)
        clear hoi
        go_simp
        refine Calls.mono (HEB.out _ hS) ?_
        rintro e wy ⟨Ay, cy, rfl, _, _, hry, huy⟩
        go_wp2_with (fail)
        refine hK.out _ _ (hS.next huy) (fun hS => ?_)
        clear hK K
        try simp only [Act.put, List.setIfInBounds_toArray, List.set_cons_zero, List.set_cons_succ]
        refine rg_at 5 (by decide) (fun oi hoi => ?_)
        have ho2 := hoi; simp only [List.getElem?_toArray, List.getElem?_cons_succ, List.getElem?_cons_zero, Option.some.injEq] at ho2; subst ho2
        refine rg_call 5 (by kernel_rfl) hoi (by rfl) (fun K hK => ?_)
        clear hoi
        have hf := HCv.out _ _ Ay cy hry (Upd.refl _ _)
        go_simp
        refine hK.out _ _ (hS) (fun hS => ?_)
        clear hK K
        try simp only [Act.put, List.setIfInBounds_toArray, List.set_cons_zero, List.set_cons_succ]
        refine rg_at 6 (by decide) (fun oi hoi => ?_)
        have ho2 := hoi; simp only [List.getElem?_toArray, List.getElem?_cons_succ, List.getElem?_cons_zero, Option.some.injEq] at ho2; subst ho2
        refine rg_take (v := ?_) 6 hoi (by kernel_rfl) (by kernel_rfl) (by kernel_rfl) (fun _ _ _ h => h) (by rfl) ?_ hS ?_
        rotate_left
        · intro w _; go_simp; try with_reducible rfl
        clear hoi; try simp only [Act.put, List.setIfInBounds_toArray, List.set_cons_zero, List.set_cons_succ]
        refine wpAnyH_done (by kernel_rfl) ?_ _
      rotate_left 1
      focus
        refine rg_op_at 4 (by decide) (fun oi hoi => ?_)
        have ho2 := hoi; simp only [List.getElem?_toArray, List.getElem?_cons_succ, List.getElem?_cons_zero, Option.some.injEq] at ho2; subst ho2
        refine rg_step 4 hoi (by rfl) (fun K hK => ?_)
        clear hoi
        go_simp
        refine Calls.mono (HEB.out _ hS) ?_
        rintro e wy ⟨Ay, cy, rfl, _, _, hry, huy⟩
        go_wp2_with (fail)
        refine hK.out _ _ (hS.next huy) (fun hS => ?_)
        clear hK K
        try simp only [Act.put, List.setIfInBounds_toArray, List.set_cons_zero, List.set_cons_succ]
        refine rg_two 2 5 (by kernel_rfl) ?_ ?_
        focus
          refine rg_op_at 2 (by decide) (fun oi hoi => ?_)
          have ho2 := hoi; simp only [List.getElem?_toArray, List.getElem?_cons_succ, List.getElem?_cons_zero, Option.some.injEq] at ho2; subst ho2
          refine rg_step 2 hoi (by rfl) (fun K hK => ?_)
          clear hoi
          have hf := HCv.out _ _ Ax cx hrx (by first | exact huy | exact Upd.refl _ _)
          go_simp
          refine hK.out _ _ (hS) (fun hS => ?_)
          clear hK K
          try simp only [Act.put, List.setIfInBounds_toArray, List.set_cons_zero, List.set_cons_succ]
          refine rg_at 5 (by decide) (fun oi hoi => ?_)
          have ho2 := hoi; simp only [List.getElem?_toArray, List.getElem?_cons_succ, List.getElem?_cons_zero, Option.some.injEq] at ho2; subst ho2
          refine rg_call 5 (by kernel_rfl) hoi (by rfl) (fun K hK => ?_)
          clear hoi
          have hf := HCv.out _ _ Ay cy hry (Upd.refl _ _)
          go_simp
          refine hK.out _ _ (hS) (fun hS => ?_)
          clear hK K
          try simp only [Act.put, List.setIfInBounds_toArray, List.set_cons_zero, List.set_cons_succ]
          refine rg_at 6 (by decide) (fun oi hoi => ?_)
          have ho2 := hoi; simp only [List.getElem?_toArray, List.getElem?_cons_succ, List.getElem?_cons_zero, Option.some.injEq] at ho2; subst ho2
          refine rg_take (v := ?_) 6 hoi (by kernel_rfl) (by kernel_rfl) (by kernel_rfl) (fun _ _ _ h => h) (by rfl) ?_ hS ?_
          rotate_left
          · intro w _; go_simp; try with_reducible rfl
          clear hoi; try simp only [Act.put, List.setIfInBounds_toArray, List.set_cons_zero, List.set_cons_succ]
          refine wpAnyH_done (by kernel_rfl) ?_ _
        rotate_left 1
        focus
          refine rg_op_at 5 (by decide) (fun oi hoi => ?_)
          have ho2 := hoi; simp only [List.getElem?_toArray, List.getElem?_cons_succ, List.getElem?_cons_zero, Option.some.injEq] at ho2; subst ho2
          refine rg_step 5 hoi (by rfl) (fun K hK => ?_)
          clear hoi
          have hf := HCv.out _ _ Ay cy hry (Upd.refl _ _)
          go_simp
          refine hK.out _ _ (hS) (fun hS => ?_)
          clear hK K
          try simp only [Act.put, List.setIfInBounds_toArray, List.set_cons_zero, List.set_cons_succ]
          refine rg_at 2 (by decide) (fun oi hoi => ?_)
          have ho2 := hoi; simp only [List.getElem?_toArray, List.getElem?_cons_succ, List.getElem?_cons_zero, Option.some.injEq] at ho2; subst ho2
          refine rg_call 2 (by kernel_rfl) hoi (by rfl) (fun K hK => ?_)
          clear hoi
          have hf := HCv.out _ _ Ax cx hrx (by first | exact huy | exact Upd.refl _ _)
          go_simp
          refine hK.out _ _ (hS) (fun hS => ?_)
          clear hK K
          try simp only [Act.put, List.setIfInBounds_toArray, List.set_cons_zero, List.set_cons_succ]
          refine rg_at 6 (by decide) (fun oi hoi => ?_)
          have ho2 := hoi; simp only [List.getElem?_toArray, List.getElem?_cons_succ, List.getElem?_cons_zero, Option.some.injEq] at ho2; subst ho2
          refine rg_take (v := ?_) 6 hoi (by kernel_rfl) (by kernel_rfl) (by kernel_rfl) (fun _ _ _ h => h) (by rfl) ?_ hS ?_
          rotate_left
          · intro w _; go_simp; try with_reducible rfl
          clear hoi; try simp only [Act.put, List.setIfInBounds_toArray, List.set_cons_zero, List.set_cons_succ]
          refine wpAnyH_done (by kernel_rfl) ?_ _
      all_goals
        have HSy := hid hS
        clear hS hrx hux hry huy
        go_wp2_with (fail)
        refine Calls.mono (HEB.out _ HSy.out) ?_
        rintro e wz ⟨Az, cz, rfl, hcz1, hcz2, hrz, huz⟩
        have HUz := hid (Upd.next HSy.out huz)
        have hD := decode (c := cz) hrz hcz1 (by have := HEl.out; omega) hcz2 HEb.out
        rw [HDe.out] at hD
        have HD := hid hD
        clear hD hrz huz hcz1 hcz2 HSy
        go_wp2_with (fail)
        refine Calls.mono HD.out ?_
        rintro e w4 ⟨p4, F4, n4, rfl, hw4, hn4, hf4, hu4⟩
        have HU4 := hid (And.intro (Upd.next HUz.out hu4) hw4)
        clear hw4 hf4 hu4 HUz HD hn4
        have HQ := hid fun W (hu : Upd No wo W) => Upd.of_below No (HW.out.1.quiet hu).a.bel
        have hD1 := fun W (hu : Upd No wo W) => decode (c := d) (HB.out W (HQ.out W hu)) hd (by omega) hdm HBy.out
        have hD2 := fun W (hu : Upd No wo W) => rdecode (c := d) (HB.out W (HQ.out W hu)) hd (by omega) hdm HBy.out
        have hon := fun y h => dec_only (x := y) HBy.out h
        obtain ⟨r, hrd⟩ : ∃ r, r = decX l := ⟨_, rfl⟩
        rw [← hrd] at hD1 hD2 hon
        clear hrd
        have HSm := hid fun W (hu : Upd No wo W) (hw : Wd W F4 p4 x n4) => same hw (HW.out.1.quiet hu).b HW.out.1.a.ok
        rcases r with _ | y
        · have HD1 := hid hD1
          have HD2 := hid hD2
          unfold DcOut at HD1
          unfold DcRef at HD2
          clear hD1 hD2 hon
          go_wp2_with (fail)
          refine Calls.mono (HD1.out _ HU4.out.1) ?_
          rintro e w5 ⟨rfl, hu5⟩
          have HU5 := hid (And.intro (Upd.next HU4.out.1 hu5) (HU4.out.2.upd hu5 fun _ _ => no_ _))
          clear hu5
          go_wp2_with (fail)
          refine Calls.mono (HD2.out _ HU5.out.1) ?_
          rintro e w6 ⟨rfl, hu6⟩
          have HU6 := hid (And.intro (Upd.next HU5.out.1 hu6) (HU5.out.2.upd hu6 fun _ _ => no_ _))
          clear hu6
          go_wp2_with (fail)
          refine Calls.mono (HSm.out _ HU6.out.1 HU6.out.2) ?_
          rintro e w7 ⟨rfl, hu7⟩
          have HU7 := hid (Upd.next HU6.out.1 hu7)
          clear hu7
          go_wp2_with (fail)
          refine wp_region_held_drew (S := fun W => Upd No wo W) (by kernel_rfl) (Upd.drew HU7.out) (fun hS => ?_)
          refine rg_at 0 (by decide) (fun oi hoi => ?_)
          have ho2 := hoi; simp only [List.getElem?_toArray, List.getElem?_cons_succ, List.getElem?_cons_zero, Option.some.injEq] at ho2; subst ho2
          refine rg_take (v := ?_) 0 hoi (by kernel_rfl) (by kernel_rfl) (by kernel_rfl) (fun _ _ _ h => h) (by rfl) ?_ hS ?_
          rotate_left
          · intro w _; go_simp; try with_reducible rfl
          clear hoi; try simp only [Act.put, List.setIfInBounds_toArray, List.set_cons_zero, List.set_cons_succ]
          refine rg_at 1 (by decide) (fun oi hoi => ?_)
          have ho2 := hoi; simp only [List.getElem?_toArray, List.getElem?_cons_succ, List.getElem?_cons_zero, Option.some.injEq] at ho2; subst ho2
          refine rg_take (v := ?_) 1 hoi (by kernel_rfl) (by kernel_rfl) (by kernel_rfl) (fun _ _ _ h => h) (by rfl) ?_ hS ?_
          rotate_left
          · intro w _; go_simp; try with_reducible rfl
          clear hoi; try simp only [Act.put, List.setIfInBounds_toArray, List.set_cons_zero, List.set_cons_succ]
          refine rg_at 2 (by decide) (fun oi hoi => ?_)
          have ho2 := hoi; simp only [List.getElem?_toArray, List.getElem?_cons_succ, List.getElem?_cons_zero, Option.some.injEq] at ho2; subst ho2
          refine rg_take (v := ?_) 2 hoi (by kernel_rfl) (by kernel_rfl) (by kernel_rfl) (fun _ _ _ h => h) (by rfl) ?_ hS ?_
          rotate_left
          · intro w _; go_simp; try with_reducible rfl
          clear hoi; try simp only [Act.put, List.setIfInBounds_toArray, List.set_cons_zero, List.set_cons_succ]
          refine rg_at 3 (by decide) (fun oi hoi => ?_)
          have ho2 := hoi; simp only [List.getElem?_toArray, List.getElem?_cons_succ, List.getElem?_cons_zero, Option.some.injEq] at ho2; subst ho2
          refine rg_take (v := ?_) 3 hoi (by kernel_rfl) (by kernel_rfl) (by kernel_rfl) (fun _ _ _ h => h) (by rfl) ?_ hS ?_
          rotate_left
          · intro w _; go_simp; try with_reducible rfl
          clear hoi; try simp only [Act.put, List.setIfInBounds_toArray, List.set_cons_zero, List.set_cons_succ]
          refine rg_at 4 (by decide) (fun oi hoi => ?_)
          have ho2 := hoi; simp only [List.getElem?_toArray, List.getElem?_cons_succ, List.getElem?_cons_zero, Option.some.injEq] at ho2; subst ho2
          refine rg_take (v := ?_) 4 hoi (by kernel_rfl) (by kernel_rfl) (by kernel_rfl) (fun _ _ _ h => h) (by rfl) ?_ hS ?_
          rotate_left
          · intro w _; go_simp; try with_reducible rfl
          clear hoi; try simp only [Act.put, List.setIfInBounds_toArray, List.set_cons_zero, List.set_cons_succ]
          refine rg_at 5 (by decide) (fun oi hoi => ?_)
          have ho2 := hoi; simp only [List.getElem?_toArray, List.getElem?_cons_succ, List.getElem?_cons_zero, Option.some.injEq] at ho2; subst ho2
          refine rg_take (v := ?_) 5 hoi (by kernel_rfl) (by kernel_rfl) (by kernel_rfl) (fun _ _ _ h => h) (by rfl) ?_ hS ?_
          rotate_left
          · intro w _; go_simp; try with_reducible rfl
          clear hoi; try simp only [Act.put, List.setIfInBounds_toArray, List.set_cons_zero, List.set_cons_succ]
          refine rg_at 6 (by decide) (fun oi hoi => ?_)
          have ho2 := hoi; simp only [List.getElem?_toArray, List.getElem?_cons_succ, List.getElem?_cons_zero, Option.some.injEq] at ho2; subst ho2
          refine rg_take (v := ?_) 6 hoi (by kernel_rfl) (by kernel_rfl) (by kernel_rfl) (fun _ _ _ h => h) (by rfl) ?_ hS ?_
          rotate_left
          · intro w _; go_simp; try with_reducible rfl
          clear hoi; try simp only [Act.put, List.setIfInBounds_toArray, List.set_cons_zero, List.set_cons_succ]
          refine rg_at 7 (by decide) (fun oi hoi => ?_)
          have ho2 := hoi; simp only [List.getElem?_toArray, List.getElem?_cons_succ, List.getElem?_cons_zero, Option.some.injEq] at ho2; subst ho2
          refine rg_skip 7 hoi (by kernel_rfl) (by kernel_rfl) (by kernel_rfl) (fun _ _ _ h => h) (by rfl) hS ?_
          clear hoi; try simp only [Act.put, List.setIfInBounds_toArray, List.set_cons_zero, List.set_cons_succ]
          refine rg_at 8 (by decide) (fun oi hoi => ?_)
          have ho2 := hoi; simp only [List.getElem?_toArray, List.getElem?_cons_succ, List.getElem?_cons_zero, Option.some.injEq] at ho2; subst ho2
          refine rg_skip 8 hoi (by kernel_rfl) (by kernel_rfl) (by kernel_rfl) (fun _ _ _ h => h) (by rfl) hS ?_
          clear hoi; try simp only [Act.put, List.setIfInBounds_toArray, List.set_cons_zero, List.set_cons_succ]
          refine rg_at 9 (by decide) (fun oi hoi => ?_)
          have ho2 := hoi; simp only [List.getElem?_toArray, List.getElem?_cons_succ, List.getElem?_cons_zero, Option.some.injEq] at ho2; subst ho2
          refine rg_skip 9 hoi (by kernel_rfl) (by kernel_rfl) (by kernel_rfl) (fun _ _ _ h => h) (by rfl) hS ?_
          clear hoi; try simp only [Act.put, List.setIfInBounds_toArray, List.set_cons_zero, List.set_cons_succ]
          refine rg_at 10 (by decide) (fun oi hoi => ?_)
          have ho2 := hoi; simp only [List.getElem?_toArray, List.getElem?_cons_succ, List.getElem?_cons_zero, Option.some.injEq] at ho2; subst ho2
          refine rg_skip 10 hoi (by kernel_rfl) (by kernel_rfl) (by kernel_rfl) (fun _ _ _ h => h) (by rfl) hS ?_
          clear hoi; try simp only [Act.put, List.setIfInBounds_toArray, List.set_cons_zero, List.set_cons_succ]
          refine rg_at 11 (by decide) (fun oi hoi => ?_)
          have ho2 := hoi; simp only [List.getElem?_toArray, List.getElem?_cons_succ, List.getElem?_cons_zero, Option.some.injEq] at ho2; subst ho2
          refine rg_skip 11 hoi (by kernel_rfl) (by kernel_rfl) (by kernel_rfl) (fun _ _ _ h => h) (by rfl) hS ?_
          clear hoi; try simp only [Act.put, List.setIfInBounds_toArray, List.set_cons_zero, List.set_cons_succ]
          refine rg_at 12 (by decide) (fun oi hoi => ?_)
          have ho2 := hoi; simp only [List.getElem?_toArray, List.getElem?_cons_succ, List.getElem?_cons_zero, Option.some.injEq] at ho2; subst ho2
          refine rg_skip 12 hoi (by kernel_rfl) (by kernel_rfl) (by kernel_rfl) (fun _ _ _ h => h) (by rfl) hS ?_
          clear hoi; try simp only [Act.put, List.setIfInBounds_toArray, List.set_cons_zero, List.set_cons_succ]
          refine rg_at 13 (by decide) (fun oi hoi => ?_)
          have ho2 := hoi; simp only [List.getElem?_toArray, List.getElem?_cons_succ, List.getElem?_cons_zero, Option.some.injEq] at ho2; subst ho2
          refine rg_skip 13 hoi (by kernel_rfl) (by kernel_rfl) (by kernel_rfl) (fun _ _ _ h => h) (by rfl) hS ?_
          clear hoi; try simp only [Act.put, List.setIfInBounds_toArray, List.set_cons_zero, List.set_cons_succ]
          refine rg_at 14 (by decide) (fun oi hoi => ?_)
          have ho2 := hoi; simp only [List.getElem?_toArray, List.getElem?_cons_succ, List.getElem?_cons_zero, Option.some.injEq] at ho2; subst ho2
          refine rg_skip 14 hoi (by kernel_rfl) (by kernel_rfl) (by kernel_rfl) (fun _ _ _ h => h) (by rfl) hS ?_
          clear hoi; try simp only [Act.put, List.setIfInBounds_toArray, List.set_cons_zero, List.set_cons_succ]
          refine rg_at 15 (by decide) (fun oi hoi => ?_)
          have ho2 := hoi; simp only [List.getElem?_toArray, List.getElem?_cons_succ, List.getElem?_cons_zero, Option.some.injEq] at ho2; subst ho2
          refine rg_skip 15 hoi (by kernel_rfl) (by kernel_rfl) (by kernel_rfl) (fun _ _ _ h => h) (by rfl) hS ?_
          clear hoi; try simp only [Act.put, List.setIfInBounds_toArray, List.set_cons_zero, List.set_cons_succ]
          refine rg_at 16 (by decide) (fun oi hoi => ?_)
          have ho2 := hoi; simp only [List.getElem?_toArray, List.getElem?_cons_succ, List.getElem?_cons_zero, Option.some.injEq] at ho2; subst ho2
          refine rg_skip 16 hoi (by kernel_rfl) (by kernel_rfl) (by kernel_rfl) (fun _ _ _ h => h) (by rfl) hS ?_
          clear hoi; try simp only [Act.put, List.setIfInBounds_toArray, List.set_cons_zero, List.set_cons_succ]
          refine rg_at 17 (by decide) (fun oi hoi => ?_)
          have ho2 := hoi; simp only [List.getElem?_toArray, List.getElem?_cons_succ, List.getElem?_cons_zero, Option.some.injEq] at ho2; subst ho2
          refine rg_skip 17 hoi (by kernel_rfl) (by kernel_rfl) (by kernel_rfl) (fun _ _ _ h => h) (by rfl) hS ?_
          clear hoi; try simp only [Act.put, List.setIfInBounds_toArray, List.set_cons_zero, List.set_cons_succ]
          refine rg_at 18 (by decide) (fun oi hoi => ?_)
          have ho2 := hoi; simp only [List.getElem?_toArray, List.getElem?_cons_succ, List.getElem?_cons_zero, Option.some.injEq] at ho2; subst ho2
          refine rg_skip 18 hoi (by kernel_rfl) (by kernel_rfl) (by kernel_rfl) (fun _ _ _ h => h) (by rfl) hS ?_
          clear hoi; try simp only [Act.put, List.setIfInBounds_toArray, List.set_cons_zero, List.set_cons_succ]
          refine rg_at 19 (by decide) (fun oi hoi => ?_)
          have ho2 := hoi; simp only [List.getElem?_toArray, List.getElem?_cons_succ, List.getElem?_cons_zero, Option.some.injEq] at ho2; subst ho2
          refine rg_skip 19 hoi (by kernel_rfl) (by kernel_rfl) (by kernel_rfl) (fun _ _ _ h => h) (by rfl) hS ?_
          clear hoi; try simp only [Act.put, List.setIfInBounds_toArray, List.set_cons_zero, List.set_cons_succ]
          refine rg_at 20 (by decide) (fun oi hoi => ?_)
          have ho2 := hoi; simp only [List.getElem?_toArray, List.getElem?_cons_succ, List.getElem?_cons_zero, Option.some.injEq] at ho2; subst ho2
          refine rg_skip 20 hoi (by kernel_rfl) (by kernel_rfl) (by kernel_rfl) (fun _ _ _ h => h) (by rfl) hS ?_
          clear hoi; try simp only [Act.put, List.setIfInBounds_toArray, List.set_cons_zero, List.set_cons_succ]
          refine rg_at 21 (by decide) (fun oi hoi => ?_)
          have ho2 := hoi; simp only [List.getElem?_toArray, List.getElem?_cons_succ, List.getElem?_cons_zero, Option.some.injEq] at ho2; subst ho2
          refine rg_skip 21 hoi (by kernel_rfl) (by kernel_rfl) (by kernel_rfl) (fun _ _ _ h => h) (by rfl) hS ?_
          clear hoi; try simp only [Act.put, List.setIfInBounds_toArray, List.set_cons_zero, List.set_cons_succ]
          refine rg_at 22 (by decide) (fun oi hoi => ?_)
          have ho2 := hoi; simp only [List.getElem?_toArray, List.getElem?_cons_succ, List.getElem?_cons_zero, Option.some.injEq] at ho2; subst ho2
          refine rg_take (v := ?_) 22 hoi (by kernel_rfl) (by kernel_rfl) (by kernel_rfl) (fun _ _ _ h => h) (by rfl) ?_ hS ?_
          rotate_left
          · intro w _; go_simp; try with_reducible rfl
          clear hoi; try simp only [Act.put, List.setIfInBounds_toArray, List.set_cons_zero, List.set_cons_succ]
          refine rg_at 23 (by decide) (fun oi hoi => ?_)
          have ho2 := hoi; simp only [List.getElem?_toArray, List.getElem?_cons_succ, List.getElem?_cons_zero, Option.some.injEq] at ho2; subst ho2
          refine rg_take (v := ?_) 23 hoi (by kernel_rfl) (by kernel_rfl) (by kernel_rfl) (fun _ _ _ h => h) (by rfl) ?_ hS ?_
          rotate_left
          · intro w _; go_simp; try with_reducible rfl
          clear hoi; try simp only [Act.put, List.setIfInBounds_toArray, List.set_cons_zero, List.set_cons_succ]
          refine wpAnyH_done (by kernel_rfl) ?_ _
          have HE := hid (HW.out.1.quiet hS).a.bel
          clear hS
          go_wp2
          go_ret
          exact ⟨rfl, HE.out⟩
        · have HOn := hid (hon y rfl)
          unfold DcOut at hD1
          unfold DcRef at hD2
          have HD1 := hid hD1
          have HD2 := hid hD2
          clear hD1 hD2 hon
          go_wp2_with (fail)
          refine Calls.mono (HD1.out _ HU4.out.1) ?_
          rintro e w5 ⟨p5, F5, n5, rfl, hw5, hn5, hf5, hu5⟩
          have HU5 := hid (And.intro (Upd.next HU4.out.1 hu5) (And.intro (HU4.out.2.upd hu5 fun _ _ => no_ _) hw5))
          clear hu5 hw5 hf5 hn5
          go_wp2_with (fail)
          refine Calls.mono (HD2.out _ HU5.out.1) ?_
          rintro e w6 ⟨q6, F6, rfl, hw6, hf6, hu6⟩
          have HU6 := hid (And.intro (Upd.next HU5.out.1 hu6) (And.intro (HU5.out.2.1.upd hu6 fun _ _ => no_ _) (And.intro (HU5.out.2.2.upd hu6 fun _ _ => no_ _) hw6)))
          clear hu6 hw6 hf6
          go_wp2_with (fail)
          refine Calls.mono (HSm.out _ HU6.out.1 HU6.out.2.1) ?_
          rintro e w7 ⟨rfl, hu7⟩
          have HU7 := hid (And.intro (Upd.next HU6.out.1 hu7) (And.intro (HU6.out.2.2.1.upd hu7 fun _ _ => no_ _) (HU6.out.2.2.2.upd hu7 fun _ _ => no_ _)))
          clear hu7
          have HSn := hid fun W (hu : Upd No w7 W) => same (HU7.out.2.1.upd hu fun _ _ => no_ _) (HU7.out.2.2.upd hu fun _ _ => no_ _) HOn.out.2.1
          have hEn := fun W (hu : Upd No w7 W) => encode (HU7.out.2.1.upd hu fun _ _ => no_ _) HOn.out.2.1
          rw [HOn.out.1] at hEn
          unfold EnOut at hEn
          have HEn := hid hEn
          clear hEn
          obtain ⟨sl, hsl⟩ : ∃ sl, sl = strOfNums l := ⟨_, rfl⟩
          have HCl : Hid (∀ W W' A c, Rn W .u8 A l → Upd No W W' → (convert 46 9 (.slice A l.length c)).run Try.prog W' = .ok (.string sl) W') := hid fun W W' A c h hu => conv_all h c hsl W' hu
          have HCb : Hid (∀ W, Upd No w7 W → (convert 46 9 (.slice B l.length d)).run Try.prog W = .ok (.string sl) W) := hid fun W hu => HCl.out W W B d (HB.out W (HQ.out W (Upd.next HU7.out.1 hu))) (Upd.refl _ _)
          clear hsl
          go_wp2_with (fail)
          refine wp_region_held_drew (S := fun W => Upd No w7 W) (by kernel_rfl) (Upd.drew (Upd.refl _ _)) (fun hS => ?_)
          refine rg_at 0 (by decide) (fun oi hoi => ?_)
          have ho2 := hoi; simp only [List.getElem?_toArray, List.getElem?_cons_succ, List.getElem?_cons_zero, Option.some.injEq] at ho2; subst ho2
          refine rg_take (v := ?_) 0 hoi (by kernel_rfl) (by kernel_rfl) (by kernel_rfl) (fun _ _ _ h => h) (by rfl) ?_ hS ?_
          rotate_left
          · intro w _; go_simp; try with_reducible rfl
          clear hoi; try simp only [Act.put, List.setIfInBounds_toArray, List.set_cons_zero, List.set_cons_succ]
          refine rg_at 1 (by decide) (fun oi hoi => ?_)
          have ho2 := hoi; simp only [List.getElem?_toArray, List.getElem?_cons_succ, List.getElem?_cons_zero, Option.some.injEq] at ho2; subst ho2
          refine rg_take (v := ?_) 1 hoi (by kernel_rfl) (by kernel_rfl) (by kernel_rfl) (fun _ _ _ h => h) (by rfl) ?_ hS ?_
          rotate_left
          · intro w _; go_simp; try with_reducible rfl
          clear hoi; try simp only [Act.put, List.setIfInBounds_toArray, List.set_cons_zero, List.set_cons_succ]
          refine rg_at 2 (by decide) (fun oi hoi => ?_)
          have ho2 := hoi; simp only [List.getElem?_toArray, List.getElem?_cons_succ, List.getElem?_cons_zero, Option.some.injEq] at ho2; subst ho2
          refine rg_take (v := ?_) 2 hoi (by kernel_rfl) (by kernel_rfl) (by kernel_rfl) (fun _ _ _ h => h) (by rfl) ?_ hS ?_
          rotate_left
          · intro w _; go_simp; try with_reducible rfl
          clear hoi; try simp only [Act.put, List.setIfInBounds_toArray, List.set_cons_zero, List.set_cons_succ]
          refine rg_at 3 (by decide) (fun oi hoi => ?_)
          have ho2 := hoi; simp only [List.getElem?_toArray, List.getElem?_cons_succ, List.getElem?_cons_zero, Option.some.injEq] at ho2; subst ho2
          refine rg_skip 3 hoi (by kernel_rfl) (by kernel_rfl) (by kernel_rfl) (fun _ _ _ h => h) (by rfl) hS ?_
          clear hoi; try simp only [Act.put, List.setIfInBounds_toArray, List.set_cons_zero, List.set_cons_succ]
          refine rg_at 4 (by decide) (fun oi hoi => ?_)
          have ho2 := hoi; simp only [List.getElem?_toArray, List.getElem?_cons_succ, List.getElem?_cons_zero, Option.some.injEq] at ho2; subst ho2
          refine rg_skip 4 hoi (by kernel_rfl) (by kernel_rfl) (by kernel_rfl) (fun _ _ _ h => h) (by rfl) hS ?_
          clear hoi; try simp only [Act.put, List.setIfInBounds_toArray, List.set_cons_zero, List.set_cons_succ]
          refine rg_at 5 (by decide) (fun oi hoi => ?_)
          have ho2 := hoi; simp only [List.getElem?_toArray, List.getElem?_cons_succ, List.getElem?_cons_zero, Option.some.injEq] at ho2; subst ho2
          refine rg_take (v := ?_) 5 hoi (by kernel_rfl) (by kernel_rfl) (by kernel_rfl) (fun _ _ _ h => h) (by rfl) ?_ hS ?_
          rotate_left
          · intro w _; go_simp; try with_reducible rfl
          clear hoi; try simp only [Act.put, List.setIfInBounds_toArray, List.set_cons_zero, List.set_cons_succ]
          refine rg_at 6 (by decide) (fun oi hoi => ?_)
          have ho2 := hoi; simp only [List.getElem?_toArray, List.getElem?_cons_succ, List.getElem?_cons_zero, Option.some.injEq] at ho2; subst ho2
          refine rg_take (v := ?_) 6 hoi (by kernel_rfl) (by kernel_rfl) (by kernel_rfl) (fun _ _ _ h => h) (by rfl) ?_ hS ?_
          rotate_left
          · intro w _; go_simp; try with_reducible rfl
          clear hoi; try simp only [Act.put, List.setIfInBounds_toArray, List.set_cons_zero, List.set_cons_succ]
          refine rg_at 7 (by decide) (fun oi hoi => ?_)
          have ho2 := hoi; simp only [List.getElem?_toArray, List.getElem?_cons_succ, List.getElem?_cons_zero, Option.some.injEq] at ho2; subst ho2
          refine rg_take (v := ?_) 7 hoi (by kernel_rfl) (by kernel_rfl) (by kernel_rfl) (fun _ _ _ h => h) (by rfl) ?_ hS ?_
          rotate_left
          · intro w _; go_simp; try with_reducible rfl
          clear hoi; try simp only [Act.put, List.setIfInBounds_toArray, List.set_cons_zero, List.set_cons_succ]
          refine rg_at 8 (by decide) (fun oi hoi => ?_)
          have ho2 := hoi; simp only [List.getElem?_toArray, List.getElem?_cons_succ, List.getElem?_cons_zero, Option.some.injEq] at ho2; subst ho2
          refine rg_take (v := ?_) 8 hoi (by kernel_rfl) (by kernel_rfl) (by kernel_rfl) (fun _ _ _ h => h) (by rfl) ?_ hS ?_
          rotate_left
          · intro w _; go_simp; try with_reducible rfl
          clear hoi; try simp only [Act.put, List.setIfInBounds_toArray, List.set_cons_zero, List.set_cons_succ]
          refine rg_at 9 (by decide) (fun oi hoi => ?_)
          have ho2 := hoi; simp only [List.getElem?_toArray, List.getElem?_cons_succ, List.getElem?_cons_zero, Option.some.injEq] at ho2; subst ho2
          refine rg_take (v := ?_) 9 hoi (by kernel_rfl) (by kernel_rfl) (by kernel_rfl) (fun _ _ _ h => h) (by rfl) ?_ hS ?_
          rotate_left
          · intro w _; go_simp; try with_reducible rfl
          clear hoi; try simp only [Act.put, List.setIfInBounds_toArray, List.set_cons_zero, List.set_cons_succ]
          refine rg_at 10 (by decide) (fun oi hoi => ?_)
          have ho2 := hoi; simp only [List.getElem?_toArray, List.getElem?_cons_succ, List.getElem?_cons_zero, Option.some.injEq] at ho2; subst ho2
          refine rg_take (v := ?_) 10 hoi (by kernel_rfl) (by kernel_rfl) (by kernel_rfl) (fun _ _ _ h => h) (by rfl) ?_ hS ?_
          rotate_left
          · intro w _; go_simp; try with_reducible rfl
          clear hoi; try simp only [Act.put, List.setIfInBounds_toArray, List.set_cons_zero, List.set_cons_succ]
          refine rg_at 11 (by decide) (fun oi hoi => ?_)
          have ho2 := hoi; simp only [List.getElem?_toArray, List.getElem?_cons_succ, List.getElem?_cons_zero, Option.some.injEq] at ho2; subst ho2
          refine rg_take (v := ?_) 11 hoi (by kernel_rfl) (by kernel_rfl) (by kernel_rfl) (fun _ _ _ h => h) (by rfl) ?_ hS ?_
          rotate_left
          · intro w _; go_simp; try with_reducible rfl
          clear hoi; try simp only [Act.put, List.setIfInBounds_toArray, List.set_cons_zero, List.set_cons_succ]
          refine rg_at 12 (by decide) (fun oi hoi => ?_)
          have ho2 := hoi; simp only [List.getElem?_toArray, List.getElem?_cons_succ, List.getElem?_cons_zero, Option.some.injEq] at ho2; subst ho2
          refine rg_call 12 (by kernel_rfl) hoi (by rfl) (fun K hK => ?_)
          clear hoi
          go_simp
          refine Calls.mono (HSn.out _ hS) ?_
          rintro e wx ⟨rfl, hux⟩
          go_wp2_with (fail)
          refine hK.out _ _ (hS.next hux) (fun hS => ?_)
          clear hK K
          try simp only [Act.put, List.setIfInBounds_toArray, List.set_cons_zero, List.set_cons_succ]
          refine rg_at 13 (by decide) (fun oi hoi => ?_)
          have ho2 := hoi; simp only [List.getElem?_toArray, List.getElem?_cons_succ, List.getElem?_cons_zero, Option.some.injEq] at ho2; subst ho2
          refine rg_take (v := ?_) 13 hoi (by kernel_rfl) (by kernel_rfl) (by kernel_rfl) (fun _ _ _ h => h) (by rfl) ?_ hS ?_
          rotate_left
          · intro w _; go_simp; try with_reducible rfl
          clear hoi; try simp only [Act.put, List.setIfInBounds_toArray, List.set_cons_zero, List.set_cons_succ]
          refine rg_at 14 (by decide) (fun oi hoi => ?_)
          have ho2 := hoi; simp only [List.getElem?_toArray, List.getElem?_cons_succ, List.getElem?_cons_zero, Option.some.injEq] at ho2; subst ho2
          refine rg_take (v := ?_) 14 hoi (by kernel_rfl) (by kernel_rfl) (by kernel_rfl) (fun _ _ _ h => h) (by rfl) ?_ hS ?_
          rotate_left
          · intro w _; go_simp; try with_reducible rfl
          clear hoi; try simp only [Act.put, List.setIfInBounds_toArray, List.set_cons_zero, List.set_cons_succ]
          refine rg_at 15 (by decide) (fun oi hoi => ?_)
          have ho2 := hoi; simp only [List.getElem?_toArray, List.getElem?_cons_succ, List.getElem?_cons_zero, Option.some.injEq] at ho2; subst ho2
          refine rg_take (v := ?_) 15 hoi (by kernel_rfl) (by kernel_rfl) (by kernel_rfl) (fun _ _ _ h => h) (by rfl) ?_ hS ?_
          rotate_left
          · intro w _; go_simp; try with_reducible rfl
          clear hoi; try simp only [Act.put, List.setIfInBounds_toArray, List.set_cons_zero, List.set_cons_succ]
          refine rg_at 18 (by decide) (fun oi hoi => ?_)
          have ho2 := hoi; simp only [List.getElem?_toArray, List.getElem?_cons_succ, List.getElem?_cons_zero, Option.some.injEq] at ho2; subst ho2
          refine rg_take (v := ?_) 18 hoi (by kernel_rfl) (by kernel_rfl) (by kernel_rfl) (fun _ _ _ h => h) (by rfl) ?_ hS ?_
          rotate_left
          · intro w _; go_simp; try with_reducible rfl
          clear hoi; try simp only [Act.put, List.setIfInBounds_toArray, List.set_cons_zero, List.set_cons_succ]
          refine rg_at 19 (by decide) (fun oi hoi => ?_)
          have ho2 := hoi; simp only [List.getElem?_toArray, List.getElem?_cons_succ, List.getElem?_cons_zero, Option.some.injEq] at ho2; subst ho2
          refine rg_take (v := ?_) 19 hoi (by kernel_rfl) (by kernel_rfl) (by kernel_rfl) (fun _ _ _ h => h) (by rfl) ?_ hS ?_
          rotate_left
          · intro w hw; have hf := HCb.out w hw; clear hw; go_simp; try with_reducible rfl
          clear hoi; try simp only [Act.put, List.setIfInBounds_toArray, List.set_cons_zero, List.set_cons_succ]
          refine rg_at 16 (by decide) (fun oi hoi => ?_)
          have ho2 := hoi; simp only [List.getElem?_toArray, List.getElem?_cons_succ, List.getElem?_cons_zero, Option.some.injEq] at ho2; subst ho2
          refine rg_call 16 (by kernel_rfl) hoi (by rfl) (fun K hK => ?_)
          clear hoi
          go_simp
          refine Calls.mono (HEn.out _ hS) ?_
          rintro e wy ⟨Ay, cy, rfl, _, _, hry, huy⟩
          go_wp2_with (fail)
          refine hK.out _ _ (hS.next huy) (fun hS => ?_)
          clear hK K
          try simp only [Act.put, List.setIfInBounds_toArray, List.set_cons_zero, List.set_cons_succ]
          refine rg_at 17 (by decide) (fun oi hoi => ?_)
          have ho2 := hoi; simp only [List.getElem?_toArray, List.getElem?_cons_succ, List.getElem?_cons_zero, Option.some.injEq] at ho2; subst ho2
          refine rg_call 17 (by kernel_rfl) hoi (by rfl) (fun K hK => ?_)
          clear hoi
          have hf := HCl.out _ _ Ay cy hry (Upd.refl _ _)
          go_simp
          refine hK.out _ _ (hS) (fun hS => ?_)
          clear hK K
          try simp only [Act.put, List.setIfInBounds_toArray, List.set_cons_zero, List.set_cons_succ]
          refine rg_at 20 (by decide) (fun oi hoi => ?_)
          have ho2 := hoi; simp only [List.getElem?_toArray, List.getElem?_cons_succ, List.getElem?_cons_zero, Option.some.injEq] at ho2; subst ho2
          refine rg_take (v := ?_) 20 hoi (by kernel_rfl) (by kernel_rfl) (by kernel_rfl) (fun _ _ _ h => h) (by rfl) ?_ hS ?_
          rotate_left
          · intro w _; go_simp; try with_reducible rfl
          clear hoi; try simp only [Act.put, List.setIfInBounds_toArray, List.set_cons_zero, List.set_cons_succ]
          refine rg_at 21 (by decide) (fun oi hoi => ?_)
          have ho2 := hoi; simp only [List.getElem?_toArray, List.getElem?_cons_succ, List.getElem?_cons_zero, Option.some.injEq] at ho2; subst ho2
          refine rg_take (v := ?_) 21 hoi (by kernel_rfl) (by kernel_rfl) (by kernel_rfl) (fun _ _ _ h => h) (by rfl) ?_ hS ?_
          rotate_left
          · intro w _; go_simp; try with_reducible rfl
          clear hoi; try simp only [Act.put, List.setIfInBounds_toArray, List.set_cons_zero, List.set_cons_succ]
          refine rg_at 22 (by decide) (fun oi hoi => ?_)
          have ho2 := hoi; simp only [List.getElem?_toArray, List.getElem?_cons_succ, List.getElem?_cons_zero, Option.some.injEq] at ho2; subst ho2
          refine rg_take (v := ?_) 22 hoi (by kernel_rfl) (by kernel_rfl) (by kernel_rfl) (fun _ _ _ h => h) (by rfl) ?_ hS ?_
          rotate_left
          · intro w _; go_simp; try with_reducible rfl
          clear hoi; try simp only [Act.put, List.setIfInBounds_toArray, List.set_cons_zero, List.set_cons_succ]
          refine rg_at 23 (by decide) (fun oi hoi => ?_)
          have ho2 := hoi; simp only [List.getElem?_toArray, List.getElem?_cons_succ, List.getElem?_cons_zero, Option.some.injEq] at ho2; subst ho2
          refine rg_take (v := ?_) 23 hoi (by kernel_rfl) (by kernel_rfl) (by kernel_rfl) (fun _ _ _ h => h) (by rfl) ?_ hS ?_
          rotate_left
          · intro w _; go_simp; try with_reducible rfl
          clear hoi; try simp only [Act.put, List.setIfInBounds_toArray, List.set_cons_zero, List.set_cons_succ]
          refine wpAnyH_done (by kernel_rfl) ?_ _
          have HE := hid (HW.out.1.quiet (Upd.next HU7.out.1 hS)).a.bel
          clear hS hry huy hux
          go_wp2
          go_ret
          exact ⟨rfl, HE.out⟩
end Go.Proofs.Ytogijfgfcdmbnaa.We
