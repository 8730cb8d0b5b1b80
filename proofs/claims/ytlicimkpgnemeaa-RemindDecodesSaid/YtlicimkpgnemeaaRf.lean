/-
  reevelaw15.play: calls on both queues.
-/
import Derived.Test.YtlicimkpgnemeaaRe
import Derived.Test.YtlicimkpgnemeaaNa
set_option linter.unusedVariables false
set_option linter.unusedSimpArgs false
namespace Go.Proofs.Ytlicimkpgnemeaa.Nd
open Go.RowKit Go.Proofs.Ytlicimkpgnemeaa.B Go.Proofs.Ytlicimkpgnemeaa.Op
def TwE (w W : World) (q p : Nat) : Prop := ∃ F G l, Tw w W F G q p l l
theorem TwE.quiet {w W W' : World} {q p : Nat} (h : TwE w W q p) (hu : Upd No W W') : TwE w W' q p := by
  obtain ⟨F, G, l, h⟩ := h
  exact ⟨F, G, l, h.quiet hu⟩
theorem TwE.bel {w W : World} {q p : Nat} (h : TwE w W q p) : Below w.heap.size w W := by
  obtain ⟨F, G, l, h⟩ := h
  exact h.bel
def SmOut (w : World) (q p : Nat) (e : Ending) (w' : World) : Prop := e = .returned (.bool true) ∧ TwE w w' q p
theorem TwE.same {w W : World} {q p : Nat} (h : TwE w W q p) : Calls Try.prog 24 #[.pointer (some ⟨q, 0, none⟩), .pointer (some ⟨p, 0, none⟩)] W fun e w' => SmOut w q p e w' := by
  obtain ⟨F, G, l, h⟩ := h
  exact h.same.mono fun e w' ⟨h1, h2⟩ => ⟨h1, F, G, l, h.quiet h2⟩
theorem box7 {W : World} {p : Nat} {t : TypeId} {a0 a1 a2 a3 a4 a5 a6 : Value} (h : Blk W p t #[a0, a1, a2, a3, a4, a5, a6]) : W.cell? ⟨p, 0, none⟩ = some a0 ∧ W.cell? ⟨p, 1, none⟩ = some a1 ∧ W.cell? ⟨p, 2, none⟩ = some a2 ∧ W.cell? ⟨p, 3, none⟩ = some a3 ∧ W.cell? ⟨p, 4, none⟩ = some a4 ∧ W.cell? ⟨p, 5, none⟩ = some a5 ∧ W.cell? ⟨p, 6, none⟩ = some a6 := by
  have h0 := h.cell 0
  have h1 := h.cell 1
  have h2 := h.cell 2
  have h3 := h.cell 3
  have h4 := h.cell 4
  have h5 := h.cell 5
  have h6 := h.cell 6
  simp at h0 h1 h2 h3 h4 h5 h6
  exact ⟨h0, h1, h2, h3, h4, h5, h6⟩
theorem mid5 {W : World} {p : Nat} {t : TypeId} {a0 a1 a2 a3 a4 a5 a6 : Value} (h : Blk W p t #[a0, a1, a2, a3, a4, a5, a6]) : W.cell? ⟨p, 1, none⟩ = some a1 ∧ W.cell? ⟨p, 2, none⟩ = some a2 ∧ W.cell? ⟨p, 3, none⟩ = some a3 ∧ W.cell? ⟨p, 4, none⟩ = some a4 ∧ W.cell? ⟨p, 5, none⟩ = some a5 := by
  obtain ⟨h0, h1, h2, h3, h4, h5, h6⟩ := box7 h
  exact ⟨h1, h2, h3, h4, h5⟩
theorem op_at {W : World} {A : Option Addr} {xs : List Oi} (h : Rd W 7 A xs.length (xs.flatMap ocells)) {i : Nat} (hi : i < xs.length) : ∃ ad, A = some ad ∧ W.cell? (ad.add (i * 7)) = some (.int .i64 xs[i].1) ∧ W.cell? ⟨(ad.add (i * 7)).block, (ad.add (i * 7)).off + 1, none⟩ = some (.string xs[i].2.1.actor) ∧ W.cell? ⟨(ad.add (i * 7)).block, (ad.add (i * 7)).off + 2, none⟩ = some (.string xs[i].2.1.name) ∧ W.cell? ⟨(ad.add (i * 7)).block, (ad.add (i * 7)).off + 3, none⟩ = some (.int .i64 xs[i].2.1.due) ∧ W.cell? ⟨(ad.add (i * 7)).block, (ad.add (i * 7)).off + 4, none⟩ = some (.int .i64 xs[i].2.1.per) ∧ W.cell? ⟨(ad.add (i * 7)).block, (ad.add (i * 7)).off + 5, none⟩ = some (.int .i64 xs[i].2.1.kind) ∧ W.cell? ⟨(ad.add (i * 7)).block, (ad.add (i * 7)).off + 6, none⟩ = some (.int .i64 xs[i].2.2) := by
  obtain ⟨ad, e, hc⟩ := row_at h (fun _ _ => rfl) rfl hi
  have h0 := hc 0 (by omega)
  have h1 := hc 1 (by omega)
  have h2 := hc 2 (by omega)
  have h3 := hc 3 (by omega)
  have h4 := hc 4 (by omega)
  have h5 := hc 5 (by omega)
  have h6 := hc 6 (by omega)
  rw [add_field _ _ _ (by omega)] at h1 h2 h3 h4 h5 h6
  simp only [ocells, rc, Nat.add_zero] at h0
  exact ⟨ad, e, h0, h1, h2, h3, h4, h5, h6⟩
/-- A box of the caller's, beside both queues. -/
def Bx (W : World) (F G : Nat → Prop) (p t : Nat) (cs : Array Value) : Prop := Blk W p t cs ∧ ¬ F p ∧ ¬ G p
section
variable {W W' : World} {F F' G G' : Nat → Prop} {p t : Nat} {cs : Array Value}
theorem Bx.left (h : Bx W F G p t cs) (hm : Mv F F' W W') : Bx W' F' G p t cs := ⟨h.1.upd hm.upd h.2.1, fun hk => (hm.sub p hk).elim h.2.1 (fun h1 => by have := h.1.lt; omega), h.2.2⟩
theorem Bx.right (h : Bx W F G p t cs) (hm : Mv G G' W W') : Bx W' F G' p t cs := ⟨h.1.upd hm.upd h.2.2, h.2.1, fun hk => (hm.sub p hk).elim h.2.2 (fun h1 => by have := h.1.lt; omega)⟩
theorem Bx.quiet (h : Bx W F G p t cs) (hu : Upd No W W') : Bx W' F G p t cs := ⟨h.1.upd hu (no_ _), h.2⟩
theorem Bx.fresh {w : World} {q p0 : Nat} {l m : List Rm} (h : Tw w W F G q p0 l m) (t : TypeId) (cs : Array Value) : Bx (W.alloc (.cells cs t)) F G W.heap.size t cs :=
  ⟨Blk.fresh _ _ _, fun hk => by have := h.a.lt _ hk; omega, fun hk => by have := h.b.lt _ hk; omega⟩
end
set_option maxHeartbeats 4000000 in
set_option maxRecDepth 100000 in
theorem play_ {w w0 : World} {q p : Nat} {A : Option Addr} {c : Nat} {xs : List Oi} (h : TwE w w0 q p) (hsc : ∀ W, Below w.heap.size w W → Rd W 7 A xs.length (xs.flatMap ocells)) (hl : xs.length ≤ maxLen) (hx : ∀ x ∈ xs, Rg x.2.1) :
    Calls Try.prog 18 #[.pointer (some ⟨q, 0, none⟩), .pointer (some ⟨p, 0, none⟩), .slice A xs.length c] w0 fun e w' => e = .returned (.bool true) ∧ TwE w w' q p := by
  have hl1 : xs.length ≤ 9223372036854775807 := by simp only [maxLen] at hl; omega
  have HS := hid hsc
  have HX := hid hx
  have HT0 := hid h
  clear hsc hx h hl
  go_enter Try.func18, Try.ntmps18
  go_wp2_with (fail)
  go_loopw [19] (fun v19 W => ∃ j : Nat, j ≤ xs.length ∧ v19 = .int .i64 j ∧ Hid (TwE w W q p)) (fun v19 _ => xs.length - (intOf v19).toNat)
  case atStart => exact ⟨0, by omega, rfl, HT0⟩
  case round =>
    clear HT0
    obtain ⟨j, hj, rfl, HT⟩ := hrel
    by_cases hlt : j < xs.length
    case' neg =>
      obtain rfl : j = xs.length := by omega
      go_wp2
      go_ret
      exact ⟨rfl, HT.out⟩
    have hj2 : (j : Int) < (xs.length : Int) := by omega
    have hj1 : (0 : Int) ≤ (j : Int) := by omega
    obtain ⟨F, G, l, ht⟩ := HT.out
    obtain ⟨ad, rfl, o0, o1, o2, o3, o4, o5, o6⟩ := op_at (HS.out wr HT.out.bel) hlt
    have hrg := HX.out _ (List.getElem_mem hlt)
    generalize xs[j] = x at *
    obtain ⟨k, ⟨ac, an, du, ap, ak⟩, now⟩ := x
    simp only at o0 o1 o2 o3 o4 o5 o6
    have HRg : Hid (I64 du ∧ I64 ap ∧ I64 ak) := hid hrg
    have HQ := hid fun o => HT.out.quiet ((Upd.refl No wr).alloc o)
    clear hrg
    by_cases h200 : 200 ≤ j
    · have h200' : (200 : Int) ≤ (j : Int) := by omega
      go_wp2
      go_ret
      exact ⟨rfl, HQ.out _⟩
    have h200' : ¬ (200 : Int) ≤ (j : Int) := by omega
    by_cases hn : 1000 < an.size
    · have hn' : (1000 : Int) < (an.size : Int) := by omega
      go_wp2
      go_ret
      exact ⟨rfl, HQ.out _⟩
    have hn' : ¬ (1000 : Int) < (an.size : Int) := by omega
    by_cases ha : 1000 < ac.size
    · have ha' : (1000 : Int) < (ac.size : Int) := by omega
      go_wp2
      go_ret
      exact ⟨rfl, HQ.out _⟩
    have ha' : ¬ (1000 : Int) < (ac.size : Int) := by omega
    clear h200 hn ha
    have hx1 := Bx.fresh ht 67 #[.int .i64 k, .string ac, .string an, .int .i64 du, .int .i64 ap, .int .i64 ak, .int .i64 now]
    have ht1 := ht.quiet ((Upd.refl No wr).alloc (.cells #[.int .i64 k, .string ac, .string an, .int .i64 du, .int .i64 ap, .int .i64 ak, .int .i64 now] 67))
    obtain ⟨p8, hp8⟩ : ∃ p8, p8 = wr.heap.size := ⟨_, rfl⟩
    obtain ⟨w1, hw1⟩ : ∃ w1, w1 = wr.alloc (.cells #[.int .i64 k, .string ac, .string an, .int .i64 du, .int .i64 ap, .int .i64 ak, .int .i64 now] 67) := ⟨_, rfl⟩
    rw [← hw1, ← hp8] at hx1
    rw [← hw1] at ht1
    have HX1 := hid hx1
    have HT1 := hid ht1
    clear ht hx1 ht1 HQ
    by_cases hk1 : k = 1
    · subst hk1
      have HT1 := hid (HT1.out.quiet ((Upd.refl No w1).drew))
      have HX1 := hid (HX1.out.quiet ((Upd.refl No w1).drew))
      have hs := HT1.out.set_l ⟨ac, an, du, ap, ak⟩ HRg.out
      unfold rv at hs
      have HSl := hid hs
      clear hs
      go_wp2_with (fail)
      rw [← hw1]
      try rw [← hp8]
      clear hw1 hp8
      refine wp_region_held_drew (S := fun W => Blk W p8 67 #[.int .i64 1, .string ac, .string an, .int .i64 du, .int .i64 ap, .int .i64 ak, .int .i64 now]) (by kernel_rfl) HX1.out.1 (fun hS => ?_)
      refine rg_at 0 (by decide) (fun oi hoi => ?_)
      have ho2 := hoi; simp only [List.getElem?_toArray, List.getElem?_cons_succ, List.getElem?_cons_zero, Option.some.injEq] at ho2; subst ho2
      refine rg_take (v := ?_) 0 hoi (by kernel_rfl) (by kernel_rfl) (by kernel_rfl) (fun _ _ _ h => h) (by rfl) ?_ hS ?_
      rotate_left
      · intro w _; go_simp; try with_reducible rfl
      clear hoi; try simp only [Act.put, List.setIfInBounds_toArray, List.set_cons_zero, List.set_cons_succ]
      refine rg_at 1 (by decide) (fun oi hoi => ?_)
      have ho2 := hoi; simp only [List.getElem?_toArray, List.getElem?_cons_succ, List.getElem?_cons_zero, Option.some.injEq] at ho2; subst ho2
      refine rg_take (v := ?_) 1 hoi (by kernel_rfl) (by kernel_rfl) (by kernel_rfl) (fun _ _ _ h => h) (by rfl) ?_ hS ?_
      rotate_left
      · intro w _; go_simp; try with_reducible rfl
      clear hoi; try simp only [Act.put, List.setIfInBounds_toArray, List.set_cons_zero, List.set_cons_succ]
      refine rg_at 2 (by decide) (fun oi hoi => ?_)
      have ho2 := hoi; simp only [List.getElem?_toArray, List.getElem?_cons_succ, List.getElem?_cons_zero, Option.some.injEq] at ho2; subst ho2
      refine rg_take (v := ?_) 2 hoi (by kernel_rfl) (by kernel_rfl) (by kernel_rfl) (fun _ _ _ h => h) (by rfl) ?_ hS ?_
      rotate_left
      · intro w hw; have hf := mid5 hw; clear hw; go_simp; try with_reducible rfl
      clear hoi; try simp only [Act.put, List.setIfInBounds_toArray, List.set_cons_zero, List.set_cons_succ]
      refine rg_at 4 (by decide) (fun oi hoi => ?_)
      have ho2 := hoi; simp only [List.getElem?_toArray, List.getElem?_cons_succ, List.getElem?_cons_zero, Option.some.injEq] at ho2; subst ho2
      refine rg_take (v := ?_) 4 hoi (by kernel_rfl) (by kernel_rfl) (by kernel_rfl) (fun _ _ _ h => h) (by rfl) ?_ hS ?_
      rotate_left
      · intro w _; go_simp; try with_reducible rfl
      clear hoi; try simp only [Act.put, List.setIfInBounds_toArray, List.set_cons_zero, List.set_cons_succ]
      refine rg_at 5 (by decide) (fun oi hoi => ?_)
      have ho2 := hoi; simp only [List.getElem?_toArray, List.getElem?_cons_succ, List.getElem?_cons_zero, Option.some.injEq] at ho2; subst ho2
      refine rg_take (v := ?_) 5 hoi (by kernel_rfl) (by kernel_rfl) (by kernel_rfl) (fun _ _ _ h => h) (by rfl) ?_ hS ?_
      rotate_left
      · intro w _; go_simp; try with_reducible rfl
      clear hoi; try simp only [Act.put, List.setIfInBounds_toArray, List.set_cons_zero, List.set_cons_succ]
      refine rg_at 6 (by decide) (fun oi hoi => ?_)
      have ho2 := hoi; simp only [List.getElem?_toArray, List.getElem?_cons_succ, List.getElem?_cons_zero, Option.some.injEq] at ho2; subst ho2
      refine rg_take (v := ?_) 6 hoi (by kernel_rfl) (by kernel_rfl) (by kernel_rfl) (fun _ _ _ h => h) (by rfl) ?_ hS ?_
      rotate_left
      · intro w hw; have hf := mid5 hw; clear hw; go_simp; try with_reducible rfl
      clear hoi; try simp only [Act.put, List.setIfInBounds_toArray, List.set_cons_zero, List.set_cons_succ]
      refine rg_at 3 (by decide) (fun oi hoi => ?_)
      have ho2 := hoi; simp only [List.getElem?_toArray, List.getElem?_cons_succ, List.getElem?_cons_zero, Option.some.injEq] at ho2; subst ho2
      refine rg_call 3 (by kernel_rfl) hoi (by rfl) (fun K hK => ?_)
      clear hoi
      go_simp
      refine Calls.mono HSl.out ?_
      rintro e w3 ⟨rfl, F3, ht3, hm3⟩
      have hx3 := HX1.out.left hm3
      have hs4 := ht3.set_r ⟨ac, an, du, ap, ak⟩ HRg.out
      unfold rv at hs4
      go_wp2_with (fail)
      refine hK.out _ _ ((by exact hx3.1)) (fun hS => ?_)
      clear hK K
      try simp only [Act.put, List.setIfInBounds_toArray, List.set_cons_zero, List.set_cons_succ]
      refine rg_at 7 (by decide) (fun oi hoi => ?_)
      have ho2 := hoi; simp only [List.getElem?_toArray, List.getElem?_cons_succ, List.getElem?_cons_zero, Option.some.injEq] at ho2; subst ho2
      refine rg_call 7 (by kernel_rfl) hoi (by rfl) (fun K hK => ?_)
      clear hoi
      go_simp
      refine Calls.mono hs4 ?_
      rintro e w4 ⟨rfl, G4, ht4, hm4⟩
      have hx4 := hx3.right hm4
      go_wp2_with (fail)
      refine hK.out _ _ ((by exact hx4.1)) (fun hS => ?_)
      clear hK K
      try simp only [Act.put, List.setIfInBounds_toArray, List.set_cons_zero, List.set_cons_succ]
      refine rg_at 8 (by decide) (fun oi hoi => ?_)
      have ho2 := hoi; simp only [List.getElem?_toArray, List.getElem?_cons_succ, List.getElem?_cons_zero, Option.some.injEq] at ho2; subst ho2
      refine rg_take (v := ?_) 8 hoi (by kernel_rfl) (by kernel_rfl) (by kernel_rfl) (fun _ _ _ h => h) (by rfl) ?_ hS ?_
      rotate_left
      · intro w _; go_simp; try with_reducible rfl
      clear hoi; try simp only [Act.put, List.setIfInBounds_toArray, List.set_cons_zero, List.set_cons_succ]
      refine wpAnyH_done (by kernel_rfl) ?_ _
      have HSm := hid (TwE.same (W := w4) ⟨F3, G4, _, ht4⟩)
      clear hS hx3 hx4 hs4 ht3 ht4 hm3 hm4 HSl
      unfold SmOut at HSm
      go_wp2_with (fail)
      refine HSm.out.mono ?_
      rintro e w99 ⟨rfl, h99⟩
      have HN := hid h99
      clear h99 HSm
      go_wp2
      go_roundw
      case rel => exact ⟨j + 1, by omega, by go_num, HN⟩
      case measure => simp [intOf]; omega
    have hk1' : (k == 1) = false := by simpa using hk1
    by_cases hk2 : k = 2
    · subst hk2
      have HT1 := hid (HT1.out.quiet ((Upd.refl No w1).drew))
      have HX1 := hid (HX1.out.quiet ((Upd.refl No w1).drew))
      have HSl := hid (HT1.out.cancel_l ac an)
      clear hk1
      go_wp2_with (fail)
      rw [← hw1]
      try rw [← hp8]
      clear hw1 hp8
      refine wp_region_held_drew (S := fun W => Blk W p8 67 #[.int .i64 2, .string ac, .string an, .int .i64 du, .int .i64 ap, .int .i64 ak, .int .i64 now]) (by kernel_rfl) HX1.out.1 (fun hS => ?_)
      refine rg_at 0 (by decide) (fun oi hoi => ?_)
      have ho2 := hoi; simp only [List.getElem?_toArray, List.getElem?_cons_succ, List.getElem?_cons_zero, Option.some.injEq] at ho2; subst ho2
      refine rg_take (v := ?_) 0 hoi (by kernel_rfl) (by kernel_rfl) (by kernel_rfl) (fun _ _ _ h => h) (by rfl) ?_ hS ?_
      rotate_left
      · intro w _; go_simp; try with_reducible rfl
      clear hoi; try simp only [Act.put, List.setIfInBounds_toArray, List.set_cons_zero, List.set_cons_succ]
      refine rg_at 1 (by decide) (fun oi hoi => ?_)
      have ho2 := hoi; simp only [List.getElem?_toArray, List.getElem?_cons_succ, List.getElem?_cons_zero, Option.some.injEq] at ho2; subst ho2
      refine rg_take (v := ?_) 1 hoi (by kernel_rfl) (by kernel_rfl) (by kernel_rfl) (fun _ _ _ h => h) (by rfl) ?_ hS ?_
      rotate_left
      · intro w _; go_simp; try with_reducible rfl
      clear hoi; try simp only [Act.put, List.setIfInBounds_toArray, List.set_cons_zero, List.set_cons_succ]
      refine rg_at 2 (by decide) (fun oi hoi => ?_)
      have ho2 := hoi; simp only [List.getElem?_toArray, List.getElem?_cons_succ, List.getElem?_cons_zero, Option.some.injEq] at ho2; subst ho2
      refine rg_take (v := ?_) 2 hoi (by kernel_rfl) (by kernel_rfl) (by kernel_rfl) (fun _ _ _ h => h) (by rfl) ?_ hS ?_
      rotate_left
      · intro w _; go_simp; try with_reducible rfl
      clear hoi; try simp only [Act.put, List.setIfInBounds_toArray, List.set_cons_zero, List.set_cons_succ]
      refine rg_at 3 (by decide) (fun oi hoi => ?_)
      have ho2 := hoi; simp only [List.getElem?_toArray, List.getElem?_cons_succ, List.getElem?_cons_zero, Option.some.injEq] at ho2; subst ho2
      refine rg_take (v := ?_) 3 hoi (by kernel_rfl) (by kernel_rfl) (by kernel_rfl) (fun _ _ _ h => h) (by rfl) ?_ hS ?_
      rotate_left
      · intro w hw; have hf := (box7 hw).2.1; clear hw; go_simp; try with_reducible rfl
      clear hoi; try simp only [Act.put, List.setIfInBounds_toArray, List.set_cons_zero, List.set_cons_succ]
      refine rg_at 4 (by decide) (fun oi hoi => ?_)
      have ho2 := hoi; simp only [List.getElem?_toArray, List.getElem?_cons_succ, List.getElem?_cons_zero, Option.some.injEq] at ho2; subst ho2
      refine rg_take (v := ?_) 4 hoi (by kernel_rfl) (by kernel_rfl) (by kernel_rfl) (fun _ _ _ h => h) (by rfl) ?_ hS ?_
      rotate_left
      · intro w _; go_simp; try with_reducible rfl
      clear hoi; try simp only [Act.put, List.setIfInBounds_toArray, List.set_cons_zero, List.set_cons_succ]
      refine rg_at 5 (by decide) (fun oi hoi => ?_)
      have ho2 := hoi; simp only [List.getElem?_toArray, List.getElem?_cons_succ, List.getElem?_cons_zero, Option.some.injEq] at ho2; subst ho2
      refine rg_take (v := ?_) 5 hoi (by kernel_rfl) (by kernel_rfl) (by kernel_rfl) (fun _ _ _ h => h) (by rfl) ?_ hS ?_
      rotate_left
      · intro w _; go_simp; try with_reducible rfl
      clear hoi; try simp only [Act.put, List.setIfInBounds_toArray, List.set_cons_zero, List.set_cons_succ]
      refine rg_at 6 (by decide) (fun oi hoi => ?_)
      have ho2 := hoi; simp only [List.getElem?_toArray, List.getElem?_cons_succ, List.getElem?_cons_zero, Option.some.injEq] at ho2; subst ho2
      refine rg_take (v := ?_) 6 hoi (by kernel_rfl) (by kernel_rfl) (by kernel_rfl) (fun _ _ _ h => h) (by rfl) ?_ hS ?_
      rotate_left
      · intro w hw; have hf := (box7 hw).2.2.1; clear hw; go_simp; try with_reducible rfl
      clear hoi; try simp only [Act.put, List.setIfInBounds_toArray, List.set_cons_zero, List.set_cons_succ]
      refine rg_at 8 (by decide) (fun oi hoi => ?_)
      have ho2 := hoi; simp only [List.getElem?_toArray, List.getElem?_cons_succ, List.getElem?_cons_zero, Option.some.injEq] at ho2; subst ho2
      refine rg_take (v := ?_) 8 hoi (by kernel_rfl) (by kernel_rfl) (by kernel_rfl) (fun _ _ _ h => h) (by rfl) ?_ hS ?_
      rotate_left
      · intro w _; go_simp; try with_reducible rfl
      clear hoi; try simp only [Act.put, List.setIfInBounds_toArray, List.set_cons_zero, List.set_cons_succ]
      refine rg_at 9 (by decide) (fun oi hoi => ?_)
      have ho2 := hoi; simp only [List.getElem?_toArray, List.getElem?_cons_succ, List.getElem?_cons_zero, Option.some.injEq] at ho2; subst ho2
      refine rg_take (v := ?_) 9 hoi (by kernel_rfl) (by kernel_rfl) (by kernel_rfl) (fun _ _ _ h => h) (by rfl) ?_ hS ?_
      rotate_left
      · intro w _; go_simp; try with_reducible rfl
      clear hoi; try simp only [Act.put, List.setIfInBounds_toArray, List.set_cons_zero, List.set_cons_succ]
      refine rg_at 10 (by decide) (fun oi hoi => ?_)
      have ho2 := hoi; simp only [List.getElem?_toArray, List.getElem?_cons_succ, List.getElem?_cons_zero, Option.some.injEq] at ho2; subst ho2
      refine rg_take (v := ?_) 10 hoi (by kernel_rfl) (by kernel_rfl) (by kernel_rfl) (fun _ _ _ h => h) (by rfl) ?_ hS ?_
      rotate_left
      · intro w _; go_simp; try with_reducible rfl
      clear hoi; try simp only [Act.put, List.setIfInBounds_toArray, List.set_cons_zero, List.set_cons_succ]
      refine rg_at 11 (by decide) (fun oi hoi => ?_)
      have ho2 := hoi; simp only [List.getElem?_toArray, List.getElem?_cons_succ, List.getElem?_cons_zero, Option.some.injEq] at ho2; subst ho2
      refine rg_take (v := ?_) 11 hoi (by kernel_rfl) (by kernel_rfl) (by kernel_rfl) (fun _ _ _ h => h) (by rfl) ?_ hS ?_
      rotate_left
      · intro w hw; have hf := (box7 hw).2.1; clear hw; go_simp; try with_reducible rfl
      clear hoi; try simp only [Act.put, List.setIfInBounds_toArray, List.set_cons_zero, List.set_cons_succ]
      refine rg_at 12 (by decide) (fun oi hoi => ?_)
      have ho2 := hoi; simp only [List.getElem?_toArray, List.getElem?_cons_succ, List.getElem?_cons_zero, Option.some.injEq] at ho2; subst ho2
      refine rg_take (v := ?_) 12 hoi (by kernel_rfl) (by kernel_rfl) (by kernel_rfl) (fun _ _ _ h => h) (by rfl) ?_ hS ?_
      rotate_left
      · intro w _; go_simp; try with_reducible rfl
      clear hoi; try simp only [Act.put, List.setIfInBounds_toArray, List.set_cons_zero, List.set_cons_succ]
      refine rg_at 13 (by decide) (fun oi hoi => ?_)
      have ho2 := hoi; simp only [List.getElem?_toArray, List.getElem?_cons_succ, List.getElem?_cons_zero, Option.some.injEq] at ho2; subst ho2
      refine rg_take (v := ?_) 13 hoi (by kernel_rfl) (by kernel_rfl) (by kernel_rfl) (fun _ _ _ h => h) (by rfl) ?_ hS ?_
      rotate_left
      · intro w _; go_simp; try with_reducible rfl
      clear hoi; try simp only [Act.put, List.setIfInBounds_toArray, List.set_cons_zero, List.set_cons_succ]
      refine rg_at 14 (by decide) (fun oi hoi => ?_)
      have ho2 := hoi; simp only [List.getElem?_toArray, List.getElem?_cons_succ, List.getElem?_cons_zero, Option.some.injEq] at ho2; subst ho2
      refine rg_take (v := ?_) 14 hoi (by kernel_rfl) (by kernel_rfl) (by kernel_rfl) (fun _ _ _ h => h) (by rfl) ?_ hS ?_
      rotate_left
      · intro w hw; have hf := (box7 hw).2.2.1; clear hw; go_simp; try with_reducible rfl
      clear hoi; try simp only [Act.put, List.setIfInBounds_toArray, List.set_cons_zero, List.set_cons_succ]
      refine rg_at 7 (by decide) (fun oi hoi => ?_)
      have ho2 := hoi; simp only [List.getElem?_toArray, List.getElem?_cons_succ, List.getElem?_cons_zero, Option.some.injEq] at ho2; subst ho2
      refine rg_call 7 (by kernel_rfl) hoi (by rfl) (fun K hK => ?_)
      clear hoi
      go_simp
      refine Calls.mono HSl.out ?_
      rintro e w3 ⟨rfl, F3, ht3, hm3⟩
      have hx3 := HX1.out.left hm3
      go_wp2_with (fail)
      refine hK.out _ _ ((by exact hx3.1)) (fun hS => ?_)
      clear hK K
      try simp only [Act.put, List.setIfInBounds_toArray, List.set_cons_zero, List.set_cons_succ]
      refine rg_at 15 (by decide) (fun oi hoi => ?_)
      have ho2 := hoi; simp only [List.getElem?_toArray, List.getElem?_cons_succ, List.getElem?_cons_zero, Option.some.injEq] at ho2; subst ho2
      refine rg_call 15 (by kernel_rfl) hoi (by rfl) (fun K hK => ?_)
      clear hoi
      go_simp
      refine Calls.mono (ht3.cancel_r ac an) ?_
      rintro e w4 ⟨rfl, G4, ht4, hm4⟩
      have hx4 := hx3.right hm4
      go_wp2_with (fail)
      refine hK.out _ _ ((by exact hx4.1)) (fun hS => ?_)
      clear hK K
      try simp only [Act.put, List.setIfInBounds_toArray, List.set_cons_zero, List.set_cons_succ]
      refine rg_at 16 (by decide) (fun oi hoi => ?_)
      have ho2 := hoi; simp only [List.getElem?_toArray, List.getElem?_cons_succ, List.getElem?_cons_zero, Option.some.injEq] at ho2; subst ho2
      refine rg_take (v := ?_) 16 hoi (by kernel_rfl) (by kernel_rfl) (by kernel_rfl) (fun _ _ _ h => h) (by rfl) ?_ hS ?_
      rotate_left
      · intro w _; go_simp; try with_reducible rfl
      clear hoi; try simp only [Act.put, List.setIfInBounds_toArray, List.set_cons_zero, List.set_cons_succ]
      refine wpAnyH_done (by kernel_rfl) ?_ _
      have HSm := hid (TwE.same (W := w4) ⟨F3, G4, _, ht4⟩)
      clear hS hx3 hx4 ht3 ht4 hm3 hm4 HSl
      unfold SmOut at HSm
      go_wp2_with (fail)
      refine HSm.out.mono ?_
      rintro e w99 ⟨rfl, h99⟩
      have HN := hid h99
      clear h99 HSm
      go_wp2
      go_roundw
      case rel => exact ⟨j + 1, by omega, by go_num, HN⟩
      case measure => simp [intOf]; omega
    have hk2' : (k == 2) = false := by simpa using hk2
    by_cases hk34 : k = 3 ∨ k = 4
    case' neg =>
      have hk3' : (k == 3) = false := by simp; omega
      have hk4' : (k == 4) = false := by simp; omega
      have HSm := hid (TwE.same (W := w1) ⟨F, G, _, HT1.out⟩)
      unfold SmOut at HSm
      clear hk1 hk2 hk34
      go_wp2_with (fail)
      rw [← hw1]
      try rw [← hp8]
      refine HSm.out.mono ?_
      rintro e w99 ⟨rfl, h99⟩
      have HN := hid h99
      clear h99 HSm hw1 hp8
      go_wp2
      go_roundw
      case rel => exact ⟨j + 1, by omega, by go_num, HN⟩
      case measure => simp [intOf]; omega
    clear hk1' hk2' hk1 hk2
    have hdl := HT1.out.due_l now
    have HDr := hid fun (W : World) (hu : Upd No w1 W) => (HT1.out.quiet hu).due_r now
    unfold tell rv at hdl HDr
    generalize (dueR l now).getD zr = d at *
    generalize (dueR l now).isSome = b at *
    obtain ⟨da, dn, dd, dp, dk⟩ := d
    simp only at hdl HDr
    have HDl := hid hdl
    clear hdl
    have hk : k = 3 ∨ k = 4 := hk34
    clear hk34
    rcases hk with rfl | rfl
    · go_wp2_with (fail)
      rw [← hw1]
      try rw [← hp8]
      clear hw1 hp8
      refine HDl.out.mono ?_
      rintro e w2 ⟨rfl, hu2⟩
      have HX2 := hid (HX1.out.quiet hu2)
      have HU2 := hid hu2
      have e6 : ∀ o, (w2.alloc o).cell? ⟨p8, 6, none⟩ = some (.int .i64 now) := fun o => (box7 (HX2.out.quiet ((Upd.refl No w2).alloc o)).1).2.2.2.2.2.2
      obtain ⟨p9, hp9⟩ : ∃ p9, p9 = w2.heap.size := ⟨_, rfl⟩
      obtain ⟨w3, hw3⟩ : ∃ w3, w3 = w2.alloc (.cells #[.string da, .string dn, .int .i64 dd, .int .i64 dp, .int .i64 dk] 30) := ⟨_, rfl⟩
      have HB3 : Hid (Blk w3 p9 30 #[.string da, .string dn, .int .i64 dd, .int .i64 dp, .int .i64 dk]) := hid (by rw [hw3, hp9]; exact Blk.fresh _ _ _)
      have HU3 : Hid (Upd No w1 w3) := hid (by rw [hw3]; exact HU2.out.alloc _)
      have HDd := hid (HDr.out w3 HU3.out)
      clear hu2 HDl HDr
      go_wp2_with (fail)
      rw [← hw3]
      try rw [← hp9]
      clear hw3 hp9 e6
      refine HDd.out.mono ?_
      rintro e w4 ⟨rfl, hu4⟩
      have HU4 := hid (HU3.out.next hu4)
      have hb4 := fun o => box5 ((HB3.out.upd hu4 (no_ _)).alloc o)
      have y0 := fun o => (hb4 o).1
      have y1 := fun o => (hb4 o).2.1
      have y2 := fun o => (hb4 o).2.2.1
      have y3 := fun o => (hb4 o).2.2.2.1
      have y4 := fun o => (hb4 o).2.2.2.2
      have hx4 := HX1.out.quiet HU4.out
      have hb7 := fun o => box7 (hx4.1.alloc o)
      have e0 := fun o => (hb7 o).1
      have e6 := fun o => (hb7 o).2.2.2.2.2.2
      clear hb7 hb4 hu4 HDd HX2
      have ht5 := HT1.out.quiet (HU4.out.alloc (.cells #[.string da, .string dn, .int .i64 dd, .int .i64 dp, .int .i64 dk] 27))
      have hx5 := hx4.quiet ((Upd.refl No w4).alloc (.cells #[.string da, .string dn, .int .i64 dd, .int .i64 dp, .int .i64 dk] 27))
      have hsl := ht5.serve_l now
      have HX5 := hid hx5
      have HSr := hid fun (W : World) (F' : Nat → Prop) (ht : Tw w W F' G q p (serveR l now).2 l) => ht.serve_r now
      unfold tell rv at hsl HSr
      generalize (serveR l now).1.getD zr = f at *
      generalize (serveR l now).1.isSome = b2 at *
      obtain ⟨ea, en, ed, ep, ek⟩ := f
      simp only at hsl HSr
      have HSl := hid hsl
      clear hsl ht5 hx5
      go_wp2_with (fail)
      refine HSl.out.mono ?_
      rintro e w6 ⟨rfl, F6, ht6, hm6⟩
      have hx6 := HX5.out.left hm6
      have hx7 := hx6.quiet ((Upd.refl No w6).alloc (.cells #[.string ea, .string en, .int .i64 ed, .int .i64 ep, .int .i64 ek] 30))
      have ht7 := ht6.quiet ((Upd.refl No w6).alloc (.cells #[.string ea, .string en, .int .i64 ed, .int .i64 ep, .int .i64 ek] 30))
      have hbx := Bx.fresh ht6 30 #[.string ea, .string en, .int .i64 ed, .int .i64 ep, .int .i64 ek]
      have g6 : ∀ o, (w6.alloc o).cell? ⟨p8, 6, none⟩ = some (.int .i64 now) := fun o => (box7 (hx6.quiet ((Upd.refl No w6).alloc o)).1).2.2.2.2.2.2
      obtain ⟨p13, hp13⟩ : ∃ p13, p13 = w6.heap.size := ⟨_, rfl⟩
      obtain ⟨w7, hw7⟩ : ∃ w7, w7 = w6.alloc (.cells #[.string ea, .string en, .int .i64 ed, .int .i64 ep, .int .i64 ek] 30) := ⟨_, rfl⟩
      rw [← hw7, ← hp13] at hbx
      rw [← hw7] at hx7 ht7
      have HB7 := hid hbx
      have HX7 := hid hx7
      have HS7 := hid (HSr.out w7 F6 ht7)
      clear hx6 hx7 ht6 ht7 hbx hm6 HSl HSr e0 e6 y0 y1 y2 y3 y4
      go_wp2_with (fail)
      rw [← hw7]
      try rw [← hp13]
      clear hw7 hp13 g6
      refine HS7.out.mono ?_
      rintro e w8 ⟨rfl, G8, ht8, hm8⟩
      have hb8 := fun o => box5 ((HB7.out.right hm8).1.alloc o)
      have y0 := fun o => (hb8 o).1
      have y1 := fun o => (hb8 o).2.1
      have y2 := fun o => (hb8 o).2.2.1
      have y3 := fun o => (hb8 o).2.2.2.1
      have y4 := fun o => (hb8 o).2.2.2.2
      have HSm := hid (TwE.same (W := w8.alloc (.cells #[.string ea, .string en, .int .i64 ed, .int .i64 ep, .int .i64 ek] 27)) ⟨F6, G8, _, ht8.quiet ((Upd.refl No w8).alloc _)⟩)
      clear hb8 ht8 hm8 HS7
      unfold SmOut at HSm
      go_wp2_with (fail)
      refine HSm.out.mono ?_
      rintro e w99 ⟨rfl, h99⟩
      have HN := hid h99
      clear h99 HSm
      go_wp2
      go_roundw
      case rel => exact ⟨j + 1, by omega, by go_num, HN⟩
      case measure => simp [intOf]; omega
    · go_wp2_with (fail)
      rw [← hw1]
      try rw [← hp8]
      clear hw1 hp8
      refine HDl.out.mono ?_
      rintro e w2 ⟨rfl, hu2⟩
      have HX2 := hid (HX1.out.quiet hu2)
      have HU2 := hid hu2
      have e6 : ∀ o, (w2.alloc o).cell? ⟨p8, 6, none⟩ = some (.int .i64 now) := fun o => (box7 (HX2.out.quiet ((Upd.refl No w2).alloc o)).1).2.2.2.2.2.2
      obtain ⟨p9, hp9⟩ : ∃ p9, p9 = w2.heap.size := ⟨_, rfl⟩
      obtain ⟨w3, hw3⟩ : ∃ w3, w3 = w2.alloc (.cells #[.string da, .string dn, .int .i64 dd, .int .i64 dp, .int .i64 dk] 30) := ⟨_, rfl⟩
      have HB3 : Hid (Blk w3 p9 30 #[.string da, .string dn, .int .i64 dd, .int .i64 dp, .int .i64 dk]) := hid (by rw [hw3, hp9]; exact Blk.fresh _ _ _)
      have HU3 : Hid (Upd No w1 w3) := hid (by rw [hw3]; exact HU2.out.alloc _)
      have HDd := hid (HDr.out w3 HU3.out)
      clear hu2 HDl HDr
      go_wp2_with (fail)
      rw [← hw3]
      try rw [← hp9]
      clear hw3 hp9 e6
      refine HDd.out.mono ?_
      rintro e w4 ⟨rfl, hu4⟩
      have HU4 := hid (HU3.out.next hu4)
      have hb4 := fun o => box5 ((HB3.out.upd hu4 (no_ _)).alloc o)
      have y0 := fun o => (hb4 o).1
      have y1 := fun o => (hb4 o).2.1
      have y2 := fun o => (hb4 o).2.2.1
      have y3 := fun o => (hb4 o).2.2.2.1
      have y4 := fun o => (hb4 o).2.2.2.2
      have hx4 := HX1.out.quiet HU4.out
      have hb7 := fun o => box7 (hx4.1.alloc o)
      have e0 := fun o => (hb7 o).1
      have e6 := fun o => (hb7 o).2.2.2.2.2.2
      clear hb7 hb4 hu4 HDd HX2
      have HSm := hid (TwE.same (W := w4.alloc (.cells #[.string da, .string dn, .int .i64 dd, .int .i64 dp, .int .i64 dk] 27)) ⟨F, G, _, HT1.out.quiet (HU4.out.alloc _)⟩)
      unfold SmOut at HSm
      go_wp2_with (fail)
      refine HSm.out.mono ?_
      rintro e w99 ⟨rfl, h99⟩
      have HN := hid h99
      clear h99 HSm
      go_wp2
      go_roundw
      case rel => exact ⟨j + 1, by omega, by go_num, HN⟩
      case measure => simp [intOf]; omega
end Go.Proofs.Ytlicimkpgnemeaa.Nd
