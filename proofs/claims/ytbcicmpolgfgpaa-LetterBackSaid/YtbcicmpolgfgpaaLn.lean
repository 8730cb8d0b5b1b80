/-
  The walk of LetterDecodes.
-/
import Derived.Test.YtbcicmpolgfgpaaLj
set_option linter.unusedVariables false
set_option linter.unusedSimpArgs false
namespace Go.Proofs.Ytbcicmpolgfgpaa.Lj
open Go.RowKit Go.Proofs.Ytbcicmpolgfgpaa Go.Proofs.Ytbcicmpolgfgpaa.B Go.Proofs.Ytbcicmpolgfgpaa.Cw Go.Proofs.Ytbcicmpolgfgpaa.Cr Go.Proofs.Ytbcicmpolgfgpaa.Cd Go.Proofs.Ytbcicmpolgfgpaa.Lt Go.Proofs.Ytbcicmpolgfgpaa.Ib Go.Proofs.Ytbcicmpolgfgpaa.Lk
theorem bytes_one : Try.prog.bytesOf 5 = 1 := by kernel_rfl
theorem byte_of {l : List Int} (h : ∀ x ∈ l, (Lit.int .u8 x).wf = true) : Byte l := fun x hx => Law.wf_u8 (h x hx)
set_option maxHeartbeats 2000000 in
theorem decodes (A : Option Addr) (c : Nat) (l : List Int) (w : World) (hr : Rn w .u8 A l) (hc : l.length ≤ c) (hl : c ≤ 140737488355328) (hb : Byte l) :
    Calls Try.prog 5 #[.slice A l.length c] w fun e w' => e = .returned (.bool true) ∧ Below w.heap.size w w' := by
  have HR := hid (And.intro hr (And.intro hc (And.intro hl hb)))
  clear hr hc hl hb
  go_enter Try.func5, Try.ntmps5
  go_wp2_with (fail)
  refine Calls.mono (Le.awake w) ?_
  rintro e w1 ⟨rfl, hb1⟩
  have HB1 := hid hb1
  have HD := hid (decode (HR.out.1.below (by omega) hb1) HR.out.2.1 (Nat.le_trans HR.out.2.1 HR.out.2.2.1) (Nat.le_trans HR.out.2.2.1 (by decide)) HR.out.2.2.2)
  have HRr := hid fun W (hb : Below w.heap.size w W) => rdecode (HR.out.1.below (by omega) hb) HR.out.2.1 (Nat.le_trans HR.out.2.1 HR.out.2.2.1) (Nat.le_trans HR.out.2.2.1 (by decide)) HR.out.2.2.2
  unfold DcOut at HD HRr
  generalize decL l = q at *
  obtain ⟨x, cd⟩ := q
  simp only at HD HRr
  clear hb1
  go_wp2_with (fail)
  refine Calls.mono HD.out ?_
  rintro e w2 ⟨v2, rfl, hv2, hu2⟩
  unfold val
  obtain ⟨Av, cv, rfl, hvq⟩ := hv2
  have hv2 : In w2 x (.slice Av x.2.2.2.length cv) := ⟨Av, cv, rfl, hvq⟩
  have HB2 := hid (HB1.out.trans (hu2.old HB1.out.size))
  have hW : ∃ w3 g, w3 = w2.alloc (.cells #[.string x.1, .int .u64 x.2.1, .int .i64 x.2.2.1, .slice Av x.2.2.2.length cv] 25) ∧ g = w2.heap.size ∧ Upd No w2 w3 ∧ Blk w3 g 25 #[.string x.1, .int .u64 x.2.1, .int .i64 x.2.2.1, .slice Av x.2.2.2.length cv] := ⟨_, _, rfl, rfl, (Upd.refl _ _).alloc _, Blk.fresh _ _ _⟩
  have HV2 := hid hv2
  clear hvq hv2 hu2
  go_wp2_with (fail)
  obtain ⟨w3, g, hw3, hg, hu3, hbg⟩ := hW
  rw [← hw3, ← hg]
  have HB3 := hid (HB2.out.trans (hu3.old HB2.out.size))
  have HV3 := hid (And.intro (HV2.out.upd hu3 fun _ _ => no_ _) hbg)
  clear hw3 hg hu3 hbg HV2
  refine Calls.mono (HRr.out _ HB3.out) ?_
  rintro e w4 ⟨v4, rfl, hv4, hu4⟩
  unfold val
  obtain ⟨Au, cu, rfl, hvq⟩ := hv4
  have hv4 : In w4 x (.slice Au x.2.2.2.length cu) := ⟨Au, cu, rfl, hvq⟩
  have HB4 := hid (HB3.out.trans (hu4.old HB3.out.size))
  have hb3 := HV3.out.2.upd hu4 (no_ _)
  obtain ⟨y0, y1, y2, y3⟩ := box (hb3.alloc (.cells #[.string x.1, .int .u64 x.2.1, .int .i64 x.2.2.1, .slice Au x.2.2.2.length cu] 25))
  have hal : Upd No w4 (w4.alloc (.cells #[.string x.1, .int .u64 x.2.1, .int .i64 x.2.2.1, .slice Au x.2.2.2.length cu] 25)) := (Upd.refl _ _).alloc _
  have HS := hid (Ls.same_ x x (.slice Av x.2.2.2.length cv) (.slice Au x.2.2.2.length cu) _ ((HV3.out.1.upd hu4 fun _ _ => no_ _).upd hal fun _ _ => no_ _) (hv4.upd hal fun _ _ => no_ _))
  unfold val at HS
  simp only [decide_true] at HS
  have HB5 := hid (HB4.out.trans (hal.old HB4.out.size))
  clear hvq hv4 hu4 hb3 hal
  go_wp2_with (fail)
  refine Calls.mono HS.out ?_
  rintro e w5 ⟨rfl, hu5⟩
  have HB6 := hid (HB5.out.trans (hu5.old HB5.out.size))
  clear hu5
  go_wp2
  go_ret
  exact ⟨rfl, HB6.out⟩
theorem law_decodes (A : Option Addr) (c : Nat) (l : List Int) (w : World) (hr : Rn w .u8 A l) (hc : l.length ≤ c) (hl : c * Try.prog.bytesOf 5 ≤ 140737488351232) (hb : ∀ x ∈ l, (Lit.int .u8 x).wf = true) :
    Calls Try.prog 5 #[.slice A l.length c] w fun e w' => e = .returned (.bool true) ∧ Below w.heap.size w w' := by
  rw [bytes_one] at hl
  exact decodes A c l w hr hc (by omega) (byte_of hb)
end Go.Proofs.Ytbcicmpolgfgpaa.Lj
