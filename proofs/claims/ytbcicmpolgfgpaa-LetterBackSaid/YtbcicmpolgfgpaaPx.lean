/-
  The walk of LetterPacks.
-/
import Derived.Test.YtbcicmpolgfgpaaPr
import Derived.Test.YtbcicmpolgfgpaaPw
import Derived.Test.YtbcicmpolgfgpaaLy
import Derived.Test.YtbcicmpolgfgpaaLn
set_option linter.unusedVariables false
set_option linter.unusedSimpArgs false
namespace Go.Proofs.Ytbcicmpolgfgpaa.Pk
open Go.RowKit Go.Proofs.Ytbcicmpolgfgpaa Go.Proofs.Ytbcicmpolgfgpaa.B Go.Proofs.Ytbcicmpolgfgpaa.Cr Go.Proofs.Ytbcicmpolgfgpaa.Lt Go.Proofs.Ytbcicmpolgfgpaa.Ib Go.Proofs.Ytbcicmpolgfgpaa.Ls
open Go.Proofs.Ytbcicmpolgfgpaa.Lc (lb Wf)
set_option maxHeartbeats 4000000 in
set_option maxRecDepth 100000 in
theorem law_packs (A B : Option Addr) (c d : Nat) (ps : List Lv) (l : List Int) (w : World) (hr : Rd w 4 A ps.length (pcells ps)) (hc : ps.length ≤ c ∧ c ≤ maxLen) (hin : ∀ x ∈ ps, In w x.1 x.2 ∧ x.1.1.size ≤ maxLen ∧ Wf x.1)
    (hrb : Rn w .u8 B l) (hd : l.length ≤ d) (hdl : d * Try.prog.bytesOf 5 ≤ 140737488351232) (hby : ∀ x ∈ l, (Lit.int .u8 x).wf = true) (hl : l.length ≤ 1048576) :
    Calls Try.prog 7 #[.slice A ps.length c, .slice B l.length d] w fun e w' => e = .returned (.bool true) ∧ Below w.heap.size w w' := by
  rw [Lj.bytes_one] at hdl
  have hdm : d ≤ 9223372036854775807 := by omega
  have hc1 := hc.1
  have hc2 := hc.2
  simp only [maxLen] at hc2
  have HR := hid (And.intro hr (And.intro hin (And.intro hrb (Lj.byte_of hby))))
  clear hr hin hrb hby hc
  go_enter Try.func7, Try.ntmps7
  go_wp2_with (fail)
  refine Calls.mono (Le.awake w) ?_
  rintro e w1 ⟨rfl, hb1⟩
  have HU1 := hid (Upd.of_below No hb1)
  clear hb1
  have HF := hid (Le.few A c ps w1 (HR.out.1.upd (by omega) HU1.out fun _ _ => no_ _) (by omega) (fun x hx => ⟨(HR.out.2.1 x hx).1.upd HU1.out (fun _ _ => no_ _), (HR.out.2.1 x hx).2.1⟩))
  go_wp2_with (fail)
  refine Calls.mono HF.out ?_
  rintro e w1' ⟨b, rfl, rfl, hb⟩
  rcases b with _ | _
  · clear hb
    go_wp2_with (fail)
    refine Calls.mono (Le.awake w1) ?_
    rintro e w2 ⟨rfl, hb2⟩
    have HE := hid (HU1.out.next (Upd.of_below No hb2))
    clear hb2
    go_wp2
    go_ret
    exact ⟨rfl, HE.out.old (Nat.le_refl _)⟩
  obtain ⟨hbs, h301⟩ := hb rfl
  have HSm : Hid (∀ x ∈ ps, Sm x.1) := hid fun x hx => ⟨(hbs x hx).1, (hbs x hx).2, (HR.out.2.1 x hx).2.2⟩
  have HIn := hid fun W (hu : Upd No w W) x hx => (HR.out.2.1 x hx).1.upd hu (fun _ _ => no_ _)
  have HRd := hid fun W (hu : Upd No w W) => (HR.out.1.upd (by omega) hu fun _ _ => no_ _ : Rd W 4 A ps.length (pcells ps))
  have HB := hid fun W (hu : Upd No w W) => (Rd.upd HR.out.2.2.1 (by omega) hu fun _ _ => no_ _ : Rn W .u8 B l)
  have HP1 := hid (pack A c ps w1 (HRd.out _ HU1.out) (HIn.out _ HU1.out) HSm.out h301)
  have HP2 := hid fun W (hu : Upd No w W) => rpack A c ps W (HRd.out _ hu) (HIn.out _ hu) HSm.out h301
  have HQ1 := hid fun W (hu : Upd No w W) => unpack (c := d) (HB.out W hu) hd (by omega) hdm HR.out.2.2.2
  have HQ2 := hid fun W (hu : Upd No w W) => runpack (c := d) (HB.out W hu) hd (by omega) hdm HR.out.2.2.2
  unfold PkOut at HP1 HP2
  unfold UpOut at HQ1 HQ2
  generalize packL (ps.map (·.1)) = bs at *
  generalize packC (ps.map (·.1)) = pc at *
  generalize unpL l = q at *
  obtain ⟨zs, uc⟩ := q
  simp only at HQ1 HQ2
  clear hb hbs HF
  go_wp2_with (fail)
  refine Calls.mono HP1.out ?_
  rintro e w2 ⟨A2, c2, rfl, _, _, hr2, hu2⟩
  have HU2 := hid (HU1.out.next hu2)
  go_wp2_with (fail)
  refine Calls.mono (HP2.out _ HU2.out) ?_
  rintro e w3 ⟨A3, c3, rfl, _, _, hr3, hu3⟩
  have HU3 := hid (HU2.out.next hu3)
  go_wp2_with (fail)
  refine Calls.mono (HQ1.out _ HU3.out) ?_
  rintro e w4 ⟨A4, c4, rfl, hr4, hu4⟩
  have HU4 := hid (HU3.out.next hu4)
  go_wp2_with (fail)
  refine Calls.mono (HQ2.out _ HU4.out) ?_
  rintro e w5 ⟨A5, c5, rfl, hr5, hu5⟩
  have HU5 := hid (HU4.out.next hu5)
  obtain ⟨st, hst⟩ : ∃ st, Hid (st = strOfNums bs) := ⟨_, hid rfl⟩
  have hv2 := conv_str (P := Try.prog) (Rd.upd (Rd.upd (Rd.upd hr2 (by omega) hu3 fun _ _ => no_ _) (by omega) hu4 fun _ _ => no_ _) (by omega) hu5 fun _ _ => no_ _ : Rn w5 .u8 A2 bs) 32 9 5 c2 Try.underlying32 Try.underlying5 Try.underlying9
  have hv3 := conv_str (P := Try.prog) (Rd.upd (Rd.upd hr3 (by omega) hu4 fun _ _ => no_ _) (by omega) hu5 fun _ _ => no_ _ : Rn w5 .u8 A3 bs) 32 9 5 c3 Try.underlying32 Try.underlying5 Try.underlying9
  rw [← hst.out] at hv2 hv3
  have HS := hid (sameAll (.slice A4 zs.length c4) (.slice A5 zs.length c5) zs zs w5 (hr4.upd hu5) hr5)
  simp only [decide_true] at HS
  clear hr2 hr3 hr4 hr5 hu2 hu3 hu4 hu5
  go_wp2_with (fail)
  refine Calls.mono HS.out ?_
  rintro e w6 ⟨rfl, hu6⟩
  have HE := hid (HU5.out.next hu6)
  clear hu6
  go_wp2
  go_ret
  exact ⟨rfl, HE.out.old (Nat.le_refl _)⟩
end Go.Proofs.Ytbcicmpolgfgpaa.Pk
