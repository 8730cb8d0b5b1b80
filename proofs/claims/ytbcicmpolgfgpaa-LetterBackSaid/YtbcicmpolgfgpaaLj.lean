/-
  letter's Decode and the reference's; the walk of LetterDecodes.
-/
import Derived.Test.YtbcicmpolgfgpaaLi
import Derived.Test.YtbcicmpolgfgpaaLe
import Derived.Test.YtbcicmpolgfgpaaLq
set_option linter.unusedVariables false
set_option linter.unusedSimpArgs false
namespace Go.Proofs.Ytbcicmpolgfgpaa.Lj
open Go.RowKit Go.Proofs.Ytbcicmpolgfgpaa Go.Proofs.Ytbcicmpolgfgpaa.B Go.Proofs.Ytbcicmpolgfgpaa.Cw Go.Proofs.Ytbcicmpolgfgpaa.Cr Go.Proofs.Ytbcicmpolgfgpaa.Cd Go.Proofs.Ytbcicmpolgfgpaa.Lt Go.Proofs.Ytbcicmpolgfgpaa.Ib Go.Proofs.Ytbcicmpolgfgpaa.Lk
/-- What bytes are: a letter and 0, or none and 2. -/
def decL (l : List Int) : L × Int := if (takeL l false).2.2.2 && (!(takeL l false).2.2.1 && decide ((takeL l false).2.1.length = 0)) then ((takeL l false).1, 0) else (zero, 2)
def DcOut (w : World) (r : L × Int) (e : Ending) (w' : World) : Prop := ∃ v, e = .returned (.tuple #[val r.1 v, .int .i64 r.2]) ∧ In w' r.1 v ∧ Upd No w w'
theorem DcOut.of {w : World} {r : L × Int} {e : Ending} {w' : World} (h : ∃ v, e = .returned (.tuple #[val r.1 v, .int .i64 r.2]) ∧ In w' r.1 v ∧ Upd No w w') : DcOut w r e w' := h
set_option maxHeartbeats 4000000 in
set_option maxRecDepth 100000 in
theorem decode {w : World} {A : Option Addr} {c : Nat} {l : List Int} (hr : Rn w .u8 A l) (hc : l.length ≤ c) (hl : l.length ≤ 140737488355328) (hm : c ≤ 9223372036854775807) (hb : Byte l) :
    Calls Try.prog 19 #[.slice A l.length c] w fun e w' => DcOut w (decL l) e w' := by
  have hal : Upd No w (w.alloc (.cells #[.string ⟨#[]⟩, .int .u64 0, .int .i64 0, .slice none 0 0] 25)) := (Upd.refl _ _).alloc _
  have hb1 := Blk.fresh w 25 #[.string ⟨#[]⟩, .int .u64 0, .int .i64 0, .slice none 0 0]
  have hr1 := Rd.alloc hr (by omega) (.cells #[.string ⟨#[]⟩, .int .u64 0, .int .i64 0, .slice none 0 0] 25)
  have hsz : (w.alloc (.cells #[.string ⟨#[]⟩, .int .u64 0, .int .i64 0, .slice none 0 0] 25)).heap.size = w.heap.size + 1 := by simp
  have HN := hid (newReader A c l _ hr1 (by omega) hb)
  have H1 := hid (And.intro hal (And.intro hb1 hsz))
  clear hr hr1 hal hb1 hsz
  go_enter Try.func19, Try.ntmps19
  go_wp2_with (fail)
  generalize w.alloc (.cells #[.string ⟨#[]⟩, .int .u64 0, .int .i64 0, .slice none 0 0] 25) = w1 at *
  refine HN.out.mono ?_
  rintro e w2 ⟨F, p, A2, c2, rfl, hr2, ho2, hb2⟩
  have hu2 := Upd.of_below No hb2
  have hpw := ho2 p hr2.here
  have hsz := H1.out.2.2
  clear hb2 ho2
  have hp2 : ¬ w.heap.size = p := by omega
  have H2 := hid (And.intro (H1.out.1.next hu2) (H1.out.2.1.upd hu2 (no_ _)))
  have HT := hid (take_ F p c2 A2 l false w2 hr2)
  have hF2 := hr2.here
  clear hr2 hu2 H1 HN
  unfold TkOut at HT
  have HD : Hid (decL l = if (takeL l false).2.2.2 && (!(takeL l false).2.2.1 && decide ((takeL l false).2.1.length = 0)) then ((takeL l false).1, 0) else (zero, 2)) := hid rfl
  generalize takeL l false = q at *
  obtain ⟨x, rest, bb, ok⟩ := q
  simp only at HT HD
  go_wp2_with (fail)
  refine HT.out.mono ?_
  rintro e w4 ⟨v4, A4, c4, rfl, hv4, hvo, hr4, hu4⟩
  obtain ⟨Av, cv, rfl, hvq⟩ := hv4
  have hv4 : In w4 x (.slice Av x.2.2.2.length cv) := ⟨Av, cv, rfl, hvq⟩
  unfold val
  have H4 : Hid (Upd No w w4 ∧ Blk w4 w.heap.size 25 #[.string ⟨#[]⟩, .int .u64 0, .int .i64 0, .slice none 0 0]) := hid ⟨H2.out.1.trans hu4 (fun i hi e => by omega), H2.out.2.upd hu4 hp2⟩
  have hv4n : ∀ k, (Value.slice Av x.2.2.2.length cv).ownBlock = some k → ¬ k = w.heap.size := fun k hk e => by
    have := (hvo k hk).1
    have := H2.out.2.lt
    omega
  have HR4 := hid hr4
  have HV4 := hid (And.intro hv4 hv4n)
  clear hr4 hu4 hv4 hv4n H2 HT
  have HW : ∀ z : L, ∃ w5 g, w5 = w4.alloc (.cells #[.string z.1, .int .u64 z.2.1, .int .i64 z.2.2.1, (.slice Av x.2.2.2.length cv)] 25) ∧ g = w4.heap.size ∧ Upd No w4 w5 ∧ Blk w5 g 25 #[.string z.1, .int .u64 z.2.1, .int .i64 z.2.2.1, (.slice Av x.2.2.2.length cv)] := fun z => ⟨_, _, rfl, rfl, (Upd.refl _ _).alloc _, Blk.fresh _ _ _⟩
  have HWW := hid HW
  clear HW
  rcases ok with _ | _
  · have hout : Hid (decL l = (zero, 2)) := hid (by rw [HD.out]; rfl)
    clear HD
    have hb5 := H4.out.2.alloc (.cells #[.string x.1, .int .u64 x.2.1, .int .i64 x.2.2.1, (.slice Av x.2.2.2.length cv)] 25)
    have hu5' := H4.out.1.alloc (.cells #[.string x.1, .int .u64 x.2.1, .int .i64 x.2.2.1, (.slice Av x.2.2.2.length cv)] 25)
    clear HWW
    obtain ⟨y0, y1, y2, y3⟩ := box hb5
    have f0 := hb5.free 0
    have f1 := hb5.free 1
    have f2 := hb5.free 2
    have f3 := hb5.free 3
    have HB := hid (put4_blk hb5 zero (.slice none 0 0))
    have HU := hid (put4_new hu5' (Nat.le_refl _) zero (.slice none 0 0))
    clear hb5 hu5'
    go_wp2
    simp only [put4, zero] at HB HU
    generalize ((((w4.alloc (.cells #[.string x.1, .int .u64 x.2.1, .int .i64 x.2.2.1, (.slice Av x.2.2.2.length cv)] 25)).setCell ⟨w.heap.size, 0, none⟩ (.string ⟨#[]⟩)).setCell ⟨w.heap.size, 1, none⟩ (.int .u64 0)).setCell ⟨w.heap.size, 2, none⟩ (.int .i64 0)).setCell ⟨w.heap.size, 3, none⟩ (.slice none 0 0) = W5 at *
    obtain ⟨q0, q1, q2, q3⟩ := box HB.out
    exact bodyPost_ret (v := .tuple #[val zero (.slice none 0 0), .int .i64 2]) (by simp [results, go_sem, q0, q1, q2, q3, val, zero]) rfl (by rw [hout.out]; exact .of ⟨_, rfl, In.nil _, HU.out⟩)
  · skip
    go_wp2_with (fail)
    obtain ⟨w5, g, hw5, hg, hu5, hbg⟩ := HWW.out x
    try rw [← hw5]
    try rw [← hg]
    have H5 := hid (And.intro (H4.out.1.next hu5) (And.intro (H4.out.2.upd hu5 (no_ _)) (And.intro hbg hu5)))
    have HE := hid (end_ p rest.length c4 A4 bb w5 (HR4.out.keep hu5 fun _ _ => no_ _).blk)
    clear hw5 hg hbg hu5 HWW
    generalize hee : (!bb && decide (rest.length = 0)) = ee at *
    refine HE.out.mono ?_
    rintro e w6 ⟨rfl, rfl⟩
    rcases ee with _ | _
    · have hout : Hid (decL l = (zero, 2)) := hid (by rw [HD.out]; rfl)
      have hb5 := H5.out.2.1
      have hu5' := H5.out.1
      clear HD hee
      obtain ⟨y0, y1, y2, y3⟩ := box hb5
      have f0 := hb5.free 0
      have f1 := hb5.free 1
      have f2 := hb5.free 2
      have f3 := hb5.free 3
      have HB := hid (put4_blk hb5 zero (.slice none 0 0))
      have HU := hid (put4_new hu5' (Nat.le_refl _) zero (.slice none 0 0))
      clear hb5 hu5'
      go_wp2
      simp only [put4, zero] at HB HU
      generalize (((w5.setCell ⟨w.heap.size, 0, none⟩ (.string ⟨#[]⟩)).setCell ⟨w.heap.size, 1, none⟩ (.int .u64 0)).setCell ⟨w.heap.size, 2, none⟩ (.int .i64 0)).setCell ⟨w.heap.size, 3, none⟩ (.slice none 0 0) = W5 at *
      obtain ⟨q0, q1, q2, q3⟩ := box HB.out
      exact bodyPost_ret (v := .tuple #[val zero (.slice none 0 0), .int .i64 2]) (by simp [results, go_sem, q0, q1, q2, q3, val, zero]) rfl (by rw [hout.out]; exact .of ⟨_, rfl, In.nil _, HU.out⟩)
    · have hout : Hid (decL l = (x, 0)) := hid (by rw [HD.out]; rfl)
      clear HD hee
      have hb5 := H5.out.2.1
      obtain ⟨y0, y1, y2, y3⟩ := box hb5
      have f0 := hb5.free 0
      have f1 := hb5.free 1
      have f2 := hb5.free 2
      have f3 := hb5.free 3
      obtain ⟨z0, z1, z2, z3⟩ := box H5.out.2.2.1
      have HB := hid (put4_blk hb5 x (.slice Av x.2.2.2.length cv))
      have HU := hid (put4_new H5.out.1 (Nat.le_refl _) x (.slice Av x.2.2.2.length cv))
      have HV := hid ((HV4.out.1.upd H5.out.2.2.2 fun _ _ => no_ _).upd (put4_upd w5 w.heap.size x (.slice Av x.2.2.2.length cv)) HV4.out.2)
      clear hb5
      go_wp2
      simp only [put4] at HB HU HV
      generalize (((w5.setCell ⟨w.heap.size, 0, none⟩ (.string x.1)).setCell ⟨w.heap.size, 1, none⟩ (.int .u64 x.2.1)).setCell ⟨w.heap.size, 2, none⟩ (.int .i64 x.2.2.1)).setCell ⟨w.heap.size, 3, none⟩ (.slice Av x.2.2.2.length cv) = W5 at *
      obtain ⟨q0, q1, q2, q3⟩ := box HB.out
      exact bodyPost_ret (v := .tuple #[val x (.slice Av x.2.2.2.length cv), .int .i64 0]) (by simp [results, go_sem, q0, q1, q2, q3, val]) rfl (by rw [hout.out]; exact .of ⟨_, rfl, HV.out, HU.out⟩)
set_option maxHeartbeats 4000000 in
set_option maxRecDepth 100000 in
theorem rdecode {w : World} {A : Option Addr} {c : Nat} {l : List Int} (hr : Rn w .u8 A l) (hc : l.length ≤ c) (hl : l.length ≤ 140737488355328) (hm : c ≤ 9223372036854775807) (hb : Byte l) :
    Calls Try.prog 20 #[.slice A l.length c] w fun e w' => DcOut w (decL l) e w' := by
  have hal : Upd No w (w.alloc (.cells #[.string ⟨#[]⟩, .int .u64 0, .int .i64 0, .slice none 0 0] 25)) := (Upd.refl _ _).alloc _
  have hb1 := Blk.fresh w 25 #[.string ⟨#[]⟩, .int .u64 0, .int .i64 0, .slice none 0 0]
  have hr1 := Rd.alloc hr (by omega) (.cells #[.string ⟨#[]⟩, .int .u64 0, .int .i64 0, .slice none 0 0] 25)
  have hsz : (w.alloc (.cells #[.string ⟨#[]⟩, .int .u64 0, .int .i64 0, .slice none 0 0] 25)).heap.size = w.heap.size + 1 := by simp
  have HN := hid (Ce.of_ A c l _ hr1 hc (by omega) hb)
  have H1 := hid (And.intro hal (And.intro hb1 hsz))
  clear hr hr1 hal hb1 hsz
  go_enter Try.func20, Try.ntmps20
  go_wp2_with (fail)
  generalize w.alloc (.cells #[.string ⟨#[]⟩, .int .u64 0, .int .i64 0, .slice none 0 0] 25) = w1 at *
  refine HN.out.mono ?_
  rintro e w2 ⟨rfl, hr2, hb2⟩
  have hu2 := Upd.of_below No hb2
  have hsz := H1.out.2.2
  obtain ⟨p, hpe⟩ : ∃ p, p = w1.heap.size := ⟨_, rfl⟩
  rw [← hpe] at hr2 ⊢
  have hpw : w1.heap.size ≤ p := by omega
  obtain ⟨F, hFe⟩ : ∃ F : Nat → Prop, F = (fun k => k = p ∨ l ≠ [] ∧ ∃ ad, A = some ad ∧ k = ad.block) := ⟨_, rfl⟩
  rw [← hFe] at hr2
  obtain ⟨A2, rfl⟩ : ∃ A2, A2 = A := ⟨_, rfl⟩
  obtain ⟨c2, rfl⟩ : ∃ c2, c2 = c := ⟨_, rfl⟩
  clear hb2 hpe hFe
  have hp2 : ¬ w.heap.size = p := by omega
  have H2 := hid (And.intro (H1.out.1.next hu2) (H1.out.2.1.upd hu2 (no_ _)))
  have HT := hid (rtake_ F p c2 A2 l false w2 hr2)
  have hF2 := hr2.here
  clear hr2 hu2 H1 HN
  unfold RkOut at HT
  have HD : Hid (decL l = if (takeL l false).2.2.2 && (!(takeL l false).2.2.1 && decide ((takeL l false).2.1.length = 0)) then ((takeL l false).1, 0) else (zero, 2)) := hid rfl
  generalize takeL l false = q at *
  obtain ⟨x, rest, bb, ok⟩ := q
  simp only at HT HD
  go_wp2_with (fail)
  refine HT.out.mono ?_
  rintro e w4 ⟨xx, v4, A4, c4, rfl, hxx, ⟨hv4, hvo⟩, hr4, hu4⟩
  obtain ⟨Av, cv, rfl, hvq⟩ := hv4
  have hv4 : In w4 xx (.slice Av xx.2.2.2.length cv) := ⟨Av, cv, rfl, hvq⟩
  unfold val
  have H4 : Hid (Upd No w w4 ∧ Blk w4 w.heap.size 25 #[.string ⟨#[]⟩, .int .u64 0, .int .i64 0, .slice none 0 0]) := hid ⟨H2.out.1.trans hu4 (fun i hi e => by omega), H2.out.2.upd hu4 hp2⟩
  have hv4n : ∀ k, (Value.slice Av xx.2.2.2.length cv).ownBlock = some k → ¬ k = w.heap.size := fun k hk e => by
    have := (hvo k hk).1
    have := H2.out.2.lt
    omega
  have HR4 := hid hr4
  have HV4 := hid (And.intro hv4 hv4n)
  clear hr4 hu4 hv4 hv4n H2 HT
  have HW : ∀ z : L, ∃ w5 g, w5 = w4.alloc (.cells #[.string z.1, .int .u64 z.2.1, .int .i64 z.2.2.1, (.slice Av xx.2.2.2.length cv)] 25) ∧ g = w4.heap.size ∧ Upd No w4 w5 ∧ Blk w5 g 25 #[.string z.1, .int .u64 z.2.1, .int .i64 z.2.2.1, (.slice Av xx.2.2.2.length cv)] := fun z => ⟨_, _, rfl, rfl, (Upd.refl _ _).alloc _, Blk.fresh _ _ _⟩
  have HWW := hid HW
  clear HW
  rcases ok with _ | _
  · have hout : Hid (decL l = (zero, 2)) := hid (by rw [HD.out]; rfl)
    clear HD
    have hb5 := H4.out.2.alloc (.cells #[.string xx.1, .int .u64 xx.2.1, .int .i64 xx.2.2.1, (.slice Av xx.2.2.2.length cv)] 25)
    have hu5' := H4.out.1.alloc (.cells #[.string xx.1, .int .u64 xx.2.1, .int .i64 xx.2.2.1, (.slice Av xx.2.2.2.length cv)] 25)
    clear HWW
    obtain ⟨y0, y1, y2, y3⟩ := box hb5
    have f0 := hb5.free 0
    have f1 := hb5.free 1
    have f2 := hb5.free 2
    have f3 := hb5.free 3
    have HB := hid (put4_blk hb5 zero (.slice none 0 0))
    have HU := hid (put4_new hu5' (Nat.le_refl _) zero (.slice none 0 0))
    clear hb5 hu5'
    go_wp2
    simp only [put4, zero] at HB HU
    generalize ((((w4.alloc (.cells #[.string xx.1, .int .u64 xx.2.1, .int .i64 xx.2.2.1, (.slice Av xx.2.2.2.length cv)] 25)).setCell ⟨w.heap.size, 0, none⟩ (.string ⟨#[]⟩)).setCell ⟨w.heap.size, 1, none⟩ (.int .u64 0)).setCell ⟨w.heap.size, 2, none⟩ (.int .i64 0)).setCell ⟨w.heap.size, 3, none⟩ (.slice none 0 0) = W5 at *
    obtain ⟨q0, q1, q2, q3⟩ := box HB.out
    exact bodyPost_ret (v := .tuple #[val zero (.slice none 0 0), .int .i64 2]) (by simp [results, go_sem, q0, q1, q2, q3, val, zero]) rfl (by rw [hout.out]; exact .of ⟨_, rfl, In.nil _, HU.out⟩)
  · obtain rfl := hxx rfl
    go_wp2_with (fail)
    obtain ⟨w5, g, hw5, hg, hu5, hbg⟩ := HWW.out xx
    try rw [← hw5]
    try rw [← hg]
    have H5 := hid (And.intro (H4.out.1.next hu5) (And.intro (H4.out.2.upd hu5 (no_ _)) (And.intro hbg hu5)))
    have HE := hid (Ce.end_ p rest.length c4 A4 bb w5 (HR4.out.keep hu5 fun _ _ => no_ _).blk)
    clear hw5 hg hbg hu5 HWW
    generalize hee : (!bb && decide (rest.length = 0)) = ee at *
    refine HE.out.mono ?_
    rintro e w6 ⟨rfl, rfl⟩
    rcases ee with _ | _
    · have hout : Hid (decL l = (zero, 2)) := hid (by rw [HD.out]; rfl)
      have hb5 := H5.out.2.1
      have hu5' := H5.out.1
      clear HD hee
      obtain ⟨y0, y1, y2, y3⟩ := box hb5
      have f0 := hb5.free 0
      have f1 := hb5.free 1
      have f2 := hb5.free 2
      have f3 := hb5.free 3
      have HB := hid (put4_blk hb5 zero (.slice none 0 0))
      have HU := hid (put4_new hu5' (Nat.le_refl _) zero (.slice none 0 0))
      clear hb5 hu5'
      go_wp2
      simp only [put4, zero] at HB HU
      generalize (((w5.setCell ⟨w.heap.size, 0, none⟩ (.string ⟨#[]⟩)).setCell ⟨w.heap.size, 1, none⟩ (.int .u64 0)).setCell ⟨w.heap.size, 2, none⟩ (.int .i64 0)).setCell ⟨w.heap.size, 3, none⟩ (.slice none 0 0) = W5 at *
      obtain ⟨q0, q1, q2, q3⟩ := box HB.out
      exact bodyPost_ret (v := .tuple #[val zero (.slice none 0 0), .int .i64 2]) (by simp [results, go_sem, q0, q1, q2, q3, val, zero]) rfl (by rw [hout.out]; exact .of ⟨_, rfl, In.nil _, HU.out⟩)
    · have hout : Hid (decL l = (xx, 0)) := hid (by rw [HD.out]; rfl)
      clear HD hee
      have hb5 := H5.out.2.1
      obtain ⟨y0, y1, y2, y3⟩ := box hb5
      have f0 := hb5.free 0
      have f1 := hb5.free 1
      have f2 := hb5.free 2
      have f3 := hb5.free 3
      obtain ⟨z0, z1, z2, z3⟩ := box H5.out.2.2.1
      have HB := hid (put4_blk hb5 xx (.slice Av xx.2.2.2.length cv))
      have HU := hid (put4_new H5.out.1 (Nat.le_refl _) xx (.slice Av xx.2.2.2.length cv))
      have HV := hid ((HV4.out.1.upd H5.out.2.2.2 fun _ _ => no_ _).upd (put4_upd w5 w.heap.size xx (.slice Av xx.2.2.2.length cv)) HV4.out.2)
      clear hb5
      go_wp2
      simp only [put4] at HB HU HV
      generalize (((w5.setCell ⟨w.heap.size, 0, none⟩ (.string xx.1)).setCell ⟨w.heap.size, 1, none⟩ (.int .u64 xx.2.1)).setCell ⟨w.heap.size, 2, none⟩ (.int .i64 xx.2.2.1)).setCell ⟨w.heap.size, 3, none⟩ (.slice Av xx.2.2.2.length cv) = W5 at *
      obtain ⟨q0, q1, q2, q3⟩ := box HB.out
      exact bodyPost_ret (v := .tuple #[val xx (.slice Av xx.2.2.2.length cv), .int .i64 0]) (by simp [results, go_sem, q0, q1, q2, q3, val]) rfl (by rw [hout.out]; exact .of ⟨_, rfl, HV.out, HU.out⟩)
end Go.Proofs.Ytbcicmpolgfgpaa.Lj
