/-
  The reference's Unpack.
-/
import Derived.Test.YtgbdpplnfcfhmaaPv
set_option linter.unusedVariables false
set_option linter.unusedSimpArgs false
namespace Go.Proofs.Ytgbdpplnfcfhmaa.Pk
open Go.RowKit Go.Proofs.Ytgbdpplnfcfhmaa Go.Proofs.Ytgbdpplnfcfhmaa.B Go.Proofs.Ytgbdpplnfcfhmaa.Cw Go.Proofs.Ytgbdpplnfcfhmaa.Cr Go.Proofs.Ytgbdpplnfcfhmaa.Cd Go.Proofs.Ytgbdpplnfcfhmaa.Lt Go.Proofs.Ytgbdpplnfcfhmaa.Ib Go.Proofs.Ytgbdpplnfcfhmaa.Lk Go.Proofs.Ytgbdpplnfcfhmaa.Ls
open Go.Proofs.Ytgbdpplnfcfhmaa.Cm (stN)
set_option maxHeartbeats 4000000 in
set_option maxRecDepth 100000 in
theorem runpack_ {w : World} {A : Option Addr} {c : Nat} {l : List Int} (hr : Rn w .u8 A l) (hc : l.length ≤ c) (hl : l.length ≤ 2000000000000) (hm : c ≤ 9223372036854775807) (hb : Byte l) :
    Calls Try.prog 35 #[.slice A l.length c] w fun e w' => UpOw w (unpL l) e w' := by
  have HN := hid (Ce.of_ A c l w hr hc (by omega) hb)
  clear hr hb
  go_enter Try.func35, Try.ntmps35
  go_wp2_with (fail)
  refine HN.out.mono ?_
  rintro e w2 ⟨rfl, hr2, hb2⟩
  obtain ⟨p, hpe⟩ : ∃ p, p = w.heap.size := ⟨_, rfl⟩
  rw [← hpe] at hr2 ⊢
  have hpw : w.heap.size ≤ p := by omega
  obtain ⟨R, hFe⟩ : ∃ R : Nat → Prop, R = (fun k => k = p ∨ l ≠ [] ∧ ∃ ad, A = some ad ∧ k = ad.block) := ⟨_, rfl⟩
  rw [← hFe] at hr2
  clear hpe hFe
  obtain ⟨n, r0, b0, hs⟩ : ∃ n r0 b0, stN l false = (n, r0, b0) := ⟨_, _, _, rfl⟩
  have hrange := stN_range l false hr2.byte
  have hlen := stN_len hs
  rw [hs] at hrange
  simp only at hrange
  have hbad : b0 = true → n = 0 ∧ r0 = [] := fun h => by
    have := Ce.stN_bad l false hr2.nil (by rw [hs]; exact h)
    rw [hs] at this
    exact this
  have HBad := hid hbad
  have HU := hid (unpL_eq hs)
  have HC := hid (Ce.number_eq hr2 hs)
  have H2 := hid (And.intro hpw (Upd.of_below No hb2))
  clear hr2 hpw hb2 hs HN hbad
  go_wp2_with (fail)
  refine HC.out.mono ?_
  rintro e w3 ⟨rfl, A3, c3, hr3, hu3⟩
  have H3 := hid (And.intro hr3 (H2.out.2.trans hu3 fun i hi e => by have := H2.out.1; omega))
  have hbb : w3.cell? ⟨p, 1, none⟩ = some (.bool b0) := by simpa using hr3.blk.cell 1
  have hwl : IntKind.u64.wrap (l.length : Int) = (l.length : Int) := by
    rw [IntKind.wrap_u64]
    omega
  clear hr3 hu3 HC
  rcases b0 with _ | _
  case' true =>
    have hout : Hid (unpL l = ([], 2)) := hid (by rw [HU.out]; rfl)
    go_wp2_with (fail)
    go_ret2
    exact .of ⟨none, 0, by rw [hout.out]; rfl, by rw [hout.out]; exact no_row _ _, H3.out.2⟩
  by_cases hgt : (l.length : Int) < n
  · have hout : Hid (unpL l = ([], 2)) := hid (by
      rw [HU.out, readL_many (by omega)]
      rfl)
    go_wp2
    go_ret2
    exact .of ⟨none, 0, by rw [hout.out]; rfl, by rw [hout.out]; exact no_row _ _, H3.out.2⟩
  obtain ⟨nn, rfl⟩ : ∃ nn : Nat, n = nn := ⟨n.toNat, by omega⟩
  rw [Int.toNat_natCast] at HU
  have hnn : nn ≤ l.length := by omega
  have hgtn : ¬ l.length < nn := by omega
  have hgtd : decide (l.length < nn) = false := decide_eq_false hgtn
  have hS0 : Us w w3 83 R p nn 0 r0 false (.slice none 0 0) [] r0 := ⟨⟨fun _ => False, Row.nil _ _, fun k h => h.elim, fun k h => h.elim⟩, ⟨_, _, H3.out.1⟩, H2.out.1, H3.out.2, rfl, fun h => (by cases h), by
    rw [Nat.sub_zero]
    rcases readL nn r0 with _ | ⟨ys, r2⟩ <;> simp⟩
  have HS0 := hid hS0
  clear hS0 hrange
  go_wp2_with (fail)
  clear hwl hbb
  go_loopw [6, 25] (fun v6 v25 W => ∃ (j : Nat) (xs : List L) (rest : List Int) (Av : Option Addr) (cv : Nat), j ≤ nn ∧ v25 = .int .u64 j ∧ v6 = .slice Av xs.length cv ∧ Hid (Us w W 83 R p nn j r0 false (.slice Av xs.length cv) xs rest)) (fun _ v25 _ => nn - (intOf v25).toNat)
  case atStart => exact ⟨0, [], r0, none, 0, by omega, rfl, rfl, HS0⟩
  case round =>
    clear HS0
    obtain ⟨j, xs, rest, Av, cv, hj, rfl, rfl, HS⟩ := hrel
    by_cases hlt : j < nn
    · obtain ⟨Ar, cr, hrr⟩ := HS.out.rr
      have hpR := hrr.here
      have hplt := hrr.lt p hpR
      have HLt := hid hrr.lt
      have HT := hid (rtake_ R p cr Ar rest false wr hrr)
      unfold RkOut at HT
      obtain ⟨x, r1, b1, ok, he⟩ : ∃ x r1 b1 ok, takeL rest false = (x, r1, b1, ok) := ⟨_, _, _, _, rfl⟩
      rw [he] at HT
      simp only at HT
      have HE := hid he
      have hj2 : (j : Int) < (nn : Int) := by omega
      have hwj : IntKind.u64.wrap ((j : Int) + 1) = (j : Int) + 1 := by
        rw [IntKind.wrap_u64]
        omega
      have HWJ := hid hwj
      clear hrr he hwj
      go_wp2_with (fail)
      refine HT.out.mono ?_
      rintro e w5 ⟨xx, v5, A5, c5, rfl, hxx, ⟨hv5, hvo⟩, hr5, hu5⟩
      unfold val
      obtain ⟨Au, cu, rfl, hvq⟩ := hv5
      have hIn : In w5 xx (.slice Au xx.2.2.2.length cu) := ⟨Au, cu, rfl, hvq⟩
      have HV := hid (And.intro hIn hvo)
      have HR5 := hid hr5
      have HU5 := hid hu5
      have hupd : Upd No w w5 := HS.out.upd.trans hu5 fun i hi e => by have := HS.out.old; omega
      have HUpd := hid hupd
      clear hvq hIn hvo hr5 hu5 hupd HT
      rcases ok with _ | _
      · have hout : Hid (unpL l = ([], 2)) := hid (by
          rw [HU.out, readL_stop HS.out.eq hlt HE.out]
          rfl)
        go_wp2
        go_ret2
        exact .of ⟨none, 0, by rw [hout.out]; rfl, by rw [hout.out]; exact no_row _ _, HUpd.out.alloc _⟩
      · obtain rfl := hxx rfl
        have hb1 : b1 = false := (takeL_len HE.out).2
        subst hb1
        obtain ⟨F, hrow, hFR, hFo⟩ := HS.out.row
        obtain ⟨ps, hps, hs, hin, hvF⟩ := hrow.upd HU5.out (fun k hk e => hFR k hk (e ▸ hpR))
        have hpl : xs.length = ps.length := by rw [← hps]; simp
        have hxl := HS.out.len
        have hpj : ps.length ≤ 2000000000000 := by omega
        have HRw := hid (And.intro hps (And.intro hs (And.intro hin (And.intro hvF (And.intro hFR hFo)))))
        rw [hpl] at HRw ⊢
        clear hps hs hin hvF hFR hFo hrow hpl hxl
        have HLit : Hid (∀ o, Rd ((w5.alloc o).alloc (.cells #[.string xx.1, .int .u64 xx.2.1, .int .i64 xx.2.2.1, .slice Au xx.2.2.2.length cu] 30)) 4 (some ⟨w5.heap.size + 1, 0, none⟩) 1 (cells xx (.slice Au xx.2.2.2.length cu))) := hid fun o => by
          have := Rd_lit (w5.alloc o) 30 4 1 (cells xx (.slice Au xx.2.2.2.length cu)) rfl
          rw [show (w5.alloc o).heap.size = w5.heap.size + 1 from by simp] at this
          exact this
        go_wp2_with (at_builtin; go_must (refine ap_sl 0 rfl (.tmp 34) (.tmp 36) 38 30 (.agg #[.string ⟨#[]⟩, .int .u64 0, .int .i64 0, .slice none 0 0]) 4 56 rfl Try.underlying38 lt_info rfl (by omega) (.slice Av ps.length cv) ps.length (pcells ps) (some ⟨w5.heap.size + 1, 0, none⟩) 1 1 (cells xx (.slice Au xx.2.2.2.length cu)) rfl rfl ((HRw.out.2.1.alloc _).alloc _) (HLit.out _) (cells_one HV.out.1) (by omega) (by omega) (Nat.zero_le _) ?_); intro A6 c6 w6 ho6 hg6 hat6)
        have hus := HU5.out.size
        have hal : Upd No w5 ((w5.alloc (.cells #[.string xx.1, .int .u64 xx.2.1, .int .i64 xx.2.2.1, .slice Au xx.2.2.2.length cu] 30)).alloc (.cells #[.string xx.1, .int .u64 xx.2.1, .int .i64 xx.2.2.1, .slice Au xx.2.2.2.length cu] 30)) := ((Upd.refl No w5).alloc _).alloc _
        have hrow := Row.push2 HRw.out.2.1 HRw.out.2.2.1 HRw.out.2.2.2.1 (HV.out.1.upd hal fun _ _ => no_ _) (fun k hk => (HV.out.2 k hk).2.elim fun cs h => ⟨cs, h.upd hal (no_ _)⟩) hal ho6 hg6
        rw [HRw.out.1] at hrow
        have hsz : w5.heap.size ≤ ((w5.alloc (.cells #[.string xx.1, .int .u64 xx.2.1, .int .i64 xx.2.2.1, .slice Au xx.2.2.2.length cu] 30)).alloc (.cells #[.string xx.1, .int .u64 xx.2.1, .int .i64 xx.2.2.1, .slice Au xx.2.2.2.length cu] 30)).heap.size := by
          simp
          try omega
        have hws := HS.out.upd.size
        have HS2 : Hid (Us w w6 83 R p nn (j + 1) r0 false (.slice A6 (ps.length + 1) c6) (xs ++ [xx]) r1) := hid {
          row := ⟨_, hrow, fun k hk hR => by
            have h1 := HLt.out k hR
            rcases hk with hk | hk | hk
            · exact HRw.out.2.2.2.2.1 k hk hR
            · have := (HV.out.2 k hk).1
              omega
            · rcases hat6 k hk with h | h
              · exact HRw.out.2.2.2.2.1 k (HRw.out.2.2.2.1 k h) hR
              · omega, fun k hk => by
            rcases hk with hk | hk | hk
            · exact HRw.out.2.2.2.2.2 k hk
            · have := (HV.out.2 k hk).1
              omega
            · rcases hat6 k hk with h | h
              · exact HRw.out.2.2.2.2.2 k (HRw.out.2.2.2.1 k h)
              · omega⟩
          rr := ⟨_, _, (HR5.out.keep hal fun _ _ => no_ _).keep hg6 fun k hR h => HRw.out.2.2.2.2.1 k (HRw.out.2.2.2.1 k h) hR⟩
          old := HS.out.old
          upd := (HUpd.out.next hal).trans hg6 fun i hi h => by
            have := HRw.out.2.2.2.2.2 i (HRw.out.2.2.2.1 i h)
            omega
          len := by rw [List.length_append, HS.out.len]; rfl
          bad := fun h => by cases h
          eq := readL_step HS.out.eq hlt HE.out }
        have hxp : (xs ++ [xx]).length = ps.length + 1 := by rw [← HRw.out.1]; simp
        have HXp := hid hxp
        clear hxp hrow hal hsz hus hws ho6 hg6 hat6 HLit
        go_wp2
        go_roundw
        case rel => exact ⟨j + 1, xs ++ [xx], r1, A6, c6, by omega, by first | go_num | (rw [HWJ.out]; go_num), by rw [HXp.out], by rw [HXp.out]; exact HS2⟩
        case measure =>
          try rw [HWJ.out]
          simp [intOf]; omega
    · obtain rfl : j = nn := by omega
      obtain ⟨Ar, cr, hrr⟩ := HS.out.rr
      have HEnd := hid (Ce.end_ p rest.length cr Ar false wr hrr.blk)
      have heq : readL j r0 = some (xs, rest) := by
        rw [HS.out.eq, Nat.sub_self]
        simp [readL]
      rcases hee : (!false && decide (rest.length = 0)) with _ | _
      · have hout : Hid (unpL l = ([], 2)) := hid (by
          rw [HU.out, heq]
          rcases rest with _ | ⟨z, r⟩
          · simp at hee
          · rfl)
        rw [hee] at HEnd
        clear hee heq hrr
        go_wp2_with (fail)
        refine HEnd.out.mono ?_
        rintro e w8 ⟨rfl, rfl⟩
        go_wp2
        go_ret2
        exact .of ⟨none, 0, by rw [hout.out]; rfl, by rw [hout.out]; exact no_row _ _, HS.out.upd⟩
      · have hout : Hid (unpL l = (xs, 0)) := hid (by
          rw [HU.out, heq]
          rcases rest with _ | ⟨z, r⟩
          · rfl
          · simp at hee)
        rw [hee] at HEnd
        clear hee heq hrr
        go_wp2_with (fail)
        refine HEnd.out.mono ?_
        rintro e w8 ⟨rfl, rfl⟩
        go_wp2
        go_ret2
        exact .of ⟨Av, cv, by rw [hout.out]; rfl, by rw [hout.out]; exact (HS.out.row).elim fun F h => ⟨F, h.1, h.2.2⟩, HS.out.upd⟩
theorem runpack {w : World} {A : Option Addr} {c : Nat} {l : List Int} (hr : Rn w .u8 A l) (hc : l.length ≤ c) (hl : l.length ≤ 2000000000000) (hm : c ≤ 9223372036854775807) (hb : Byte l) :
    Calls Try.prog 35 #[.slice A l.length c] w fun e w' => UpOut w (unpL l) e w' :=
  (runpack_ hr hc hl hm hb).mono fun e w' h => h.up
end Go.Proofs.Ytgbdpplnfcfhmaa.Pk
