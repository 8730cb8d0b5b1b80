/-
  letter's Unpack and the reference's.
-/
import Derived.Test.YtgbdpplnfcfhmaaPu
import Derived.Test.YtgbdpplnfcfhmaaLs
set_option linter.unusedVariables false
set_option linter.unusedSimpArgs false
namespace Go.Proofs.Ytgbdpplnfcfhmaa.Pk
open Go.RowKit Go.Proofs.Ytgbdpplnfcfhmaa Go.Proofs.Ytgbdpplnfcfhmaa.B Go.Proofs.Ytgbdpplnfcfhmaa.Cw Go.Proofs.Ytgbdpplnfcfhmaa.Cr Go.Proofs.Ytgbdpplnfcfhmaa.Cd Go.Proofs.Ytgbdpplnfcfhmaa.Lt Go.Proofs.Ytgbdpplnfcfhmaa.Ib Go.Proofs.Ytgbdpplnfcfhmaa.Lk Go.Proofs.Ytgbdpplnfcfhmaa.Ls
open Go.Proofs.Ytgbdpplnfcfhmaa.Cm (stN)
theorem Row.push2 {w w2 w3 : World} {F : Nat → Prop} {v : Value} {ps : List Lv} {x : L} {u : Value} {A3 : Option Addr} {c3 : Nat}
    (h2 : Sl w 0 30 4 v ps.length (pcells ps)) (h3 : ∀ x ∈ ps, In w x.1 x.2 ∧ ∀ k, x.2.ownBlock = some k → F k ∧ ∃ cs, Blk w k 2 cs) (h4 : ∀ k, v.ownBlock = some k → F k)
    (hv : In w2 x u) (hvl : ∀ k, u.ownBlock = some k → ∃ cs, Blk w2 k 2 cs)
    (hu2 : Upd No w w2) (ho : Sl w3 0 30 4 (.slice A3 (ps.length + 1) c3) (ps.length + 1) (pcells ps ++ cells x u)) (hg : Upd (fun k => v.ownBlock = some k) w2 w3) :
    Row w3 (fun k => F k ∨ u.ownBlock = some k ∨ (Value.slice A3 (ps.length + 1) c3).ownBlock = some k) (.slice A3 (ps.length + 1) c3) (ps.map (·.1) ++ [x]) := by
  have hvv : ∀ k, v.ownBlock = some k → k < w.heap.size := fun k hk => (h2.lt k hk).2
  refine ⟨ps ++ [(x, u)], by simp, ?_, ?_, fun k hk => .inr (.inr hk)⟩
  · have e : pcells (ps ++ [(x, u)]) = pcells ps ++ cells x u := by simp [pcells]
    rw [List.length_append, e]
    exact ho
  · have keep : ∀ k cs, Blk w2 k 2 cs → Blk w3 k 2 cs := fun k cs hB => hB.upd hg fun h => by
      obtain ⟨c2, hb⟩ := h2.blk h
      exact Blk.ne_type hB (hb.upd hu2 (no_ _)) (by decide) rfl
    have nev : ∀ k cs, Blk w2 k 2 cs → v.ownBlock ≠ some k := fun k cs hB h => by
      obtain ⟨c2, hb⟩ := h2.blk h
      exact Blk.ne_type hB (hb.upd hu2 (no_ _)) (by decide) rfl
    intro y hy
    rcases List.mem_append.1 hy with hy | hy
    · obtain ⟨g1, g2⟩ := h3 y hy
      exact ⟨(g1.upd hu2 (fun _ _ => no_ _)).upd hg fun g hg' h => (g2 g hg').2.elim fun cs hB => nev g cs (hB.upd hu2 (no_ _)) h, fun k hk => ⟨.inl (g2 k hk).1, (g2 k hk).2.elim fun cs hB => ⟨cs, keep k cs (hB.upd hu2 (no_ _))⟩⟩⟩
    · obtain rfl : y = (x, u) := List.mem_singleton.1 hy
      exact ⟨hv.upd hg fun g hg' h => (hvl g hg').elim fun cs hB => nev g cs hB h, fun k hk => ⟨.inr (.inl hk), (hvl k hk).elim fun cs hB => ⟨cs, keep k cs hB⟩⟩⟩
def UpOut (w : World) (r : List L × Int) (e : Ending) (w' : World) : Prop := ∃ A c, e = .returned (.tuple #[.slice A r.1.length c, .int .i64 r.2]) ∧ RowR w' (.slice A r.1.length c) r.1 ∧ Upd No w w'
theorem UpOut.of {w : World} {r : List L × Int} {e : Ending} {w' : World} (h : ∃ A c, e = .returned (.tuple #[.slice A r.1.length c, .int .i64 r.2]) ∧ RowR w' (.slice A r.1.length c) r.1 ∧ Upd No w w') : UpOut w r e w' := h
theorem RowR.nil (w : World) : RowR w (.slice none 0 0) [] := ⟨[], none, 0, rfl, rfl, Nat.le_refl _, by simp, Rd.nil_ _ _ _, fun x hx => by cases hx⟩
theorem Row.nil (w : World) (F : Nat → Prop) : Row w F (.slice none 0 0) [] := ⟨[], rfl, Sl.nil _ _ _ _, by simp, by intro k hk; simp [Value.ownBlock] at hk⟩
/-- As UpOut, with the letters' memory: it is the call's own. -/
def UpOw (w : World) (r : List L × Int) (e : Ending) (w' : World) : Prop := ∃ A c, e = .returned (.tuple #[.slice A r.1.length c, .int .i64 r.2]) ∧ (∃ F, Row w' F (.slice A r.1.length c) r.1 ∧ ∀ k, F k → w.heap.size ≤ k) ∧ Upd No w w'
theorem UpOw.of {w : World} {r : List L × Int} {e : Ending} {w' : World} (h : ∃ A c, e = .returned (.tuple #[.slice A r.1.length c, .int .i64 r.2]) ∧ (∃ F, Row w' F (.slice A r.1.length c) r.1 ∧ ∀ k, F k → w.heap.size ≤ k) ∧ Upd No w w') : UpOw w r e w' := h
theorem UpOw.up {w : World} {r : List L × Int} {e : Ending} {w' : World} (h : UpOw w r e w') : UpOut w r e w' := by
  obtain ⟨A, c, h1, ⟨F, h2, _⟩, h3⟩ := h
  exact ⟨A, c, h1, RowR.of h2, h3⟩
theorem no_row (w w' : World) : ∃ F, Row w' F (.slice none 0 0) [] ∧ ∀ k, F k → w.heap.size ≤ k := ⟨fun _ => False, Row.nil _ _, fun k h => h.elim⟩
def endL : Option (List L × List Int) → List L × Int
  | some (xs, []) => (xs, 0)
  | _ => ([], 2)
theorem unpL_eq {l r0 : List Int} {n : Int} {b0 : Bool} (hs : stN l false = (n, r0, b0)) : unpL l = if b0 then ([], 2) else endL (readL n.toNat r0) := by
  unfold unpL endL
  rw [hs]
  rfl
/-- Unpack, behind j letters. -/
structure Us (w W : World) (T : TypeId) (R : Nat → Prop) (p nn j : Nat) (r0 : List Int) (b0 : Bool) (v : Value) (xs : List L) (rest : List Int) : Prop where
  row : ∃ F, Row W F v xs ∧ (∀ k, F k → ¬ R k) ∧ ∀ k, F k → w.heap.size ≤ k
  rr : ∃ A c, Rr T W R p A c rest b0
  old : w.heap.size ≤ p
  upd : Upd No w W
  len : xs.length = j
  bad : b0 = true → nn = 0
  eq : readL nn r0 = (readL (nn - j) rest).map fun q => (xs ++ q.1, q.2)
theorem readL_step {nn j : Nat} {r0 rest r1 : List Int} {xs : List L} {x : L} {bd : Bool} (h : readL nn r0 = (readL (nn - j) rest).map fun q => (xs ++ q.1, q.2)) (hj : j < nn) (he : takeL rest false = (x, r1, bd, true)) :
    readL nn r0 = (readL (nn - (j + 1)) r1).map fun q => (xs ++ [x] ++ q.1, q.2) := by
  rw [h, show nn - j = nn - (j + 1) + 1 from by omega, readL, he]
  simp only [if_true]
  rcases readL (nn - (j + 1)) r1 with _ | ⟨ys, r2⟩
  · rfl
  · simp
theorem readL_stop {nn j : Nat} {r0 rest r1 : List Int} {xs : List L} {x : L} {bd : Bool} (h : readL nn r0 = (readL (nn - j) rest).map fun q => (xs ++ q.1, q.2)) (hj : j < nn) (he : takeL rest false = (x, r1, bd, false)) : readL nn r0 = none := by
  rw [h, show nn - j = nn - (j + 1) + 1 from by omega, readL, he]
  rfl
set_option maxHeartbeats 4000000 in
set_option maxRecDepth 100000 in
theorem unpack_ {w : World} {A : Option Addr} {c : Nat} {l : List Int} (hr : Rn w .u8 A l) (hc : l.length ≤ c) (hl : l.length ≤ 2000000000000) (hm : c ≤ 9223372036854775807) (hb : Byte l) :
    Calls Try.prog 34 #[.slice A l.length c] w fun e w' => UpOw w (unpL l) e w' := by
  have HN := hid (newReader A c l w hr (by omega) hb)
  clear hr hb
  go_enter Try.func34, Try.ntmps34
  go_wp2_with (fail)
  refine HN.out.mono ?_
  rintro e w2 ⟨R, p, A2, c2, rfl, hr2, ho2, hb2⟩
  obtain ⟨n, r0, b0, hs⟩ : ∃ n r0 b0, stN l false = (n, r0, b0) := ⟨_, _, _, rfl⟩
  have hrange := stN_range l false hr2.byte
  have hlen := stN_len hs
  rw [hs] at hrange
  simp only at hrange
  have hbad : b0 = true → n = 0 ∧ r0 = [] := fun h => by
    have := Ce.stN_bad l false hr2.nil (by rw [hs]; exact h)
    rw [hs] at this
    exact this
  have HBad := hid hbad
  have HU := hid (unpL_eq hs)
  have HC := hid (rnumber_eq hr2 hs)
  have H2 := hid (And.intro (ho2 p hr2.here) (Upd.of_below No hb2))
  clear hr2 ho2 hb2 hs HN hbad
  go_wp2_with (fail)
  refine HC.out.mono ?_
  rintro e w3 ⟨rfl, A3, c3, hr3, hu3⟩
  have H3 := hid (And.intro hr3 (H2.out.2.trans hu3 fun i hi e => by have := H2.out.1; omega))
  have HLf := hid (left p r0.length c3 A3 (.bool b0) w3 hr3.blk)
  have hwl : IntKind.u64.wrap (r0.length : Int) = (r0.length : Int) := by
    rw [IntKind.wrap_u64]
    omega
  clear hr3 hu3 HC
  go_wp2_with (fail)
  refine HLf.out.mono ?_
  rintro e w4 ⟨rfl, rfl⟩
  by_cases hgt : (r0.length : Int) < n
  · have hout : Hid (unpL l = ([], 2)) := hid (by
      rw [HU.out, readL_many (by omega)]
      rcases b0 with _ | _ <;> rfl)
    go_wp2
    go_ret2
    exact .of ⟨none, 0, by rw [hout.out]; rfl, by rw [hout.out]; exact no_row _ _, H3.out.2⟩
  obtain ⟨nn, rfl⟩ : ∃ nn : Nat, n = nn := ⟨n.toNat, by omega⟩
  rw [Int.toNat_natCast] at HU
  have hnn : nn ≤ r0.length := by omega
  have hgtn : ¬ r0.length < nn := by omega
  have hgtd : decide (r0.length < nn) = false := decide_eq_false hgtn
  have hS0 : Us w w3 91 R p nn 0 r0 b0 (.slice none 0 0) [] r0 := ⟨⟨fun _ => False, Row.nil _ _, fun k h => h.elim, fun k h => h.elim⟩, ⟨_, _, H3.out.1⟩, H2.out.1, H3.out.2, rfl, fun h => by have := (HBad.out h).1; omega, by
    rw [Nat.sub_zero]
    rcases readL nn r0 with _ | ⟨ys, r2⟩ <;> simp⟩
  have HS0 := hid hS0
  clear hS0 HLf hwl hrange
  go_wp2_with (fail)
  go_loopw [6, 19] (fun v6 v19 W => ∃ (j : Nat) (xs : List L) (rest : List Int) (Av : Option Addr) (cv : Nat), j ≤ nn ∧ v19 = .int .u64 j ∧ v6 = .slice Av xs.length cv ∧ Hid (Us w W 91 R p nn j r0 b0 (.slice Av xs.length cv) xs rest)) (fun _ v19 _ => nn - (intOf v19).toNat)
  case atStart => exact ⟨0, [], r0, none, 0, by omega, rfl, rfl, HS0⟩
  case round =>
    clear HS0
    obtain ⟨j, xs, rest, Av, cv, hj, rfl, rfl, HS⟩ := hrel
    by_cases hlt : j < nn
    · have hb0 : b0 = false := by
        rcases b0 with _ | _
        · rfl
        · have := HS.out.bad rfl
          omega
      subst hb0
      obtain ⟨Ar, cr, hrr⟩ := HS.out.rr
      have hpR := hrr.here
      have hplt := hrr.lt p hpR
      have HLt := hid hrr.lt
      have HT := hid (take_ R p cr Ar rest false wr hrr)
      unfold TkOut at HT
      obtain ⟨x, r1, b1, ok, he⟩ : ∃ x r1 b1 ok, takeL rest false = (x, r1, b1, ok) := ⟨_, _, _, _, rfl⟩
      rw [he] at HT
      simp only at HT
      have HE := hid he
      have hj2 : (j : Int) < (nn : Int) := by omega
      have hwj : IntKind.u64.wrap ((j : Int) + 1) = (j : Int) + 1 := by
        rw [IntKind.wrap_u64]
        omega
      have HWJ := hid hwj
      clear hrr he hwj
      go_wp2_with (fail)
      refine HT.out.mono ?_
      rintro e w5 ⟨v5, A5, c5, rfl, hv5, hvo, hr5, hu5⟩
      unfold val
      obtain ⟨Au, cu, rfl, hvq⟩ := hv5
      have hIn : In w5 x (.slice Au x.2.2.2.length cu) := ⟨Au, cu, rfl, hvq⟩
      have HV := hid (And.intro hIn hvo)
      have HR5 := hid hr5
      have HU5 := hid hu5
      have hupd : Upd No w w5 := HS.out.upd.trans hu5 fun i hi e => by have := HS.out.old; omega
      have HUpd := hid hupd
      clear hvq hIn hvo hr5 hu5 hupd HT
      rcases ok with _ | _
      · have hout : Hid (unpL l = ([], 2)) := hid (by
          rw [HU.out, readL_stop HS.out.eq hlt HE.out]
          rfl)
        go_wp2
        go_ret2
        exact .of ⟨none, 0, by rw [hout.out]; rfl, by rw [hout.out]; exact no_row _ _, HUpd.out.alloc _⟩
      · have hb1 : b1 = false := (takeL_len HE.out).2
        subst hb1
        obtain ⟨F, hrow, hFR, hFo⟩ := HS.out.row
        obtain ⟨ps, hps, hs, hin, hvF⟩ := hrow.upd HU5.out (fun k hk e => hFR k hk (e ▸ hpR))
        have hpl : xs.length = ps.length := by rw [← hps]; simp
        have hxl := HS.out.len
        have hpj : ps.length ≤ 2000000000000 := by omega
        have HRw := hid (And.intro hps (And.intro hs (And.intro hin (And.intro hvF (And.intro hFR hFo)))))
        rw [hpl] at HRw ⊢
        clear hps hs hin hvF hFR hFo hrow hpl hxl
        have HLit : Hid (∀ o, Rd ((w5.alloc o).alloc (.cells #[.string x.1, .int .u64 x.2.1, .int .i64 x.2.2.1, .slice Au x.2.2.2.length cu] 30)) 4 (some ⟨w5.heap.size + 1, 0, none⟩) 1 (cells x (.slice Au x.2.2.2.length cu))) := hid fun o => by
          have := Rd_lit (w5.alloc o) 30 4 1 (cells x (.slice Au x.2.2.2.length cu)) rfl
          rw [show (w5.alloc o).heap.size = w5.heap.size + 1 from by simp] at this
          exact this
        go_wp2_with (at_builtin; go_must (refine ap_sl 0 rfl (.tmp 28) (.tmp 30) 38 30 (.agg #[.string ⟨#[]⟩, .int .u64 0, .int .i64 0, .slice none 0 0]) 4 56 rfl Try.underlying38 lt_info rfl (by omega) (.slice Av ps.length cv) ps.length (pcells ps) (some ⟨w5.heap.size + 1, 0, none⟩) 1 1 (cells x (.slice Au x.2.2.2.length cu)) rfl rfl ((HRw.out.2.1.alloc _).alloc _) (HLit.out _) (cells_one HV.out.1) (by omega) (by omega) (Nat.zero_le _) ?_); intro A6 c6 w6 ho6 hg6 hat6)
        have hus := HU5.out.size
        have hal : Upd No w5 ((w5.alloc (.cells #[.string x.1, .int .u64 x.2.1, .int .i64 x.2.2.1, .slice Au x.2.2.2.length cu] 30)).alloc (.cells #[.string x.1, .int .u64 x.2.1, .int .i64 x.2.2.1, .slice Au x.2.2.2.length cu] 30)) := ((Upd.refl No w5).alloc _).alloc _
        have hrow := Row.push2 HRw.out.2.1 HRw.out.2.2.1 HRw.out.2.2.2.1 (HV.out.1.upd hal fun _ _ => no_ _) (fun k hk => (HV.out.2 k hk).2.elim fun cs h => ⟨cs, h.upd hal (no_ _)⟩) hal ho6 hg6
        rw [HRw.out.1] at hrow
        have hsz : w5.heap.size ≤ ((w5.alloc (.cells #[.string x.1, .int .u64 x.2.1, .int .i64 x.2.2.1, .slice Au x.2.2.2.length cu] 30)).alloc (.cells #[.string x.1, .int .u64 x.2.1, .int .i64 x.2.2.1, .slice Au x.2.2.2.length cu] 30)).heap.size := by
          simp
          try omega
        have hws := HS.out.upd.size
        have HS2 : Hid (Us w w6 91 R p nn (j + 1) r0 false (.slice A6 (ps.length + 1) c6) (xs ++ [x]) r1) := hid {
          row := ⟨_, hrow, fun k hk hR => by
            have h1 := HLt.out k hR
            rcases hk with hk | hk | hk
            · exact HRw.out.2.2.2.2.1 k hk hR
            · have := (HV.out.2 k hk).1
              omega
            · rcases hat6 k hk with h | h
              · exact HRw.out.2.2.2.2.1 k (HRw.out.2.2.2.1 k h) hR
              · omega, fun k hk => by
            rcases hk with hk | hk | hk
            · exact HRw.out.2.2.2.2.2 k hk
            · have := (HV.out.2 k hk).1
              omega
            · rcases hat6 k hk with h | h
              · exact HRw.out.2.2.2.2.2 k (HRw.out.2.2.2.1 k h)
              · omega⟩
          rr := ⟨_, _, (HR5.out.keep hal fun _ _ => no_ _).keep hg6 fun k hR h => HRw.out.2.2.2.2.1 k (HRw.out.2.2.2.1 k h) hR⟩
          old := HS.out.old
          upd := (HUpd.out.next hal).trans hg6 fun i hi h => by
            have := HRw.out.2.2.2.2.2 i (HRw.out.2.2.2.1 i h)
            omega
          len := by rw [List.length_append, HS.out.len]; rfl
          bad := fun h => by cases h
          eq := readL_step HS.out.eq hlt HE.out }
        have hxp : (xs ++ [x]).length = ps.length + 1 := by rw [← HRw.out.1]; simp
        have HXp := hid hxp
        clear hxp hrow hal hsz hus hws ho6 hg6 hat6 HLit
        go_wp2
        go_roundw
        case rel => exact ⟨j + 1, xs ++ [x], r1, A6, c6, by omega, by first | go_num | (rw [HWJ.out]; go_num), by rw [HXp.out], by rw [HXp.out]; exact HS2⟩
        case measure =>
          try rw [HWJ.out]
          simp [intOf]; omega
    · obtain rfl : j = nn := by omega
      obtain ⟨Ar, cr, hrr⟩ := HS.out.rr
      have HEnd := hid (end_ p rest.length cr Ar b0 wr hrr.blk)
      have heq : readL j r0 = some (xs, rest) := by
        rw [HS.out.eq, Nat.sub_self]
        simp [readL]
      rcases hee : (!b0 && decide (rest.length = 0)) with _ | _
      · have hout : Hid (unpL l = ([], 2)) := hid (by
          rw [HU.out, heq]
          rcases b0 with _ | _
          · rcases rest with _ | ⟨z, r⟩
            · simp at hee
            · rfl
          · rfl)
        rw [hee] at HEnd
        clear hee heq hrr
        go_wp2_with (fail)
        refine HEnd.out.mono ?_
        rintro e w8 ⟨rfl, rfl⟩
        go_wp2
        go_ret2
        exact .of ⟨none, 0, by rw [hout.out]; rfl, by rw [hout.out]; exact no_row _ _, HS.out.upd⟩
      · have hout : Hid (unpL l = (xs, 0)) := hid (by
          rw [HU.out, heq]
          rcases b0 with _ | _
          · rcases rest with _ | ⟨z, r⟩
            · rfl
            · simp at hee
          · simp at hee)
        rw [hee] at HEnd
        clear hee heq hrr
        go_wp2_with (fail)
        refine HEnd.out.mono ?_
        rintro e w8 ⟨rfl, rfl⟩
        go_wp2
        go_ret2
        exact .of ⟨Av, cv, by rw [hout.out]; rfl, by rw [hout.out]; exact (HS.out.row).elim fun F h => ⟨F, h.1, h.2.2⟩, HS.out.upd⟩
theorem unpack {w : World} {A : Option Addr} {c : Nat} {l : List Int} (hr : Rn w .u8 A l) (hc : l.length ≤ c) (hl : l.length ≤ 2000000000000) (hm : c ≤ 9223372036854775807) (hb : Byte l) :
    Calls Try.prog 34 #[.slice A l.length c] w fun e w' => UpOut w (unpL l) e w' :=
  (unpack_ hr hc hl hm hb).mono fun e w' h => h.up
end Go.Proofs.Ytgbdpplnfcfhmaa.Pk
