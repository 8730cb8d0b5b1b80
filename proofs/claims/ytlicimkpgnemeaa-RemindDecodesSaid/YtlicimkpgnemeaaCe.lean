/-
  The walks of the reference reader, reeveref01.Reader.
-/
import Derived.Test.YtlicimkpgnemeaaCr2
set_option linter.unusedVariables false
set_option linter.unusedSimpArgs false
namespace Go.Proofs.Ytlicimkpgnemeaa.Ce
open Go.RowKit Go.Proofs.Ytlicimkpgnemeaa.B Go.Proofs.Ytlicimkpgnemeaa.Cm Go.Proofs.Ytlicimkpgnemeaa.Cw Go.Proofs.Ytlicimkpgnemeaa.Cr
set_option maxHeartbeats 400000 in
/-- Of lays a reader over the slice itself. -/
theorem of_ (A : Option Addr) (c : Nat) (l : List Int) (w : World) (hr : Rn w .u8 A l) (hc : l.length ≤ c) (ht : c ≤ 9223372036854775807) (hb : Byte l) :
    Calls Try.prog 50 #[.slice A l.length c] w fun e w' => e = .returned (.pointer (some ⟨w.heap.size, 0, none⟩)) ∧
      Rr 85 w' (fun k => k = w.heap.size ∨ l ≠ [] ∧ ∃ ad, A = some ad ∧ k = ad.block) w.heap.size A c l false ∧ Below w.heap.size w w' := by
  go_enter Try.func50, Try.ntmps50
  go_wp2
  go_ret
  have hA : l ≠ [] → ∀ ad, A = some ad → ad.block < w.heap.size := fun hl ad e => by
    obtain ⟨ad', e', hlt⟩ := Rd.lt hr (List.length_pos_iff.2 hl) (by omega)
    rw [e] at e'
    injection e' with e'
    rw [e']
    exact hlt
  refine ⟨rfl, ⟨Blk.fresh _ _ _, Rd.alloc hr (by omega) _, hc, ht, hb, (fun h => by cases h), .inl rfl, ?_, ?_⟩, (Below.refl _ _).alloc (Nat.le_refl _) _⟩
  · intro hl ad e
    have := hA hl ad e
    exact ⟨.inr ⟨hl, ad, e, rfl⟩, by omega⟩
  · rintro k (rfl | ⟨hl, ad, e, rfl⟩)
    · simp
    · have := hA hl ad e
      simp; omega
set_option maxHeartbeats 400000 in
theorem fail_ (p : Nat) (v b : Value) (w : World) (hb : Blk w p 85 #[v, b]) :
    Calls Try.prog 69 #[.pointer (some ⟨p, 0, none⟩)] w fun e w' => e = .returned (.tuple #[]) ∧ (w.setCell ⟨p, 0, none⟩ (.slice none 0 0)).setCell ⟨p, 1, none⟩ (.bool true) = w' := by
  have hc := hb.cell 0
  have hf := hb.free 0
  have hc1 := hb.cell 1
  have hf1 := hb.free 1
  simp at hc hc1
  go_enter Try.func69, Try.ntmps69
  go_wp2
  go_end0
  exact ⟨rfl, rfl⟩
set_option maxHeartbeats 400000 in
theorem end_ (p n c : Nat) (A : Option Addr) (b : Bool) (w : World) (hb : Blk w p 85 #[.slice A n c, .bool b]) :
    Calls Try.prog 55 #[.pointer (some ⟨p, 0, none⟩)] w fun e w' => e = .returned (.bool (!b && decide (n = 0))) ∧ w = w' := by
  have hc := hb.cell 0
  have hc1 := hb.cell 1
  simp at hc hc1
  go_enter Try.func55, Try.ntmps55
  cases b
  all_goals
    go_wp2
    go_ret
    refine ⟨congrArg Ending.returned (congrArg Value.bool ?_), rfl⟩
  · show ((n : Int) == 0) = _
    by_cases h : n = 0 <;> simp [h]
  · rfl
set_option maxHeartbeats 1000000 in
set_option maxRecDepth 100000 in
theorem number_empty (F : Nat → Prop) (p c : Nat) (A : Option Addr) (bd : Bool) (w : World) (h : Rr 85 w F p A c [] bd) :
    Calls Try.prog 51 #[.pointer (some ⟨p, 0, none⟩)] w (NumPost 85 F p [] bd w) := by
  have hc := h.blk.cell 0
  have hc1 := h.blk.cell 1
  simp at hc hc1
  have hfin := hid (NumPost.failed h rfl)
  have hblk := hid h.blk
  clear h
  go_enter Try.func51, Try.ntmps51
  go_wp2_with (fail)
  refine (fail_ _ _ _ _ hblk.out).mono ?_
  rintro e w' ⟨rfl, rfl⟩
  go_wp2
  go_ret
  exact hfin.out
set_option maxHeartbeats 1000000 in
set_option maxRecDepth 100000 in
theorem number_small (F : Nat → Prop) (p c : Nat) (A : Option Addr) (l : List Int) (w : World) (h : Rr 85 w F p A c l false) (hl : 0 < l.length) (hf : gi l 0 < 248) (hn : rdNum l = some (gi l 0, l.drop 1)) :
    Calls Try.prog 51 #[.pointer (some ⟨p, 0, none⟩)] w (NumPost 85 F p l false w) := by
  have hc := h.blk.cell 0
  have hc1 := h.blk.cell 1
  have hfr := h.blk.free 0
  simp at hc hc1
  obtain ⟨ad, rfl, hx⟩ := h.rd.at_ hl
  rw [add_none] at hx
  have hby := h.byte _ (gi_mem l 0 hl)
  have hcap := h.cap
  have htop := h.top
  obtain ⟨A', hA', hcut⟩ := cut_from (P := Try.prog) 50 5 .i64 Try.underlying50 u8_size (some ad) l.length c 1 1 rfl (by omega)
  have hfin := hid (NumPost.done h (by omega) hA' hn)
  clear hA' hn h
  have hne : ((l.length : Int) == 0) = false := beq_eq_false_iff_ne.2 (by omega)
  have hil : (0 : Int) < l.length := by omega
  go_enter Try.func51, Try.ntmps51
  go_wp2
  go_ret
  exact hfin.out
set_option maxHeartbeats 1000000 in
set_option maxRecDepth 100000 in
theorem number_short (F : Nat → Prop) (p c : Nat) (A : Option Addr) (l : List Int) (w : World) (h : Rr 85 w F p A c l false) (hl : 0 < l.length) (hf : 248 ≤ gi l 0) (hs : (l.length : Int) < 1 + (gi l 0 - 247)) (hn : rdNum l = none) :
    Calls Try.prog 51 #[.pointer (some ⟨p, 0, none⟩)] w (NumPost 85 F p l false w) := by
  have hc := h.blk.cell 0
  have hc1 := h.blk.cell 1
  simp at hc hc1
  obtain ⟨ad, rfl, hx⟩ := h.rd.at_ hl
  rw [add_none] at hx
  have hby := h.byte _ (gi_mem l 0 hl)
  have hcap := h.cap
  have htop := h.top
  have hfin := hid (NumPost.failed h hn)
  have hblk := hid h.blk
  clear hn h
  have hne : ((l.length : Int) == 0) = false := beq_eq_false_iff_ne.2 (by omega)
  have hil : (0 : Int) < l.length := by omega
  go_enter Try.func51, Try.ntmps51
  go_wp2_with (fail)
  refine (fail_ _ _ _ _ hblk.out).mono ?_
  rintro e w' ⟨rfl, rfl⟩
  go_wp2
  go_ret
  exact hfin.out
set_option maxHeartbeats 2000000 in
set_option maxRecDepth 100000 in
theorem number_zero (F : Nat → Prop) (p c : Nat) (A : Option Addr) (l : List Int) (w : World) (h : Rr 85 w F p A c l false) (hl : 1 < l.length) (hf : 248 ≤ gi l 0) (hs : 1 + (gi l 0 - 247) ≤ (l.length : Int)) (hz : gi l 1 = 0) (hn : rdNum l = none) :
    Calls Try.prog 51 #[.pointer (some ⟨p, 0, none⟩)] w (NumPost 85 F p l false w) := by
  have hc := h.blk.cell 0
  have hc1 := h.blk.cell 1
  simp at hc hc1
  obtain ⟨ad, rfl, hx⟩ := h.rd.at_ (i := 0) (by omega)
  rw [add_none] at hx
  have hx1 : w.cell? ⟨ad.block, ad.off + 1, none⟩ = some (.int .u8 0) := by
    have := h.rd.cell (i := 1) hl
    rw [hz] at this
    exact this
  have hby := h.byte _ (gi_mem l 0 (by omega))
  have hcap := h.cap
  have htop := h.top
  have hfin := hid (NumPost.failed h hn)
  have hblk := hid h.blk
  clear hn h hz
  have hne : ((l.length : Int) == 0) = false := beq_eq_false_iff_ne.2 (by omega)
  have hil : (0 : Int) < l.length := by omega
  have hil1 : (1 : Int) < l.length := by omega
  go_enter Try.func51, Try.ntmps51
  go_wp2_with (fail)
  refine (fail_ _ _ _ _ hblk.out).mono ?_
  rintro e w' ⟨rfl, rfl⟩
  go_wp2
  go_ret
  exact hfin.out
set_option maxHeartbeats 2000000 in
set_option maxRecDepth 100000 in
theorem number_big (F : Nat → Prop) (p c k : Nat) (f : Int) (A : Option Addr) (l r : List Int) (w : World) (h : Rr 85 w F p A c l false) (hlr : l = f :: r) (hk : f = 247 + (k : Int)) (hk0 : 1 ≤ k) (hk8 : k ≤ 8) (hs : k ≤ r.length) (hz : gi r 0 ≠ 0) :
    Calls Try.prog 51 #[.pointer (some ⟨p, 0, none⟩)] w (NumPost 85 F p l false w) := by
  have hc := h.blk.cell 0
  have hc1 := h.blk.cell 1
  have hfr := h.blk.free 0
  simp at hc hc1
  have hll : l.length = r.length + 1 := by rw [hlr]; simp
  obtain ⟨ad, rfl, hx⟩ := h.rd.at_ (i := 0) (by omega)
  have hf : gi l 0 = f := by rw [hlr]; rfl
  rw [add_none, hf] at hx
  have hcap := h.cap
  have htop := h.top
  have hx1 : w.cell? ⟨ad.block, ad.off + 1, none⟩ = some (.int .u8 (gi r 0)) := by
    have := h.rd.cell (i := 1) (by omega)
    rw [hlr] at this
    exact this
  have hrd : ∀ j, j < r.length → w.cell? ⟨ad.block, ad.off + (j + 1), none⟩ = some (.int .u8 (gi r j)) := fun j hj => by
    have := h.rd.cell (i := j + 1) (by omega)
    rw [hlr] at this
    exact this
  obtain ⟨A2, hA2, hcut2⟩ := cut_from (P := Try.prog) 50 5 .i64 Try.underlying50 u8_size (some ad) l.length c (1 + k) (1 + (f - 247)) (by omega) (by omega)
  have hbyr : Byte r := fun x hx => h.byte x (by rw [hlr]; simp [hx])
  have hrn := rdNum_long f r k hk hk0 hs
  rw [← hlr] at hrn
  have hblk := hid h.blk
  have hfail : Hid (val (r.take k) < 248 → NumPost 85 F p l false w (.returned (.int .u64 0)) ((w.setCell ⟨p, 0, none⟩ (.slice none 0 0)).setCell ⟨p, 1, none⟩ (.bool true))) :=
    hid fun hv => NumPost.failed h (by rw [hrn, if_pos (.inl hv)])
  have hdone : Hid (¬ (val (r.take k) < 248) → NumPost 85 F p l false w (.returned (.int .u64 (val (r.take k)))) (w.setCell ⟨p, 0, none⟩ (.slice A2 (l.length - (1 + k)) (c - (1 + k))))) :=
    hid fun hv => NumPost.done h (by omega) hA2 (by rw [hrn, if_neg (fun o => o.elim hv hz), hlr, Nat.add_comm, List.drop_succ_cons])
  have hll1 : r.length + 1 ≤ l.length := by omega
  have hll2 : l.length ≤ r.length + 1 := by omega
  have hf1 : f - 247 ≤ k := by omega
  have hf2 : k ≤ f - 247 := by omega
  have hzb : (gi r 0 == 0) = false := by simp [hz]
  clear h hlr hll hA2 hrn hf hk hz
  have hne : ((l.length : Int) == 0) = false := beq_eq_false_iff_ne.2 (by omega)
  have hil : (0 : Int) < l.length := by omega
  have hil1 : (1 : Int) < l.length := by omega
  go_enter Try.func51, Try.ntmps51
  go_wp2
  go_loop [5, 6] (fun v5 v6 => ∃ j : Nat, j ≤ k ∧ v6 = .int .i64 ((j : Int) + 1) ∧ v5 = .int .u64 (val (r.take j))) (fun _ v6 => k + 1 - (intOf v6).toNat)
  case atStart => exact ⟨0, by omega, rfl, rfl⟩
  case round =>
    obtain ⟨j, hj, rfl, rfl⟩ := hrel
    by_cases hlt : j < k
    · have hxj := hrd j (by omega)
      have hvs := val_small r j (by omega) hbyr
      have hby := hbyr _ (gi_mem r j (by omega))
      have hor : bits .or .u64 (val (r.take j) * 256) (gi r j) = val (r.take (j + 1)) := by
        have e : IntKind.u64.wrap (val (r.take j) * 256) = val (r.take j) * 256 := by rw [IntKind.wrap_u64]; omega
        rw [← e, or_byte _ _ hvs.1 hvs.2 hby.1 hby.2, val_step r j (by omega)]
      have hbj : 0 ≤ (j : Int) + 1 := by omega
      have hbl : (j : Int) + 1 < l.length := by omega
      have hnj : ((j : Int) + 1).toNat = j + 1 := by omega
      go_wp2
      go_round
      case rel => exact ⟨j + 1, by omega, by go_num, rfl⟩
      case measure => simp [intOf]; omega
    · obtain rfl : j = k := by omega
      by_cases hv : val (r.take j) < 248
      · go_wp2_with (fail)
        refine (fail_ _ _ _ _ hblk.out).mono ?_
        rintro e w' ⟨rfl, rfl⟩
        go_wp2
        go_ret
        exact hfail.out hv
      · go_wp2
        go_ret
        exact hdone.out (by omega)
/-- Number reads a number, as codec's reader does. -/
theorem number (F : Nat → Prop) (p c : Nat) (A : Option Addr) (l : List Int) (bad : Bool) (w : World) (h : Rr 85 w F p A c l bad) :
    Calls Try.prog 51 #[.pointer (some ⟨p, 0, none⟩)] w (NumPost 85 F p l bad w) := by
  match l, h with
  | [], h => exact number_empty F p c A bad w h
  | f :: r, h =>
    cases bad with
    | true => have := h.nil rfl; simp at this
    | false =>
      have hb := h.byte f (by simp)
      by_cases hf : f < 248
      · exact number_small F p c A _ w h (by simp) (by simpa [gi] using hf) (by simp [rdNum, hf, gi])
      · by_cases hs : (r.length : Int) < f - 247
        · exact number_short F p c A _ w h (by simp) (by simp [gi]; omega) (by simp [gi]; omega) (by simp [rdNum, hf, hs])
        · have hlong := rdNum_long f r (f - 247).toNat (by omega) (by omega) (by omega)
          by_cases hz : gi r 0 = 0
          · exact number_zero F p c A _ w h (by simp; omega) (by simp [gi]; omega) (by simp [gi]; omega) hz (by rw [hlong, if_pos (.inr hz)])
          · exact number_big F p c (f - 247).toNat f A _ r w h rfl (by omega) (by omega) (by omega) (by omega) hz
set_option maxHeartbeats 400000 in
theorem int_ (F : Nat → Prop) (p c : Nat) (A : Option Addr) (l : List Int) (bad : Bool) (w : World) (h : Rr 85 w F p A c l bad) :
    Calls Try.prog 53 #[.pointer (some ⟨p, 0, none⟩)] w fun e w' => e = .returned (.int .i64 (uz (stN l bad).1)) ∧ ∃ A' c', Rr 85 w' F p A' c' (stN l bad).2.1 (stN l bad).2.2 ∧ Upd (fun k => k = p) w w' := by
  have hr := stN_range l bad h.byte
  obtain ⟨n, hn⟩ : ∃ n, n = (stN l bad).1 := ⟨_, rfl⟩
  have hnum := hid (number F p c A l bad w h)
  unfold NumPost at hnum
  rw [← hn] at hr hnum ⊢
  clear hn h
  by_cases ho : n % 2 = 1
  · have hob : (n % 2 == 1) = true := by simp [ho]
    have hu : uz n = -(n / 2) - 1 := by unfold uz; rw [if_neg (by omega)]
    rw [hu]
    have HO := hid ho
    clear ho hu
    go_enter Try.func53, Try.ntmps53
    go_wp2_with (fail)
    refine Calls.mono hnum.out ?_
    rintro e w' ⟨rfl, A', c', h', hu⟩
    go_wp2
    go_ret
    exact ⟨rfl, A', c', h', hu⟩
  · have hob : (n % 2 == 1) = false := by simp [ho]
    have hu : uz n = n / 2 := by unfold uz; rw [if_pos (by omega)]
    rw [hu]
    clear ho hu
    go_enter Try.func53, Try.ntmps53
    go_wp2_with (fail)
    refine Calls.mono hnum.out ?_
    rintro e w' ⟨rfl, A', c', h', hu⟩
    go_wp2
    go_ret
    exact ⟨rfl, A', c', h', hu⟩
theorem number_eq {F : Nat → Prop} {p c : Nat} {A : Option Addr} {l r : List Int} {n : Int} {bad bd : Bool} {w : World} (h : Rr 85 w F p A c l bad) (hs : stN l bad = (n, r, bd)) :
    Calls Try.prog 51 #[.pointer (some ⟨p, 0, none⟩)] w fun e w' => e = .returned (.int .u64 n) ∧ ∃ A' c', Rr 85 w' F p A' c' r bd ∧ Upd (fun k => k = p) w w' :=
  (number F p c A l bad w h).mono fun e w' hp => by
    unfold NumPost at hp
    rw [hs] at hp
    exact hp
theorem stN_bad (l : List Int) (bad : Bool) (hb : bad = true → l = []) (h : (stN l bad).2.2 = true) : (stN l bad).1 = 0 ∧ (stN l bad).2.1 = [] := by
  cases bad with
  | true => rw [hb rfl]; exact ⟨rfl, rfl⟩
  | false =>
    revert h
    unfold stN
    cases rdNum l with
    | none => intro _; exact ⟨rfl, rfl⟩
    | some x => intro h; simp at h
set_option maxHeartbeats 1000000 in
set_option maxRecDepth 100000 in
theorem text_ (F : Nat → Prop) (p c : Nat) (A : Option Addr) (l : List Int) (bad : Bool) (w : World) (h : Rr 85 w F p A c l bad) :
    Calls Try.prog 52 #[.pointer (some ⟨p, 0, none⟩)] w (TextPost 85 F p (stT l bad) w) := by
  have hr := stN_range l bad h.byte
  have hbd := stN_bad l bad h.nil
  unfold stT
  obtain ⟨n, r, bd, hs⟩ : ∃ n r bd, stN l bad = (n, r, bd) := ⟨_, _, _, rfl⟩
  have hnum := hid (number_eq h hs)
  rw [hs] at hr hbd ⊢
  simp only at hbd
  clear hs h
  by_cases hn : (r.length : Int) < n
  · cases bd with
    | true => have := hbd rfl; rw [this.1] at hn; omega
    | false =>
      rw [if_neg (by simp), if_pos hn]
      clear hbd
      go_enter Try.func52, Try.ntmps52
      go_wp2_with (fail)
      refine Calls.mono hnum.out ?_
      rintro e w' ⟨rfl, A', c', h', hu⟩
      have hc := h'.blk.cell 0
      have hc1 := h'.blk.cell 1
      have hcap := h'.cap
      have htop := h'.top
      simp at hc hc1
      have hblk := hid h'.blk
      have hfin := hid h'.failed
      have hu2 := hid (hu.trans (Upd.set (F := fun k => k = p) (p := ⟨p, 1, none⟩) (Upd.set (F := fun k => k = p) (p := ⟨p, 0, none⟩) (Upd.refl _ _) (.inl rfl) (.slice none 0 0)) (.inl rfl) (.bool true)) fun i _ hi => hi)
      clear h' hu
      go_wp2_with (fail)
      refine (fail_ _ _ _ _ hblk.out).mono ?_
      rintro e w' ⟨rfl, rfl⟩
      go_wp2
      go_ret
      exact ⟨rfl, _, _, hfin.out, hu2.out⟩
  · obtain ⟨m, rfl⟩ := Int.eq_ofNat_of_zero_le hr.1
    have hm : m ≤ r.length := by omega
    have hq : (if ((m : Int), r, bd).2.2 = true then (([] : List Int), ((m : Int), r, bd).2.1, true) else if ((((m : Int), r, bd).2.1.length : Nat) : Int) < ((m : Int), r, bd).1 then ([], [], true) else (((m : Int), r, bd).2.1.take ((m : Int), r, bd).1.toNat, ((m : Int), r, bd).2.1.drop ((m : Int), r, bd).1.toNat, false)) = (r.take m, r.drop m, bd) := by
      cases bd with
      | true =>
        have := hbd rfl
        have h0 : m = 0 := by omega
        rw [this.2, h0]
        rfl
      | false =>
        simp only [Bool.false_eq_true, if_false]
        rw [if_neg hn]
        rfl
    rw [hq]
    clear hq hbd
    go_enter Try.func52, Try.ntmps52
    go_wp2_with (fail)
    refine Calls.mono hnum.out ?_
    rintro e w' ⟨rfl, A', c', h', hu⟩
    have hc := h'.blk.cell 0
    have hc1 := h'.blk.cell 1
    have hfr := h'.blk.free 0
    have hcap := h'.cap
    have htop := h'.top
    simp at hc hc1
    have ht := cut_to (P := Try.prog) 50 5 .u64 Try.underlying50 u8_size A' r.length c' m m rfl (by omega)
    obtain ⟨A2, hA2, hcut⟩ := cut_from (P := Try.prog) 50 5 .u64 Try.underlying50 u8_size A' r.length c' m m rfl hm
    have hcv := conv_str (P := Try.prog) (h'.rd.take hm) 50 9 5 c' Try.underlying50 Try.underlying5 Try.underlying9
    rw [List.length_take, Nat.min_eq_left hm] at hcv
    have hfin := hid (h'.cut hm hA2)
    have hu2 := hid (hu.trans (Upd.set (F := fun k => k = p) (p := ⟨p, 0, none⟩) (Upd.refl _ _) (.inl rfl) (.slice A2 (r.length - m) (c' - m))) fun i _ hi => hi)
    clear h' hu hA2
    go_wp2
    go_ret
    exact ⟨rfl, _, _, hfin.out, hu2.out⟩
end Go.Proofs.Ytlicimkpgnemeaa.Ce
