/-
  The walks of the reference's disk: reading and writing.
-/
import Derived.Test.YtehdobagglondaaDr
set_option linter.unusedVariables false
set_option linter.unusedSimpArgs false
namespace Go.Proofs.Ytehdobagglondaa.Dr
open Go.RowKit Go.Proofs.Ytehdobagglondaa.B Go.Proofs.Ytehdobagglondaa.Sm Go.Proofs.Ytehdobagglondaa.Dk
/-- A field's address. -/
theorem add_field (ad : Addr) (m k : Nat) (hk : 0 < k) : ad.add (m + k) = ⟨(ad.add m).block, (ad.add m).off + k, none⟩ := by
  unfold Addr.add
  by_cases hm : m = 0
  · subst hm; simp; omega
  · simp [hm]; omega
theorem last_take (log : List Rec) (c i : Nat) (hc : c < log.length) : last (log.take (c + 1)) i = if log[c].1 = i then some log[c].2 else last (log.take c) i := by
  rw [List.take_succ_eq_append_getElem hc, last_snoc]
def LsOut (w : World) (o : List Int) (e : Ending) (w' : World) : Prop := ∃ A c, e = .returned (.slice A o.length c) ∧ Rn w' .u8 A o ∧ Upd No w w'
theorem LsOut.of {w : World} {o : List Int} {e : Ending} {w' : World} (h : ∃ A c, e = .returned (.slice A o.length c) ∧ Rn w' .u8 A o ∧ Upd No w w') : LsOut w o e w' := h
set_option maxHeartbeats 2000000 in
theorem last_ (p : Nat) (m : Dm) (F : Nat → Prop) (i : Nat) (w : World) (h : Dr w F p m) (hfit : Fits m.log) :
    Calls Try.prog 32 #[.pointer (some ⟨p, 0, none⟩), .int .i64 i, .int .i64 m.log.length] w fun e w' => LsOut w ((last m.log i).getD (List.replicate 256 0)) e w' := by
  obtain ⟨vl, h2, h4, h6, h8, h9⟩ := h
  obtain ⟨nb, log, fuse, down⟩ := m
  simp only at h2 h4 hfit
  have hlog := own_len h4
  have hc1 := h2.cell 1
  simp at hc1
  obtain ⟨A, cc, rfl, hlc, hcm⟩ := own_shape h4
  simp only [maxLen] at hlog
  have HR := Rd.of_own h4
  obtain ⟨out, hout⟩ : ∃ out, out = (last log i).getD (List.replicate 256 0) := ⟨_, rfl⟩
  have hout' := hid hout
  rw [← hout]
  clear hout
  go_enter Try.func32, Try.ntmps32
  go_wp2_with (fail)
  go_loopw [7] (fun v7 W => ∃ c : Nat, c ≤ log.length ∧ v7 = .int .i64 ((c : Int) - 1) ∧ Hid (last log i = last (log.take c) i) ∧ W = w) (fun v7 _ => (intOf v7 + 1).toNat)
  case atStart => exact ⟨log.length, Nat.le_refl _, by go_num, hid (by rw [List.take_length]), rfl⟩
  case round =>
    obtain ⟨c, hc, rfl, hla, rfl⟩ := hrel
    by_cases h0 : c = 0
    · subst h0
      have hz : out = List.replicate 256 0 := by
        rw [hout'.out, hla.out, List.take_zero]
        rfl
      have hzl : out.length = 256 := by rw [hz, List.length_replicate]
      have hz' := hid hz
      clear hz
      go_wp2_with (at_make; go_must (refine mk_nb rfl _ _ 22 5 rfl Try.underlying22 u8_info 256 256 rfl rfl rfl (by omega) ?_); intro w1 g1 hg1 hn1 hu1; clear hg1)
      go_ret
      refine .of ⟨some ⟨g1, 0, none⟩, 256, by rw [hzl]; rfl, ?_, hu1⟩
      rw [hz'.out]
      exact hn1.rn
    · obtain ⟨k, rfl⟩ : ∃ k, c = k + 1 := ⟨c - 1, by omega⟩
      have hk : k < log.length := by omega
      rw [show ((k + 1 : Nat) : Int) - 1 = (k : Int) from by omega]
      obtain ⟨ad, rfl, hcl⟩ := HR.2 (by omega)
      obtain ⟨x0, x1⟩ := rcells_get log k log[k] (List.getElem?_eq_getElem hk)
      have hx0 := hcl _ _ x0
      have hx1 := hcl _ _ x1
      have hst := last_take log k i hk
      have hft := hfit log[k] (List.getElem_mem hk)
      rw [← hla.out] at hst
      have e1 := add_field ad (k * 2) 1 (by omega)
      rw [e1] at hx1
      generalize log[k] = y at *
      obtain ⟨a, l⟩ := y
      simp only at hx0 hx1 hst hft
      have hk1 : (0 : Int) ≤ (k : Int) := by omega
      have hk2 : (k : Int) < (log.length : Int) := by omega
      clear hcl x0 x1 e1
      by_cases ha : a = i
      · have hb : ((a : Int) == (i : Int)) = true := by simp [ha]
        rw [if_pos ha] at hst
        have ho : out = l := by rw [hout'.out, hst]; rfl
        have hst' := hid ho
        obtain ⟨w1, c1, hcv, hrn, hu⟩ := conv_bytes (P := Try.prog) wr 9 22 5 l hft.2 Try.underlying9 Try.underlying22 Try.underlying5
        have hrn' := hid hrn
        clear hst ho ha hrn
        go_wp2
        go_ret
        refine .of ⟨_, c1, by simp only [hst'.out, hft.1]; rfl, ?_, hu⟩
        rw [hst'.out]
        exact hrn'.out
      · have hb : ((a : Int) == (i : Int)) = false := by simp; omega
        rw [if_neg ha] at hst
        have hst' := hid hst
        clear hst ha
        go_wp2
        go_roundw
        case rel => exact ⟨k, by omega, by go_num, hid (by rw [hst'.out]), trivial⟩
        case measure => simp [intOf]
set_option maxHeartbeats 1000000 in
theorem read (p : Nat) (m : Dm) (F : Nat → Prop) (i : Int) (w : World) (h : Dr w F p m) (hok : m.ok) (hfit : Fits m.log) :
    Calls Try.prog 24 #[.pointer (some ⟨p, 0, none⟩), .int .i64 i] w fun e w' => RdOut w (m.rd i) e w' := by
  have hl := hid fun j => last_ p m F j w h hfit
  obtain ⟨vl, h2, h4, h6, h8, h9⟩ := h
  obtain ⟨nb, log, fuse, down⟩ := m
  simp only at h2 h4
  have hlog := own_len h4
  have hc0 := h2.cell 0
  have hc1 := h2.cell 1
  have hc3 := h2.cell 3
  simp at hc0 hc1 hc3
  obtain ⟨A, cc, rfl, hlc, hcm⟩ := own_shape h4
  obtain ⟨hk1, hk2, hk3⟩ := hok
  simp only at hk1 hk2 hk3
  simp only [maxLen] at hlog
  cases down with
  | true =>
    rw [show Dm.rd ⟨nb, log, fuse, true⟩ i = ([], 9) from rfl]
    go_enter Try.func24, Try.ntmps24
    go_wp2
    go_ret2
    exact .of ⟨none, 0, rfl, Rd.nil_ _ _ _, Upd.refl _ _⟩
  | false =>
    by_cases hbad : i < 0 ∨ (nb : Int) ≤ i
    · rw [show Dm.rd ⟨nb, log, fuse, false⟩ i = ([], 1) from by simp [Dm.rd, hbad]]
      rcases hbad with hb | hb
      · go_enter Try.func24, Try.ntmps24
        go_wp2
        go_ret2
        exact .of ⟨none, 0, rfl, Rd.nil_ _ _ _, Upd.refl _ _⟩
      · have hb0 : ¬ i < 0 := by omega
        go_enter Try.func24, Try.ntmps24
        go_wp2
        go_ret2
        exact .of ⟨none, 0, rfl, Rd.nil_ _ _ _, Upd.refl _ _⟩
    · obtain ⟨j, rfl⟩ : ∃ j : Nat, i = (j : Int) := ⟨i.toNat, by omega⟩
      have hj : j < nb := by omega
      have e1 : Dm.rd ⟨nb, log, fuse, false⟩ j = ((last log j).getD (List.replicate 256 0), 0) := by
        unfold Dm.rd
        rw [if_neg (by simp), if_neg hbad]
        rfl
      rw [e1]
      clear hbad e1
      have hlj := hl.out j
      simp only at hlj
      obtain ⟨o, ho⟩ : ∃ o, o = (last log j).getD (List.replicate 256 0) := ⟨_, rfl⟩
      rw [← ho] at hlj ⊢
      have HC := hid hlj
      clear hlj ho
      go_enter Try.func24, Try.ntmps24
      go_wp2_with (fail)
      refine Calls.mono HC.out ?_
      rintro e w' ⟨A', c', rfl, hr, hu⟩
      go_wp2
      go_ret2
      exact .of ⟨A', c', rfl, hr, hu⟩
set_option maxHeartbeats 2000000 in
theorem write (p : Nat) (m : Dm) (F : Nat → Prop) (A : Option Addr) (c : Nat) (l : List Int) (i : Int) (w : World) (h : Dr w F p m) (hr : Rn w .u8 A l) (hF : ∀ ad, A = some ad → ¬ F ad.block) (hok : m.ok) (hlen : m.log.length ≤ 1000000) :
    Calls Try.prog 23 #[.pointer (some ⟨p, 0, none⟩), .int .i64 i, .slice A l.length c] w fun e w' => e = .returned (.int .i64 (m.wr i l).1) ∧ ∃ F', Dr w' F' p (m.wr i l).2 ∧ Mv F F' w w' := by
  have h' := hid h
  obtain ⟨vl, h2, h4, h6, h8, h9⟩ := h
  obtain ⟨nb, log, fuse, down⟩ := m
  simp only at h2 h4 hlen
  have hc0 := h2.cell 0
  have hc2 := h2.cell 2
  have hc3 := h2.cell 3
  simp at hc0 hc2 hc3
  have hf2 := h2.free 2
  have hf3 := h2.free 3
  obtain ⟨hk1, hk2, hk3⟩ := hok
  simp only at hk1 hk2 hk3
  cases down with
  | true =>
    go_enter Try.func23, Try.ntmps23
    go_wp2
    go_ret
    exact ⟨rfl, F, h'.out, Mv.refl _ _⟩
  | false =>
    by_cases hbad : i < 0 ∨ (nb : Int) ≤ i ∨ l.length ≠ 256
    · have e : (Dm.wr ⟨nb, log, fuse, false⟩ i l) = (1, ⟨nb, log, fuse, false⟩) := by simp [Dm.wr, hbad]
      rw [e]
      rcases hbad with hb | hb | hb
      · go_enter Try.func23, Try.ntmps23
        go_wp2
        go_ret
        exact ⟨rfl, F, h'.out, Mv.refl _ _⟩
      · have h0 : ¬ i < 0 := by omega
        go_enter Try.func23, Try.ntmps23
        go_wp2
        go_ret
        exact ⟨rfl, F, h'.out, Mv.refl _ _⟩
      · have hb' : ¬ (l.length : Int) = 256 := by omega
        by_cases h0 : i < 0
        · go_enter Try.func23, Try.ntmps23
          go_wp2
          go_ret
          exact ⟨rfl, F, h'.out, Mv.refl _ _⟩
        · by_cases h1 : (nb : Int) ≤ i
          · go_enter Try.func23, Try.ntmps23
            go_wp2
            go_ret
            exact ⟨rfl, F, h'.out, Mv.refl _ _⟩
          · go_enter Try.func23, Try.ntmps23
            go_wp2
            go_ret
            exact ⟨rfl, F, h'.out, Mv.refl _ _⟩
    · obtain ⟨j, rfl⟩ : ∃ j : Nat, i = (j : Int) := ⟨i.toNat, by omega⟩
      obtain ⟨hl, hj⟩ : l.length = 256 ∧ j < nb := by omega
      by_cases hf0 : fuse = 0
      · subst hf0
        rw [wr_zero nb log j l hj hl]
        clear hbad
        rw [hl]
        go_enter Try.func23, Try.ntmps23
        go_wp2
        go_ret
        refine ⟨rfl, F, h'.out.word 0 true (fun b hb => by simpa using hb.put 3 (.bool true)) ((Upd.refl _ _).set1 _ _), (((Upd.refl _ _).set1 _ _).mono fun k _ hk => hk ▸ h6), fun k hk => .inl hk⟩
      · rw [wr_ok nb log fuse j l hj hl hf0]
        clear hbad
        rw [hl]
        by_cases hfp : 0 < fuse
        · rw [if_pos hfp]
          obtain ⟨f1, hf1e⟩ : ∃ f1 : Int, f1 = fuse - 1 := ⟨_, rfl⟩
          rw [← hf1e]
          have hwf : IntKind.i64.wrap (fuse - 1) = f1 := by rw [hf1e]; exact IntWalk.i64_in _ (by omega)
          have hD0 : Hid (Dr (w.setCell ⟨p, 2, none⟩ (.int .i64 f1)) F p ⟨nb, log, f1, false⟩) := hid (h'.out.word f1 false (fun b hb => by simpa using hb.put 2 (.int .i64 f1)) ((Upd.refl _ _).set1 _ _))
          have HU0 : Hid (Upd F w (w.setCell ⟨p, 2, none⟩ (.int .i64 f1))) := hid ((Upd.refl _ _).set (.inl h6) _)
          have hr0 : Hid (Rn (w.setCell ⟨p, 2, none⟩ (.int .i64 f1)) .u8 A l) := hid (Rd.upd hr (by omega) HU0.out hF)
          clear h2 hf1e
          go_enter Try.func23, Try.ntmps23
          go_wp2_with (fail)
          generalize hw1 : w.setCell ⟨p, 2, none⟩ (.int .i64 f1) = w1 at *
          clear hw1
          have hD1 := hD0
          have HU := HU0
          have hrn1 : Rn w1 .u8 A l := hr0.out
          obtain ⟨vl1, k2, k4, k6, k8, k9⟩ := hD1.out
          simp only at k2 k4
          have kc1 := k2.cell 1
          have kf1 := k2.free 1
          simp at kc1
          have hcv := conv_str (P := Try.prog) (w := w1) hrn1 22 9 5 c Try.underlying22 Try.underlying5 Try.underlying9
          have hcw := conv_str (P := Try.prog) (w := w1.drew) hrn1 22 9 5 c Try.underlying22 Try.underlying5 Try.underlying9
          rw [hl] at hcv hcw
          have e3 : ∀ o, (w1.alloc o).cell? ⟨p, 1, none⟩ = some vl1 := fun o => by simpa using (k2.alloc o).cell 1
          have hle1 : log.length + 1 ≤ 9223372036854775807 := by omega
          have hle2 : (log.length + 1) * 24 ≤ 140737488355328 := by omega
          go_wp2
          go_region_law ((refine step_ap_row 0 (by rfl) (.tmp 50) (.tmp 55) 52 56 (.agg #[.int .i64 0, .string ⟨#[]⟩]) 2 24 (by rfl) Try.underlying52 wr_info rfl (by omega) vl1 log.length (rcells log) (some ⟨w1.heap.size, 0, none⟩) 1 1 [.int .i64 j, .string (strOfNums l)] (by rfl) (by rfl) (own_drew (k4.alloc _)) (Rd.drew (Rd_lit w1 _ 2 1 _ rfl)) (by intro u hu; simp at hu; rcases hu with rfl | rfl <;> rfl) hle1 hle2 (Nat.zero_le _) ?_; intro A3 c3 w4 ho4 hg4 hat4; have p4 := ((k2.alloc _).drew).grown hg4 (own_blk_ne k4 k2 (by decide)).symm; have hf4 := p4.free 1; have hc4 := p4.cell 1; simp at hc4))
          all_goals
            obtain ⟨F', hD, hM⟩ := Dr.wrote (m := ⟨nb, log, f1, false⟩) (r := [(j, l)]) k2 k4 k6 k8 k9 (((Upd.refl No w1).alloc _).drew) ho4 hg4 hat4
            go_wp2
            go_ret
            refine ⟨rfl, F', hD, Mv.trans ⟨HU.out, fun _ h => .inl h⟩ hM⟩
        · rw [if_neg hfp]
          have hrn1 : Rn w .u8 A l := hr
          obtain ⟨w1, rfl⟩ : ∃ w1 : World, w1 = w := ⟨_, rfl⟩
          have hD1 := h'
          have HU : Hid (Upd F w1 w1) := hid (Upd.refl _ _)
          obtain ⟨vl1, k2, k4, k6, k8, k9⟩ := hD1.out
          simp only at k2 k4
          clear h2
          have kc1 := k2.cell 1
          have kf1 := k2.free 1
          simp at kc1
          have hcv := conv_str (P := Try.prog) (w := w1) hrn1 22 9 5 c Try.underlying22 Try.underlying5 Try.underlying9
          have hcw := conv_str (P := Try.prog) (w := w1.drew) hrn1 22 9 5 c Try.underlying22 Try.underlying5 Try.underlying9
          rw [hl] at hcv hcw
          have e3 : ∀ o, (w1.alloc o).cell? ⟨p, 1, none⟩ = some vl1 := fun o => by simpa using (k2.alloc o).cell 1
          have hle1 : log.length + 1 ≤ 9223372036854775807 := by omega
          have hle2 : (log.length + 1) * 24 ≤ 140737488355328 := by omega
          go_enter Try.func23, Try.ntmps23
          go_wp2
          go_region_law ((refine step_ap_row 0 (by rfl) (.tmp 50) (.tmp 55) 52 56 (.agg #[.int .i64 0, .string ⟨#[]⟩]) 2 24 (by rfl) Try.underlying52 wr_info rfl (by omega) vl1 log.length (rcells log) (some ⟨w1.heap.size, 0, none⟩) 1 1 [.int .i64 j, .string (strOfNums l)] (by rfl) (by rfl) (own_drew (k4.alloc _)) (Rd.drew (Rd_lit w1 _ 2 1 _ rfl)) (by intro u hu; simp at hu; rcases hu with rfl | rfl <;> rfl) hle1 hle2 (Nat.zero_le _) ?_; intro A3 c3 w4 ho4 hg4 hat4; have p4 := ((k2.alloc _).drew).grown hg4 (own_blk_ne k4 k2 (by decide)).symm; have hf4 := p4.free 1; have hc4 := p4.cell 1; simp at hc4))
          all_goals
            obtain ⟨F', hD, hM⟩ := Dr.wrote (m := ⟨nb, log, fuse, false⟩) (r := [(j, l)]) k2 k4 k6 k8 k9 (((Upd.refl No w1).alloc _).drew) ho4 hg4 hat4
            go_wp2
            go_ret
            refine ⟨rfl, F', hD, Mv.trans ⟨HU.out, fun _ h => .inl h⟩ hM⟩
end Go.Proofs.Ytehdobagglondaa.Dr
