/-
  The walks of package disk: what is asked of it.
-/
import Derived.Test.YtbcmaobopglooaaDk
set_option linter.unusedVariables false
set_option linter.unusedSimpArgs false
namespace Go.Proofs.Ytbcmaobopglooaa.Dk
open Go.RowKit Go.Proofs.Ytbcmaobopglooaa.B Go.Proofs.Ytbcmaobopglooaa.Sm
/-- Which block a write wrote. -/
def Dm.at_ (m : Dm) (n : Int) : Int := if n < 0 ∨ (m.log.length : Int) ≤ n then -1 else ((m.log.getD n.toNat (0, [])).1 : Int)
theorem Dk.log {w : World} {F : Nat → Prop} {p : Nat} {m : Dm} (h : Dk w F p m) : m.log.length ≤ 9223372036854775807 := by
  obtain ⟨ps, g, vl, h1, h2, h3, h4, h5, h6, h7, h8, h9⟩ := h
  have := own_len h4
  rw [← h1]
  simpa [ab, maxLen] using this
def RdOut (w : World) (o : List Int × Int) (e : Ending) (w' : World) : Prop := ∃ A c, e = .returned (.tuple #[.slice A o.1.length c, .int .i64 o.2]) ∧ Rn w' .u8 A o.1 ∧ Upd No w w'
theorem RdOut.of {w : World} {o : List Int × Int} {e : Ending} {w' : World} (h : ∃ A c, e = .returned (.tuple #[.slice A o.1.length c, .int .i64 o.2]) ∧ Rn w' .u8 A o.1 ∧ Upd No w w') : RdOut w o e w' := h
/-- As RdOut, with what the slice has room for. -/
def RdOw (w : World) (o : List Int × Int) (e : Ending) (w' : World) : Prop := ∃ A c, e = .returned (.tuple #[.slice A o.1.length c, .int .i64 o.2]) ∧ Rn w' .u8 A o.1 ∧ Upd No w w' ∧ o.1.length ≤ c ∧ c ≤ 9223372036854775807
theorem RdOw.of {w : World} {o : List Int × Int} {e : Ending} {w' : World} (h : ∃ A c, e = .returned (.tuple #[.slice A o.1.length c, .int .i64 o.2]) ∧ Rn w' .u8 A o.1 ∧ Upd No w w' ∧ o.1.length ≤ c ∧ c ≤ 9223372036854775807) : RdOw w o e w' := h
set_option maxHeartbeats 1000000 in
theorem read_ (p : Nat) (m : Dm) (F : Nat → Prop) (i : Int) (w : World) (h : Dk w F p m) (hok : m.ok) :
    Calls Try.prog 19 #[.pointer (some ⟨p, 0, none⟩), .int .i64 i] w fun e w' => RdOw w (m.rd i) e w' := by
  have q : ∀ (w : World) (a : Option Addr) (n c n' c' : Nat), (binOp .eql 22 (.slice a n c) (.slice none n' c')).run Try.prog w = .ok (.bool a.isNone) w := fun w a n c n' c' => Go.Lib.run_eql_slice_nil w _ _ a n c n' c' Try.underlying22
  obtain ⟨ps, g, vl, h1, h2, h3, h4, h5, h6, h7, h8, h9⟩ := h
  obtain ⟨nb, log, fuse, down⟩ := m
  simp only at h1 h2 h3
  have hc0 := h2.cell 0
  have hc3 := h2.cell 3
  simp at hc0 hc3
  obtain ⟨hk1, hk2, hk3⟩ := hok
  simp only at hk1 hk2 hk3
  cases down with
  | true =>
    rw [show Dm.rd ⟨nb, log, fuse, true⟩ i = ([], 9) from rfl]
    go_enter Try.func19, Try.ntmps19
    go_wp2
    go_ret2
    exact .of ⟨none, 0, rfl, Rd.nil_ _ _ _, Upd.refl _ _, by simp, by omega⟩
  | false =>
    by_cases hbad : i < 0 ∨ (nb : Int) ≤ i
    · rw [show Dm.rd ⟨nb, log, fuse, false⟩ i = ([], 1) from by simp [Dm.rd, hbad]]
      rcases hbad with hb | hb
      · go_enter Try.func19, Try.ntmps19
        go_wp2
        go_ret2
        exact .of ⟨none, 0, rfl, Rd.nil_ _ _ _, Upd.refl _ _, by simp, by omega⟩
      · have hb0 : ¬ i < 0 := by omega
        go_enter Try.func19, Try.ntmps19
        go_wp2
        go_ret2
        exact .of ⟨none, 0, rfl, Rd.nil_ _ _ _, Upd.refl _ _, by simp, by omega⟩
    · obtain ⟨j, rfl⟩ : ∃ j : Nat, i = (j : Int) := ⟨i.toNat, by omega⟩
      have hj : j < nb := by omega
      have hcg := h3.cell j
      simp [hj] at hcg
      have e1 : Dm.rd ⟨nb, log, fuse, false⟩ j = ((last log j).getD (List.replicate 256 0), 0) := by
        unfold Dm.rd
        rw [if_neg (by simp), if_neg hbad]
        rfl
      rw [e1]
      clear hbad e1
      rcases slot_of ps j with ⟨s1, s2⟩ | ⟨x, hx, _, s1, s2⟩
      · rw [← h1, s1, Option.getD_none]
        rw [s2] at hcg
        obtain ⟨zs, hzs⟩ : ∃ zs : List Int, zs = List.replicate 256 0 := ⟨_, rfl⟩
        rw [← hzs]
        have hzl : zs.length = 256 := by rw [hzs, List.length_replicate]
        clear s1 s2
        have hzs' := hid hzs
        clear hzs
        go_enter Try.func19, Try.ntmps19
        go_wp2_with (at_make; go_must (refine mk_nb rfl _ _ 22 5 rfl Try.underlying22 u8_info 256 256 rfl rfl rfl (by omega) ?_); intro w1 g1 hg1 hn1 hu1; clear hg1)
        go_ret2
        refine .of ⟨some ⟨g1, 0, none⟩, 256, by simp only [hzl]; rfl, ?_, hu1, by simp only; omega, by omega⟩
        have := hn1.rn
        rw [← hzs'.out] at this
        exact this
      · rw [← h1, s1, Option.getD_some]
        rw [s2] at hcg
        obtain ⟨g1, c1, e, hF, ho⟩ := h5 x hx
        rw [e] at hcg ho
        have hl : x.2.1.length = 256 := by simpa [nums] using ho.1
        have HC := hid (clone (some ⟨g1, 0, none⟩) 256 c1 (nums .u8 x.2.1) w (Rd.of_own ho) (nums_one .u8 _) (by omega))
        clear s1 s2
        go_enter Try.func19, Try.ntmps19
        go_wp2_with (fail)
        refine Calls.mono HC.out ?_
        rintro e w' ⟨A', c', rfl, ho', hu', _⟩
        go_wp2
        go_ret2
        obtain ⟨_, _, hsv, hsc, hsm⟩ := own_shape ho'
        simp only [Value.slice.injEq, true_and] at hsv
        obtain ⟨rfl, rfl⟩ := hsv
        refine .of ⟨A', c', by simp only [hl]; rfl, ?_, hu', by simp only; omega, by simpa [maxLen] using hsm⟩
        have := Rd.of_own ho'
        rw [← hl] at this
        exact this
theorem read (p : Nat) (m : Dm) (F : Nat → Prop) (i : Int) (w : World) (h : Dk w F p m) (hok : m.ok) :
    Calls Try.prog 19 #[.pointer (some ⟨p, 0, none⟩), .int .i64 i] w fun e w' => RdOut w (m.rd i) e w' :=
  (read_ p m F i w h hok).mono fun e w' h => by
    obtain ⟨A, c, h1, h2, h3, _⟩ := h
    exact ⟨A, c, h1, h2, h3⟩
set_option maxHeartbeats 1000000 in
theorem blocks (p : Nat) (m : Dm) (F : Nat → Prop) (w : World) (h : Dk w F p m) (hok : m.ok) :
    Calls Try.prog 18 #[.pointer (some ⟨p, 0, none⟩)] w fun e w' => e = .returned (.int .i64 m.nb) ∧ w = w' := by
  have hlog := h.log
  obtain ⟨ps, g, vl, h1, h2, h3, h4, h5, h6, h7, h8, h9⟩ := h
  obtain ⟨nb, log, fuse, down⟩ := m
  simp only at h1 h2 h3 hlog
  have hc0 := h2.cell 0
  have hc1 := h2.cell 1
  have hc3 := h2.cell 3
  simp at hc0 hc1 hc3
  obtain ⟨A, c, rfl, hlc, hcm⟩ := own_shape h4
  have hpl : ps.length = log.length := by rw [← h1]; simp [ab]
  obtain ⟨hk1, hk2, hk3⟩ := hok
  simp only at hk1 hk2 hk3
  go_enter Try.func18, Try.ntmps18
  go_wp2
  go_ret
  exact ⟨rfl, rfl⟩
set_option maxHeartbeats 1000000 in
theorem writes (p : Nat) (m : Dm) (F : Nat → Prop) (w : World) (h : Dk w F p m) (hok : m.ok) :
    Calls Try.prog 17 #[.pointer (some ⟨p, 0, none⟩)] w fun e w' => e = .returned (.int .i64 m.log.length) ∧ w = w' := by
  have hlog := h.log
  obtain ⟨ps, g, vl, h1, h2, h3, h4, h5, h6, h7, h8, h9⟩ := h
  obtain ⟨nb, log, fuse, down⟩ := m
  simp only at h1 h2 h3 hlog
  have hc0 := h2.cell 0
  have hc1 := h2.cell 1
  have hc3 := h2.cell 3
  simp at hc0 hc1 hc3
  obtain ⟨A, c, rfl, hlc, hcm⟩ := own_shape h4
  have hpl : ps.length = log.length := by rw [← h1]; simp [ab]
  obtain ⟨hk1, hk2, hk3⟩ := hok
  simp only at hk1 hk2 hk3
  rw [hpl] at hc1
  go_enter Try.func17, Try.ntmps17
  go_wp2
  go_ret
  exact ⟨rfl, rfl⟩
set_option maxHeartbeats 1000000 in
theorem written (p : Nat) (m : Dm) (F : Nat → Prop) (n : Int) (w : World) (h : Dk w F p m) (hok : m.ok) :
    Calls Try.prog 16 #[.pointer (some ⟨p, 0, none⟩), .int .i64 n] w fun e w' => e = .returned (.int .i64 (m.at_ n)) ∧ w = w' := by
  have hlog := h.log
  obtain ⟨ps, g, vl, h1, h2, h3, h4, h5, h6, h7, h8, h9⟩ := h
  obtain ⟨nb, log, fuse, down⟩ := m
  simp only at h1 h2 h3 hlog
  have hc0 := h2.cell 0
  have hc1 := h2.cell 1
  have hc3 := h2.cell 3
  simp at hc0 hc1 hc3
  obtain ⟨A, c, rfl, hlc, hcm⟩ := own_shape h4
  have hpl : ps.length = log.length := by rw [← h1]; simp [ab]
  obtain ⟨hk1, hk2, hk3⟩ := hok
  simp only at hk1 hk2 hk3
  by_cases hbad : n < 0 ∨ (log.length : Int) ≤ n
  · rw [show Dm.at_ ⟨nb, log, fuse, down⟩ n = -1 from by simp [Dm.at_, hbad]]
    rw [hpl] at hc1
    rcases hbad with hb | hb
    · go_enter Try.func16, Try.ntmps16
      go_wp2
      go_ret
      exact ⟨rfl, rfl⟩
    · have hb0 : ¬ n < 0 := by omega
      go_enter Try.func16, Try.ntmps16
      go_wp2
      go_ret
      exact ⟨rfl, rfl⟩
  · obtain ⟨j, rfl⟩ : ∃ j : Nat, n = (j : Int) := ⟨n.toNat, by omega⟩
    have hj : j < ps.length := by omega
    have e1 : Dm.at_ ⟨nb, log, fuse, down⟩ j = (ps[j].1 : Int) := by
      unfold Dm.at_
      rw [if_neg hbad]
      have : (log.getD j (0, [])).1 = ps[j].1 := by rw [← h1]; simp [ab, List.getD_eq_getElem?_getD, hj]
      exact congrArg (fun x : Nat => (x : Int)) this
    rw [e1]
    obtain ⟨ad, rfl, hcl⟩ := (Rd.of_own h4).2 (by omega)
    have hx := hcl _ _ (wcells_get ps j ps[j] (List.getElem?_eq_getElem hj)).1
    have hj1 : (0 : Int) ≤ (j : Int) := by omega
    have hj2 : (j : Int) < (ps.length : Int) := by omega
    generalize ps[j].1 = y at *
    clear hbad e1 hcl
    go_enter Try.func16, Try.ntmps16
    go_wp2
    go_ret
    exact ⟨rfl, rfl⟩
set_option maxHeartbeats 1000000 in
theorem setFuse (p : Nat) (m : Dm) (F : Nat → Prop) (n : Int) (w : World) (h : Dk w F p m) (hn : -9223372036854775808 ≤ n ∧ n ≤ 9223372036854775807) :
    Calls Try.prog 14 #[.pointer (some ⟨p, 0, none⟩), .int .i64 n] w fun e w' => Hid (e = .returned (.tuple #[]) ∧ Dk w' F p { m with fuse := max n (-1) } ∧ Upd (fun k => k = p) w w') := by
  have h' : Hid (∀ v, v = max n (-1) → Dk (w.setCell ⟨p, 2, none⟩ (.int .i64 v)) F p { m with fuse := v }) := hid fun v _ => h.word v m.down (fun a b hb => by simpa using hb.put 2 (.int .i64 v)) ((Upd.refl _ _).set1 _ _)
  obtain ⟨ps, g, vl, h1, h2, h3, h4, h5, h6, h7, h8, h9⟩ := h
  have hc2 := h2.cell 2
  have hf2 := h2.free 2
  simp at hc2
  by_cases hm : -1 ≤ n
  · rw [show max n (-1) = n from by omega] at *
    go_enter Try.func14, Try.ntmps14
    go_wp2
    go_end0
    exact hid ⟨rfl, h'.out _ rfl, (Upd.refl _ _).set1 _ _⟩
  · rw [show max n (-1) = -1 from by omega] at *
    go_enter Try.func14, Try.ntmps14
    go_wp2
    go_end0
    exact hid ⟨rfl, h'.out _ rfl, (Upd.refl _ _).set1 _ _⟩
set_option maxHeartbeats 1000000 in
theorem restart (p : Nat) (m : Dm) (F : Nat → Prop) (w : World) (h : Dk w F p m) :
    Calls Try.prog 15 #[.pointer (some ⟨p, 0, none⟩)] w fun e w' => Hid (e = .returned (.tuple #[]) ∧ Dk w' F p { m with fuse := -1, down := false } ∧ Upd (fun k => k = p) w w') := by
  have hu : Hid (Upd (fun k => k = p) w ((w.setCell ⟨p, 3, none⟩ (.bool false)).setCell ⟨p, 2, none⟩ (.int .i64 (-1)))) := hid (((Upd.refl _ _).set1 _ _).set1 _ _)
  have h' := hid (h.word (-1) false (fun a b hb => by simpa using (hb.put 3 (.bool false)).put 2 (.int .i64 (-1))) hu.out)
  obtain ⟨ps, g, vl, h1, h2, h3, h4, h5, h6, h7, h8, h9⟩ := h
  have hc2 := h2.cell 2
  have hf2 := h2.free 2
  have hc3 := h2.cell 3
  have hf3 := h2.free 3
  simp at hc2 hc3
  go_enter Try.func15, Try.ntmps15
  go_wp2
  go_end0
  exact hid ⟨rfl, h'.out, hu.out⟩
end Go.Proofs.Ytbcmaobopglooaa.Dk
