/-
  The walk of reevelaw01.write.
-/
import Derived.Test.YtlghblpkgmajeaaCa
import Derived.Test.YtlghblpkgmajeaaCq
set_option linter.unusedVariables false
set_option linter.unusedSimpArgs false
namespace Go.Proofs.Ytlghblpkgmajeaa.Cv
open Go.RowKit Go.Proofs.Ytlghblpkgmajeaa.B Go.Proofs.Ytlghblpkgmajeaa.Cm Go.Proofs.Ytlghblpkgmajeaa.Cw
/-- A piece: its kind, its number, its text. -/
abbrev Pc := Int × Int × ByteArray
def pcCells (ps : List Pc) : List Value := ps.flatMap fun p => [.int .i64 p.1, .int .u64 p.2.1, .string p.2.2]
/-- What is written of a piece. -/
def pcOut (p : Pc) : List Int := if p.1 = 1 then num p.2.1 else if p.1 = 2 then num (zz (wrap64 p.2.1)) else num p.2.2.size ++ sb p.2.2
def pcOuts (ps : List Pc) : List Int := ps.flatMap pcOut
def gp (ps : List Pc) (i : Nat) : Pc := ps.getD i (0, 0, ⟨#[]⟩)
theorem pcCells_length (ps : List Pc) : (pcCells ps).length = ps.length * 3 := by
  induction ps with
  | nil => rfl
  | cons p r ih => simp only [pcCells, List.flatMap_cons, List.length_append] at *; simp [ih]; omega
theorem pcCells_get (ps : List Pc) (i : Nat) (hi : i < ps.length) : (pcCells ps)[i * 3]? = some (.int .i64 (gp ps i).1) ∧ (pcCells ps)[i * 3 + 1]? = some (.int .u64 (gp ps i).2.1) ∧ (pcCells ps)[i * 3 + 2]? = some (.string (gp ps i).2.2) := by
  induction ps generalizing i with
  | nil => simp at hi
  | cons p r ih =>
    match i with
    | 0 => exact ⟨rfl, rfl, rfl⟩
    | i + 1 =>
      have := ih i (by simpa using hi)
      have e : pcCells (p :: r) = [Value.int .i64 p.1, .int .u64 p.2.1, .string p.2.2] ++ pcCells r := rfl
      have e2 : ∀ k, (pcCells (p :: r))[k + 3]? = (pcCells r)[k]? := fun k => by rw [e, List.getElem?_append_right (by simp)]; simp
      have e3 : (i + 1) * 3 = i * 3 + 3 := by omega
      rw [e3, e2, show i * 3 + 3 + 1 = i * 3 + 1 + 3 from by omega, e2, show i * 3 + 3 + 2 = i * 3 + 2 + 3 from by omega, e2]
      exact this
theorem pcOuts_take (ps : List Pc) (j : Nat) (hj : j < ps.length) : pcOuts (ps.take (j + 1)) = pcOuts (ps.take j) ++ pcOut (gp ps j) := by
  rw [List.take_succ_eq_append_getElem hj]
  simp only [pcOuts, gp, List.getD_eq_getElem?_getD, List.getElem?_eq_getElem hj, List.flatMap_append, List.flatMap_cons, List.flatMap_nil, List.append_nil, Option.getD_some]
theorem pcOuts_le (ps : List Pc) (j : Nat) : (pcOuts (ps.take j)).length ≤ (pcOuts ps).length := by
  have : pcOuts ps = pcOuts (ps.take j) ++ pcOuts (ps.drop j) := by
    rw [pcOuts, pcOuts, pcOuts, ← List.flatMap_append, List.take_append_drop]
  rw [this, List.length_append]
  omega
/-- A field's address. -/
theorem add_field (ad : Addr) (m k : Nat) (hk : 0 < k) : ad.add (m + k) = ⟨(ad.add m).block, (ad.add m).off + k, none⟩ := by
  unfold Addr.add
  by_cases hm : m = 0
  · subst hm; simp; omega
  · simp [hm]; omega
/-- Well made pieces. -/
def PcOk (ps : List Pc) : Prop := ∀ p ∈ ps, 0 ≤ p.2.1 ∧ p.2.1 ≤ 18446744073709551615
theorem gp_mem (ps : List Pc) (i : Nat) (hi : i < ps.length) : gp ps i ∈ ps := by
  simp [gp, List.getD_eq_getElem?_getD, List.getElem?_eq_getElem hi]
/-- Both writers have written cs. -/
def Both (B : Nat) (w0 : World) (p : Nat) (v : Value) (cs : List Int) (W : World) : Prop :=
  ∃ F : Nat → Prop, Wr W F p cs ∧ Cq.Ob W v cs ∧ (∀ k, F k → ¬ Cq.Ow v k) ∧ (∀ k, F k → B ≤ k) ∧ (∀ k, Cq.Ow v k → B ≤ k) ∧ Below B w0 W
theorem Both.half {B p : Nat} {w0 w w2 : World} {v : Value} {cs : List Int} {F F2 : Nat → Prop} (hB : B ≤ w0.heap.size) (h2 : Cq.Ob w v cs) (h3 : ∀ k, F k → ¬ Cq.Ow v k) (h4 : ∀ k, F k → B ≤ k) (h6 : Below B w0 w) (hm : Mv F F2 w w2) :
    Cq.Ob w2 v cs ∧ Below B w0 w2 :=
  ⟨h2.keep hm.upd fun k hk hF => h3 k hF hk, h6.trans (hm.upd.below (Nat.le_trans hB h6.size) h4)⟩
theorem Both.step {B p : Nat} {w0 w w2 w3 : World} {v v' : Value} {cs ds : List Int} {F F2 : Nat → Prop} (hB : B ≤ w0.heap.size) (h2 : Cq.Ob w v cs) (h3 : ∀ k, F k → ¬ Cq.Ow v k) (h4 : ∀ k, F k → B ≤ k) (h5 : ∀ k, Cq.Ow v k → B ≤ k) (h6 : Below B w0 w)
    (hw : Wr w2 F2 p ds) (hm : Mv F F2 w w2) (ho : Cq.Ob w3 v' ds) (hm' : Mv (Cq.Ow v) (Cq.Ow v') w2 w3) : Both B w0 p v' ds w3 := by
  have g3 : ∀ k, F2 k → ¬ Cq.Ow v k := fun k hk hO => (hm.sub k hk).elim (fun h => h3 k h hO) fun h => absurd (h2.lt k hO) (by omega)
  have g4 : ∀ k, F2 k → B ≤ k := fun k hk => (hm.sub k hk).elim (h4 k) fun h => Nat.le_trans (Nat.le_trans hB h6.size) h
  have hb := (h6.trans (hm.upd.below (Nat.le_trans hB h6.size) h4))
  exact ⟨F2, hw.keep hm'.upd g3, ho, fun k hk hO => (hm'.sub k hO).elim (g3 k hk) fun h => absurd (hw.lt k hk) (by omega), g4, fun k hk => (hm'.sub k hk).elim (h5 k) fun h => Nat.le_trans (Nat.le_trans hB hb.size) h, hb.trans (hm'.upd.below (Nat.le_trans hB hb.size) h5)⟩
theorem cells_at {w : World} {ad : Addr} {ps : List Pc} {j : Nat} (hr : Rd w 3 (some ad) ps.length (pcCells ps)) (hj : j < ps.length) (W : World) (hb : Below w.heap.size w W) :
    W.cell? (ad.add (j * 3)) = some (.int .i64 (gp ps j).1) ∧ W.cell? ⟨(ad.add (j * 3)).block, (ad.add (j * 3)).off + 1, none⟩ = some (.int .u64 (gp ps j).2.1) ∧ W.cell? ⟨(ad.add (j * 3)).block, (ad.add (j * 3)).off + 2, none⟩ = some (.string (gp ps j).2.2) := by
  obtain ⟨ad', e, hxs⟩ := (Rd.below hr (by omega) hb).2 (by omega)
  injection e with e
  subst e
  obtain ⟨g0, g1, g2⟩ := pcCells_get ps j hj
  have hx1 := hxs _ _ g1
  have hx2 := hxs _ _ g2
  rw [add_field _ _ _ (by omega)] at hx1 hx2
  exact ⟨hxs _ _ g0, hx1, hx2⟩
set_option maxHeartbeats 4000000 in
set_option maxRecDepth 100000 in
theorem write (A : Option Addr) (c : Nat) (ps : List Pc) (w : World) (hr : Rd w 3 A ps.length (pcCells ps)) (hc : ps.length ≤ 140737488355328) (hok : PcOk ps) (hl : (pcOuts ps).length ≤ 140737488350000) :
    Calls Try.prog 19 #[.slice A ps.length c] w fun e w' => ∃ A1 c1 A2 c2, e = .returned (.tuple #[.slice A1 (pcOuts ps).length c1, .slice A2 (pcOuts ps).length c2]) ∧
      (Rn w' .u8 A1 (pcOuts ps) ∧ (pcOuts ps).length ≤ c1 ∧ c1 ≤ maxLen) ∧ (Rn w' .u8 A2 (pcOuts ps) ∧ (pcOuts ps).length ≤ c2 ∧ c2 ≤ maxLen) ∧ Below w.heap.size w w' := by
  go_enter Try.func19, Try.ntmps19
  go_wp2_with (fail)
  refine (newWriter _).mono ?_
  rintro e w1 ⟨rfl, hw1⟩
  have hb0 : Both w.heap.size w w.heap.size (.slice none 0 0) [] w1 := by
    subst hw1
    refine ⟨_, Wr.new w, Cq.Ob.nil _, fun k _ hk => ?_, fun k hk => by omega, fun k hk => ?_, (Below.refl _ _).alloc (Nat.le_refl _) _⟩
    all_goals simp [Cq.Ow, Value.ownBlock] at hk
  clear hw1
  go_wp2_with (fail)
  go_loopw [5, 10] (fun v5 v10 W => ∃ (j : Nat) (cs : List Int), j ≤ ps.length ∧ v10 = .int .i64 j ∧ Hid (cs = pcOuts (ps.take j)) ∧ Both w.heap.size w w.heap.size v5 cs W) (fun _ v10 _ => ps.length - (intOf v10).toNat)
  case atStart => exact ⟨0, [], by omega, rfl, hid rfl, hb0⟩
  case round =>
    obtain ⟨j, cs, hj, rfl, hcs, F, h1, h2, h3, h4, h5, h6⟩ := hrel
    have hcl : cs.length ≤ 140737488350000 := by rw [hcs.out]; exact Nat.le_trans (pcOuts_le ps j) hl
    obtain ⟨A2, c2, rfl, hc2, hc2'⟩ := own_shape h2
    by_cases hlt : j < ps.length
    · obtain ⟨ad, rfl, _⟩ := hr.2 (by omega)
      have CE := hid (cells_at hr hlt)
      have hpo := hok _ (gp_mem ps j hlt)
      have hnl := hid (pcOuts_take ps j hlt)
      have hlen2 : (cs ++ pcOut (gp ps j)).length ≤ 140737488350000 := by
        rw [hcs.out, ← hnl.out]
        exact Nat.le_trans (pcOuts_le ps _) hl
      generalize gp ps j = q at *
      obtain ⟨k, n, s⟩ := q
      simp only at hpo CE
      by_cases hk1 : k = 1
      · have hb1 : (k == 1) = true := by simp [hk1]
        have hout : pcOut (k, n, s) = num n := by simp [pcOut, hk1]
        rw [hout] at hlen2 hnl
        have hlen2' := hlen2
        simp only [List.length_append] at hlen2'
        clear hk1 hout
        obtain ⟨hx0, hx1, hx2⟩ := CE.out wr h6
        go_wp2_with (fail)
        refine (number _ _ _ _ _ h1 hpo.1 hpo.2 (by omega)).mono ?_
        rintro e w2 ⟨rfl, F2, h1', hm2⟩
        obtain ⟨h2', h6'⟩ := Both.half (p := 0) (Nat.le_refl _) h2 h3 h4 h6 hm2
        obtain ⟨hy0, hy1, hy2⟩ := CE.out w2 h6'
        clear hx0 hx1 hx2
        go_wp2_with (fail)
        refine (Cq.number _ _ _ _ h2' hpo.1 hpo.2 (by omega)).mono ?_
        rintro e w3 ⟨v', rfl, ho3, hm3⟩
        have hB := hid (Both.step (Nat.le_refl _) h2 h3 h4 h5 h6 h1' hm2 ho3 hm3)
        clear h1 h1' h2 h2' h3 h4 h5 h6 h6' hm2 hm3 ho3 hy0 hy1 hy2
        go_wp2
        go_roundw
        case rel => exact ⟨j + 1, _, by omega, by go_num, hid (by rw [hnl.out, hcs.out]), hB.out⟩
        case measure => simp [intOf]; omega
      · have hb1 : (k == 1) = false := by simp [hk1]
        by_cases hk2 : k = 2
        · have hb2 : (k == 2) = true := by simp [hk2]
          have hwz : -9223372036854775808 ≤ wrap64 n ∧ wrap64 n ≤ 9223372036854775807 := by unfold wrap64; omega
          have hout : pcOut (k, n, s) = num (zz (wrap64 n)) := by simp [pcOut, hk2]
          rw [hout] at hlen2 hnl
          have hlen2' := hlen2
          simp only [List.length_append] at hlen2'
          clear hk1 hk2 hout
          obtain ⟨hx0, hx1, hx2⟩ := CE.out wr h6
          go_wp2_with (fail)
          refine (int_ _ _ _ _ _ h1 hwz.1 hwz.2 (by omega)).mono ?_
          rintro e w2 ⟨rfl, F2, h1', hm2⟩
          obtain ⟨h2', h6'⟩ := Both.half (p := 0) (Nat.le_refl _) h2 h3 h4 h6 hm2
          obtain ⟨hy0, hy1, hy2⟩ := CE.out w2 h6'
          clear hx0 hx1 hx2
          go_wp2_with (fail)
          refine (Cq.int_ _ _ _ _ h2' hwz.1 hwz.2 (by omega)).mono ?_
          rintro e w3 ⟨v', rfl, ho3, hm3⟩
          have hB := hid (Both.step (Nat.le_refl _) h2 h3 h4 h5 h6 h1' hm2 ho3 hm3)
          clear h1 h1' h2 h2' h3 h4 h5 h6 h6' hm2 hm3 ho3 hy0 hy1 hy2
          go_wp2
          go_roundw
          case rel => exact ⟨j + 1, _, by omega, by go_num, hid (by rw [hnl.out, hcs.out]), hB.out⟩
          case measure => simp [intOf]; omega
        · have hb2 : (k == 2) = false := by simp [hk2]
          have hout : pcOut (k, n, s) = num s.size ++ sb s := by simp [pcOut, hk1, hk2]
          rw [hout] at hlen2 hnl
          have hlen2' := hlen2
          simp only [List.length_append] at hlen2'
          clear hk1 hk2 hout
          obtain ⟨hx0, hx1, hx2⟩ := CE.out wr h6
          go_wp2_with (fail)
          refine (text_ _ _ _ _ _ h1 (by have := sb_length s; omega)).mono ?_
          rintro e w2 ⟨rfl, F2, h1', hm2⟩
          obtain ⟨h2', h6'⟩ := Both.half (p := 0) (Nat.le_refl _) h2 h3 h4 h6 hm2
          obtain ⟨hy0, hy1, hy2⟩ := CE.out w2 h6'
          clear hx0 hx1 hx2
          go_wp2_with (fail)
          refine (Cq.text_ _ _ _ _ h2' (by have := sb_length s; omega)).mono ?_
          rintro e w3 ⟨v', rfl, ho3, hm3⟩
          rw [List.append_assoc] at h1' ho3
          have hB := hid (Both.step (Nat.le_refl _) h2 h3 h4 h5 h6 h1' hm2 ho3 hm3)
          clear h1 h1' h2 h2' h3 h4 h5 h6 h6' hm2 hm3 ho3 hy0 hy1 hy2
          go_wp2
          go_roundw
          case rel => exact ⟨j + 1, _, by omega, by go_num, hid (by rw [hnl.out, hcs.out]), hB.out⟩
          case measure => simp [intOf]; omega
    · obtain rfl : j = ps.length := by omega
      obtain rfl : cs = pcOuts ps := by rw [hcs.out, List.take_length]
      go_wp2_with (fail)
      refine (bytes_ _ _ _ _ h1 (by omega)).mono ?_
      rintro e w2 ⟨v1, rfl, ho1, hb1⟩
      obtain ⟨A1, c1, rfl, hc1, hc1'⟩ := own_shape ho1
      have h2' := h2.keep (Upd.of_below No hb1) (fun k _ => no_ k)
      go_wp2
      go_ret2
      exact ⟨A1, c1, A2, c2, rfl, ⟨Rd.of_own ho1, hc1, hc1'⟩, ⟨Rd.of_own h2', hc2, hc2'⟩, h6.trans (hb1.mono h6.size)⟩
end Go.Proofs.Ytlghblpkgmajeaa.Cv
