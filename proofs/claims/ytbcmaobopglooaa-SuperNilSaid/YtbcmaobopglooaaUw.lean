/-
  A record and its disk behind Saves (plain); the pair of them; reevelaw06.awake.
-/
import Derived.Test.YtbcmaobopglooaaUs
set_option linter.unusedVariables false
set_option linter.unusedSimpArgs false
namespace Go.Proofs.Ytbcmaobopglooaa.Up
open Go.RowKit Go.Proofs.Ytbcmaobopglooaa.B Go.Proofs.Ytbcmaobopglooaa.Cm Go.Proofs.Ytbcmaobopglooaa.Sm Go.Proofs.Ytbcmaobopglooaa.Dk
/-- The record behind the Saves of ps, and its disk. -/
def mOf (ps : List (List Int)) : Su := ⟨(ps.length : Int), ps.getLastD [], false⟩
def dOf (nb : Nat) (ps : List (List Int)) : Dm := ⟨nb, logOf ps 0, -1, false⟩
structure Vd (nb : Nat) (ps : List (List Int)) : Prop where
  n2 : 2 ≤ nb
  n6 : nb ≤ 65536
  few : ps.length ≤ 1000
  len : ∀ u ∈ ps, u.length ≤ 200
  byt : ∀ u ∈ ps, Byte u
theorem last_mem_or (ps : List (List Int)) : ps.getLastD [] = [] ∨ ps.getLastD [] ∈ ps := by
  rcases List.eq_nil_or_concat ps with rfl | ⟨qs, u, rfl⟩
  · exact .inl rfl
  · right
    rw [List.concat_eq_append, List.getLastD_eq_getLast?]
    simp
theorem getLastD_snoc (ps : List (List Int)) (u : List Int) : (ps ++ [u]).getLastD [] = u := by rw [List.getLastD_eq_getLast?]; simp
theorem Vd.ok {nb : Nat} {ps : List (List Int)} (h : Vd nb ps) : (mOf ps).ok := by
  refine ⟨⟨?_, ?_⟩, ?_, ?_⟩
  · simp only [mOf]; omega
  · have := h.few; simp only [mOf]; omega
  · simp only [mOf]
    rcases last_mem_or ps with e | e
    · rw [e]; simp
    · have := h.len _ e; omega
  · simp only [mOf]
    rcases last_mem_or ps with e | e
    · rw [e]; exact fun c hc => (by cases hc)
    · exact h.byt _ e
theorem Vd.dok {nb : Nat} {ps : List (List Int)} (h : Vd nb ps) : (dOf nb ps).ok := ⟨by simp [dOf], by simp [dOf], h.n6⟩
theorem Vd.logl {nb : Nat} {ps : List (List Int)} (h : Vd nb ps) : (dOf nb ps).log.length = ps.length := logOf_length ps 0
theorem logOf_mem {x : Nat × List Int} : ∀ {ps : List (List Int)} {n : Nat}, x ∈ logOf ps n → ∃ u ∈ ps, ∃ k : Nat, n < k ∧ k ≤ n + ps.length ∧ x = (k % 2, sb (k : Int) u)
  | [], _, h => by cases h
  | u :: t, n, h => by
    simp only [logOf, List.mem_cons] at h
    rcases h with rfl | h
    · exact ⟨u, by simp, n + 1, by omega, by rw [List.length_cons]; omega, rfl⟩
    · obtain ⟨v, hv, k, h1, h2, h3⟩ := logOf_mem h
      exact ⟨v, by simp [hv], k, by omega, by rw [List.length_cons]; omega, h3⟩
theorem sb_ok {g : Int} {u : List Int} (hg : 0 ≤ g) (hl : u.length ≤ 200) (hb : Byte u) : (sb g u).length = 256 ∧ Byte (sb g u) := by
  have h1 := sb_len (g := g) hl
  exact ⟨sealed_length _ _ _ h1, sealed_bytes _ _ _ (by omega) h1 fun x hx => by
    rcases List.mem_append.1 hx with hx | hx
    · exact Cp.num_byte g hg x hx
    · exact hb x hx⟩
theorem Vd.fit {nb : Nat} {ps : List (List Int)} (h : Vd nb ps) : Fit (dOf nb ps) := by
  intro x hx
  obtain ⟨u, hu, k, h1, h2, rfl⟩ := logOf_mem hx
  exact sb_ok (by omega) (h.len u hu) (h.byt u hu)
theorem Vd.at_ {nb : Nat} {ps : List (List Int)} (h : Vd nb ps) : ∀ x ∈ (dOf nb ps).log, x.1 < (dOf nb ps).nb := by
  intro x hx
  obtain ⟨u, hu, k, h1, h2, rfl⟩ := logOf_mem hx
  have := h.n2
  simp only [dOf]
  omega
theorem Vd.new {nb : Nat} (h1 : 2 ≤ nb) (h2 : nb ≤ 65536) : Vd nb [] := ⟨h1, h2, by simp, fun u hu => (by cases hu), fun u hu => (by cases hu)⟩
theorem Vd.add {nb : Nat} {ps : List (List Int)} (h : Vd nb ps) {u : List Int} (hf : ps.length + 1 ≤ 1000) (hl : u.length ≤ 200) (hb : Byte u) : Vd nb (ps ++ [u]) := by
  refine ⟨h.n2, h.n6, by rw [List.length_append]; exact hf, fun v hv => ?_, fun v hv => ?_⟩
  · rcases List.mem_append.1 hv with hv | hv
    · exact h.len v hv
    · obtain rfl := List.mem_singleton.1 hv
      exact hl
  · rcases List.mem_append.1 hv with hv | hv
    · exact h.byt v hv
    · obtain rfl := List.mem_singleton.1 hv
      exact hb
theorem Vd.take {nb : Nat} {ps : List (List Int)} (h : Vd nb ps) (k : Nat) : Vd nb (ps.take k) :=
  ⟨h.n2, h.n6, by have := h.few; rw [List.length_take]; omega, fun u hu => h.len u (List.mem_of_mem_take hu), fun u hu => h.byt u (List.mem_of_mem_take hu)⟩
theorem Vd.opens {nb : Nat} {ps : List (List Int)} (h : Vd nb ps) : opS (dOf nb ps) = (0, some (mOf ps)) := by
  have h1 := open_log ps h.len (by have := h.few; omega)
  have h2 := h.n2
  unfold opS
  rw [if_neg (by simp only [dOf]; omega), if_neg (by simp [dOf])]
  have e : frm (bk (dOf nb ps).log) 2 0 (0, []) = ((ps.length : Int), ps.getLastD []) := h1
  rw [e]
  rfl
theorem cut_of {nb : Nat} (ps : List (List Int)) (k : Nat) : cutD (dOf nb ps) k = dOf nb (ps.take k) := by
  simp only [cutD, dOf, logOf_take]
theorem Vd.wr {nb : Nat} {ps : List (List Int)} (h : Vd nb ps) {u : List Int} (hl : u.length ≤ 200) (hb : Byte u) : (dOf nb ps).wr (((mOf ps).gen + 1) % 2) (sb ((mOf ps).gen + 1) u) = (0, dOf nb (ps ++ [u])) := by
  have hn := h.n2
  have e1 : ((mOf ps).gen + 1) % 2 = (((ps.length + 1) % 2 : Nat) : Int) := by simp only [mOf]; omega
  have e2 : (mOf ps).gen + 1 = ((ps.length + 1 : Nat) : Int) := by simp only [mOf]; omega
  have h3 := (sb_ok (g := ((ps.length + 1 : Nat) : Int)) (by omega) hl hb).1
  rw [e1, e2]
  unfold dOf
  rw [wr_ok nb (logOf ps 0) (-1) _ _ (by omega) h3 (by decide), logOf_snoc, if_neg (by decide)]
  simp
theorem Vd.saves {nb : Nat} {ps : List (List Int)} (h : Vd nb ps) {u : List Int} (hb : Byte u) : (mOf ps).sv (dOf nb ps) u = if 200 < u.length then (4, dOf nb ps, mOf ps) else (0, dOf nb (ps ++ [u]), mOf (ps ++ [u])) := by
  unfold Su.sv
  by_cases hl : 200 < u.length
  · rw [if_pos hl, if_pos hl]
  · rw [if_neg hl, if_neg hl, if_neg (by simp [mOf]), h.wr (by omega) hb, if_pos rfl]
    simp [mOf, getLastD_snoc]
theorem Vd.written {nb : Nat} {ps : List (List Int)} (h : Vd nb ps) (u : List Int) : (dOf nb (ps ++ [u])).at_ (ps.length : Int) = (((ps.length + 1) % 2 : Nat) : Int) := by
  unfold Dm.at_ dOf
  have hl : (logOf (ps ++ [u]) 0).length = ps.length + 1 := by rw [logOf_length]; simp
  rw [if_neg (by simp only [hl]; omega), Int.toNat_natCast, logOf_snoc]
  have e : (logOf ps 0 ++ [((0 + ps.length + 1) % 2, sb ((0 + ps.length + 1 : Nat) : Int) u)]).getD ps.length (0, []) = ((0 + ps.length + 1) % 2, sb ((0 + ps.length + 1 : Nat) : Int) u) := by
    have := logOf_length ps 0
    rw [List.getD_eq_getElem?_getD, List.getElem?_append_right (by omega), this]
    simp
  rw [e]
  simp
/-! ### the pair -/
/-- The record at q holds m, its disk at p holds d; both are the call's own. -/
structure Pr (w W : World) (F D : Nat → Prop) (q p : Nat) (m : Su) (d : Dm) : Prop where
  sp : Sp W F q p m
  dk : Dk W D p d
  fd : ∀ k, F k → ¬ D k
  own : ∀ k, (F k ∨ D k) → w.heap.size ≤ k
  bel : Below w.heap.size w W
section
variable {w W W' : World} {F D : Nat → Prop} {q p : Nat} {m m' : Su} {d d' : Dm}
theorem Pr.quiet (h : Pr w W F D q p m d) (hu : Upd No W W') : Pr w W' F D q p m d :=
  ⟨h.sp.upd hu fun _ _ => no_ _, h.dk.upd hu fun _ _ => no_ _, h.fd, h.own, h.bel.trans (hu.old h.bel.size)⟩
theorem Pr.moved (h : Pr w W F D q p m d) (ha : Ap W W' F D q p m' d') : ∃ F' D', Pr w W' F' D' q p m' d' ∧ ∀ k, (F' k ∨ D' k) → (F k ∨ D k) ∨ W.heap.size ≤ k := by
  obtain ⟨⟨F', D', h1, h2, h3, h4, h5⟩, hu⟩ := ha
  refine ⟨F', D', ⟨h1, h2, h5, fun k hk => ?_, h.bel.trans (hu.below h.bel.size h.own)⟩, fun k hk => ?_⟩
  · have := h.bel.size
    rcases hk with hk | hk
    · exact (h3 k hk).elim (fun h' => h.own k (.inl h')) fun h' => by omega
    · exact (h4 k hk).elim (fun h' => h.own k (.inr h')) fun h' => by omega
  · rcases hk with hk | hk
    · exact (h3 k hk).imp .inl id
    · exact (h4 k hk).imp .inr id
end
/-- A disk alone. -/
structure Pd (w W : World) (D : Nat → Prop) (p : Nat) (d : Dm) : Prop where
  dk : Dk W D p d
  own : ∀ k, D k → w.heap.size ≤ k
  bel : Below w.heap.size w W
theorem Pd.opened {w W W' : World} {D F : Nat → Prop} {q p : Nat} {m : Su} {d : Dm} (h : Pd w W D p d) (hl : Sp W' F q p m) (hF : ∀ k, F k → W.heap.size ≤ k) (hu : Upd No W W') : Pr w W' F D q p m d :=
  ⟨hl, h.dk.upd hu fun _ _ => no_ _, fun k hk hd => by have := hF k hk; have := h.dk.lt k hd; omega, fun k hk => by
    have := h.bel.size
    rcases hk with hk | hk
    · have := hF k hk; omega
    · exact h.own k hk, h.bel.trans (hu.old h.bel.size)⟩
theorem Pr.disk {w W : World} {F D : Nat → Prop} {q p : Nat} {m : Su} {d : Dm} (h : Pr w W F D q p m d) : Pd w W D p d := ⟨h.dk, fun k hk => h.own k (.inr hk), h.bel⟩
theorem new_disk (n : Nat) (w W : World) (hb : Below w.heap.size w W) (hn : n ≤ 65536) : Calls Try.prog 9 #[.int .i64 n] W fun e w' => ∃ p D, e = .returned (.pointer (some ⟨p, 0, none⟩)) ∧ Pd w w' D p ⟨n, [], -1, false⟩ := by
  have h := new_ n W
  rw [show (min (max (n : Int) 0) 65536).toNat = n from by omega] at h
  refine h.mono ?_
  rintro e w' ⟨p, D, rfl, h1, h2, h3⟩
  exact ⟨p, D, rfl, h1, fun k hk => Nat.le_trans hb.size (h3 k hk), hb.trans (h2.mono hb.size)⟩
/-- Open, of a disk behind Saves. -/
theorem open_pd {nb : Nat} {ps : List (List Int)} {w W : World} {D : Nat → Prop} {p : Nat} (h : Pd w W D p (dOf nb ps)) (hv : Vd nb ps) :
    Calls Try.prog 8 #[.pointer (some ⟨p, 0, none⟩)] W fun e w' => ∃ q F, e = .returned (.tuple #[.pointer (some ⟨q, 0, none⟩), .int .i64 0]) ∧ Pr w w' F D q p (mOf ps) (dOf nb ps) ∧ (∀ k, F k → W.heap.size ≤ k) ∧ Upd No W w' := by
  have h1 := open_ p (dOf nb ps) D W h.dk hv.dok hv.fit
  rw [hv.opens] at h1
  refine h1.mono ?_
  rintro e w' ⟨q, F, rfl, hl, _, hF, hu⟩
  exact ⟨q, F, rfl, h.opened hl hF hu, hF, hu⟩
/-- Save, behind Saves. -/
theorem save_pr {w W : World} {F D : Nat → Prop} {q p nb : Nat} {ps : List (List Int)} (h : Pr w W F D q p (mOf ps) (dOf nb ps)) (hv : Vd nb ps) {A : Option Addr} {c : Nat} {u : List Int} (hr : Rn W .u8 A u) (hc : u.length ≤ c ∧ c ≤ 9223372036854775807)
    (hA : 0 < u.length → ∀ ad, A = some ad → ¬ D ad.block ∧ ¬ F ad.block) (hby : Byte u) :
    Calls Try.prog 10 #[.pointer (some ⟨q, 0, none⟩), .slice A u.length c] W fun e w' =>
      e = .returned (.int .i64 ((mOf ps).sv (dOf nb ps) u).1) ∧ ∃ F' D', Pr w w' F' D' q p ((mOf ps).sv (dOf nb ps) u).2.2 ((mOf ps).sv (dOf nb ps) u).2.1 ∧ Upd (fun k => F k ∨ D k) W w' :=
  (save q p (mOf ps) (dOf nb ps) F D A c u W h.sp h.dk h.fd hr hc hA hby hv.ok (by have := hv.few; simp only [mOf]; omega) hv.dok (by rw [hv.logl]; have := hv.few; omega)).mono fun e w' h2 => by
    obtain ⟨F', D', h3, h4⟩ := h.moved h2.2
    exact ⟨h2.1, F', D', h3, h2.2.2⟩
set_option maxHeartbeats 2000000 in
set_option maxRecDepth 100000 in
theorem awake (w : World) : Calls Try.prog 7 #[] w fun e w' => e = .returned (.bool true) ∧ Below w.heap.size w w' := by
  have kc := fun (w : World) (C : Array Value) (n c : Nat) => Lib.run_convert_bytes_const (P := Try.prog) w 22 5 C n c Try.underlying22 Try.underlying5
  have hb97 : Byte [97] := fun c hc => by obtain rfl := List.mem_singleton.1 hc; omega
  have HV0 := hid (Vd.new (nb := 2) (by omega) (by omega))
  have HV1 := hid (HV0.out.add (u := [97]) (by simp) (by simp) hb97)
  have HSv := hid (HV0.out.saves hb97)
  rw [if_neg (by simp)] at HSv
  have HND := hid (new_disk 2 w w (Below.refl _ _) (by omega))
  go_enter Try.func7, Try.ntmps7
  go_wp2_with (fail)
  refine HND.out.mono ?_
  rintro e w1 ⟨p, D, rfl, hd1⟩
  have HO := hid (open_pd (nb := 2) (ps := []) hd1 HV0.out)
  clear hd1 HND
  go_wp2_with (fail)
  refine HO.out.mono ?_
  rintro e w2 ⟨q, F, rfl, hp2, _, _⟩
  have HP2 := hid hp2
  clear hp2 HO
  have hA := save_pr (HP2.out.quiet ((Upd.refl No w2).alloc (.cells (nums .u8 [97]).toArray 5 (1, 2)))) HV0.out (A := some ⟨w2.heap.size, 0, none⟩) (c := 1) (Rn.litm w2 .u8 5 (1, 2) [97]) (by simp) (fun _ ad e => by
    injection e with e
    subst e
    exact ⟨fun h => by have := HP2.out.dk.lt _ h; simp at this, fun h => by have := HP2.out.sp.lt _ h; simp at this⟩) hb97
  rw [HSv.out] at hA
  have HA := hid hA
  have hm : (mOf ([] ++ [[97]])).gen = 1 ∧ (mOf ([] ++ [[97]])).pay = [97] := ⟨rfl, rfl⟩
  have HM := hid hm
  have HOk := hid HV1.out.ok
  generalize mOf ([] ++ [[97]]) = m1 at *
  clear hA hm hb97
  go_wp2_with (fail)
  refine HA.out.mono ?_
  rintro e w3 ⟨rfl, F3, D3, hp3, _⟩
  have HP3 := hid hp3
  have HG := hid (generation w3 F3 q p m1 hp3.sp)
  rw [HM.out.1] at HG
  have HPy := hid (payload w3 F3 q p m1 hp3.sp HOk.out)
  rw [HM.out.2] at HPy
  unfold NewB at HPy
  clear hp3 HA
  go_wp2_with (fail)
  refine HG.out.mono ?_
  rintro e w4 ⟨rfl, rfl⟩
  go_wp2_with (fail)
  refine HPy.out.mono ?_
  rintro e w4 ⟨A4, c4, rfl, ho4, hu4⟩
  have hc4 := conv_str (P := Try.prog) (Rn_of_own ho4) 22 9 5 c4 Try.underlying22 Try.underlying5 Try.underlying9
  have HB := hid (HP3.out.quiet hu4).bel
  have hc5 : (convert 22 9 (.slice A4 1 c4)).run Try.prog w4 = .ok (.string ⟨#[97]⟩) w4 := hc4
  clear hu4 ho4 hc4
  go_wp2
  go_ret
  exact ⟨rfl, HB.out⟩
end Go.Proofs.Ytbcmaobopglooaa.Up
