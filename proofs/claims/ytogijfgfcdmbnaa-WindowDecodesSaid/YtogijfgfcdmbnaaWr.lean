/-
  The reference's window: place, Serials, Seen, Clients, Same.
-/
import Derived.Test.YtogijfgfcdmbnaaWa
set_option linter.unusedVariables false
set_option linter.unusedSimpArgs false
namespace Go.Proofs.Ytogijfgfcdmbnaa.Ww
open Go.RowKit Go.Proofs.Ytogijfgfcdmbnaa.B Go.Proofs.Ytogijfgfcdmbnaa.Df Go.Proofs.Ytogijfgfcdmbnaa.Ws Go.Proofs.Ytogijfgfcdmbnaa.Mp Go.Proofs.Ytogijfgfcdmbnaa.Wp
/-- A client as the reference's window holds it: number, serials, the slice that holds these. -/
abbrev Rc := (Int × List Int) × Value
def pc (ps : List Rc) : List Value := ps.flatMap fun e => [.int .u64 e.1.1, e.2]
theorem pc_length (ps : List Rc) : (pc ps).length = ps.length * 2 := by
  induction ps with
  | nil => rfl
  | cons e r ih => simp only [pc, List.flatMap_cons, List.length_append, List.length_cons, List.length_nil] at ih ⊢; omega
theorem pc_append (ps qs : List Rc) : pc (ps ++ qs) = pc ps ++ pc qs := by simp [pc]
theorem pc_get (ps : List Rc) : ∀ j (h : j < ps.length), (pc ps)[j * 2]? = some (.int .u64 ps[j].1.1) ∧ (pc ps)[j * 2 + 1]? = some ps[j].2 := by
  induction ps with
  | nil => intro j h; simp at h
  | cons e r ih =>
    intro j h
    match j, h with
    | 0, _ => exact ⟨rfl, rfl⟩
    | j + 1, h =>
      have := ih j (by simpa using h)
      have e1 : ∀ k, (pc (e :: r))[k + 2]? = (pc r)[k]? := fun k => rfl
      rw [show (j + 1) * 2 = j * 2 + 2 from by omega, show j * 2 + 2 + 1 = j * 2 + 1 + 2 from by omega, e1, e1]
      simpa using this
theorem pc_drop (ps : List Rc) (k : Nat) : (pc ps).drop (k * 2) = pc (ps.drop k) := by
  induction k generalizing ps with
  | zero => simp
  | succ k ih =>
    cases ps with
    | nil => simp [pc]
    | cons e r =>
      rw [show (k + 1) * 2 = k * 2 + 2 from by omega]
      have : pc (e :: r) = .int .u64 e.1.1 :: e.2 :: pc r := rfl
      rw [this, List.drop_succ_cons, List.drop_succ_cons, ih]
      rfl
/-- The reference's window at q. -/
structure Rx (w : World) (F : Nat → Prop) (q : Nat) (ps : List Rc) (v : Value) (G : Nat → Prop) : Prop where
  blk : Blk w q 38 #[v]
  row : Sl w 0 59 2 v ps.length (pc ps)
  val : ∀ e ∈ ps, Vl w G e.2 e.1.2
  fq : F q
  fv : ∀ k, v.ownBlock = some k → F k
  fg : ∀ k, G k → F k ∧ k ≠ q
  lt : ∀ k, F k → k < w.heap.size
def Rw (w : World) (F : Nat → Prop) (q : Nat) (x : St) : Prop := ∃ ps v G, ps.map (·.1) = x ∧ Rx w F q ps v G
section
variable {w w' : World} {F H G : Nat → Prop} {q : Nat} {x : St} {ps : List Rc} {v : Value}
theorem Rx.upd (h : Rx w F q ps v G) (hu : Upd H w w') (hn : ∀ k, F k → ¬ H k) : Rx w' F q ps v G where
  blk := h.blk.upd hu (hn _ h.fq)
  row := h.row.upd hu fun g hg => hn _ (h.fv g hg)
  val := fun e he => (h.val e he).upd hu fun k hk => hn _ (h.fg k hk).1
  fq := h.fq
  fv := h.fv
  fg := h.fg
  lt := fun k hk => Nat.lt_of_lt_of_le (h.lt k hk) hu.size
theorem Rw.upd (h : Rw w F q x) (hu : Upd H w w') (hn : ∀ k, F k → ¬ H k) : Rw w' F q x := by
  obtain ⟨ps, v, G, h1, h2⟩ := h
  exact ⟨ps, v, G, h1, h2.upd hu hn⟩
theorem Rw.lt (h : Rw w F q x) : ∀ k, F k → k < w.heap.size := by
  obtain ⟨ps, v, G, h1, h2⟩ := h
  exact h2.lt
theorem rec_at {A : Option Addr} {c : Nat} (h : Sl w 0 59 2 (.slice A ps.length c) ps.length (pc ps)) {j : Nat} (hj : j < ps.length) :
    ∃ g off, A = some ⟨g, off, none⟩ ∧ w.cell? ⟨g, off + j * 2, none⟩ = some (.int .u64 ps[j].1.1) ∧ w.cell? ⟨g, off + j * 2 + 1, none⟩ = some ps[j].2 := by
  rcases h.2 with ⟨_, h⟩ | ⟨g, off, cap, cur, hv, _, hh, _, _, _, hc⟩
  · omega
  · simp only [Value.slice.injEq, true_and] at hv
    obtain ⟨rfl, rfl⟩ := hv
    obtain ⟨h1, h2⟩ := pc_get ps j hj
    exact ⟨g, off, rfl, by rw [hh.cell]; exact hc _ _ h1, by rw [hh.cell, Nat.add_assoc]; exact hc _ _ h2⟩
theorem Rw.new {o : Obj} (ho : o = .cells #[.slice none 0 0] 38) : Rw (w.alloc o) (fun k => k = w.heap.size) w.heap.size [] := by
  subst ho
  exact ⟨[], .slice none 0 0, No, rfl, Blk.fresh _ _ _, Sl.nil _ _ _ _, fun e he => (by cases he), rfl, fun k hk => by simp [Value.ownBlock] at hk, fun k hk => hk.elim, fun k hk => by subst hk; simp⟩
end
theorem sr_at {x : St} {c : Int} {j : Nat} (hj : j < x.length) (h : x[j].1 = c) (hb : ∀ i (hi : i < x.length), i < j → x[i].1 ≠ c) : sr x c = x[j].2 := by
  induction x generalizing j with
  | nil => simp at hj
  | cons e r ih =>
    rw [sr_cons]
    match j, hj with
    | 0, _ => rw [if_pos (by simpa using h)]; rfl
    | j + 1, hj =>
      rw [if_neg (show ¬ e.1 = c from hb 0 (by simp) (by omega))]
      exact ih (by simpa using hj) (by simpa using h) fun i hi hij => (show ¬ r[i].1 = c from hb (i + 1) (by simpa using hi) (by omega))
set_option maxHeartbeats 1000000 in
theorem place {w : World} {F : Nat → Prop} {q : Nat} {x : St} {r : Int} (c : Int) (h : Rw w F q x) (hl : x.length ≤ 65) (hR : Hid (IxR (fun e => decide (e.1 = c)) x r)) :
    Calls Try.prog 29 #[.pointer (some ⟨q, 0, none⟩), .int .u64 c] w fun e w' => e = .returned (.int .i64 r) ∧ w = w' := by
  obtain ⟨ps, v, G, rfl, h⟩ := h
  rw [List.length_map] at hl
  obtain ⟨A, k, rfl, hk1, hk2⟩ := h.row.shape
  have c0 := box1 h.blk
  have HRow := hid h.row
  clear h
  go_enter Try.func29, Try.ntmps29
  go_wp2_with (fail)
  go_loop [11] (fun v11 => ∃ j : Nat, j ≤ ps.length ∧ v11 = .int .i64 j ∧ Hid (∀ i (hi : i < ps.length), i < j → ps[i].1.1 ≠ c)) (fun v11 => ps.length - (intOf v11).toNat)
  case atStart => exact ⟨0, by omega, rfl, hid fun i _ h => by omega⟩
  case round =>
    obtain ⟨j, hj, rfl, hH⟩ := hrel
    by_cases hlt : j < ps.length
    · obtain ⟨g, off, rfl, d0, d1⟩ := rec_at HRow.out hlt
      have HN : Hid (¬ ps[j].1.1 = c → ∀ i (hi : i < ps.length), i < j + 1 → ps[i].1.1 ≠ c) := hid fun h i hi hij => by
        by_cases h' : i < j
        · exact hH.out i hi h'
        · obtain rfl : i = j := by omega
          exact h
      have HY : Hid (ps[j].1.1 = c → r = (j : Int)) := hid fun h => hR.out.at_ (by simpa using hlt) (by simpa using h) (fun i hi hij => by simpa using hH.out i (by simpa using hi) hij)
      have hj2 : (j : Int) < (ps.length : Int) := by omega
      clear d1
      generalize ps[j].1.1 = y at *
      by_cases hy : y = c
      · subst hy
        replace HY := hid (HY.out rfl)
        clear HN
        go_wp2
        go_ret
        exact ⟨congrArg (fun z => Ending.returned (.int .i64 z)) HY.out.symm, rfl⟩
      · replace HN := hid (HN.out hy)
        have n1 : (y == c) = false := by simp [hy]
        clear HY hy
        go_wp2
        go_round
        case rel => exact ⟨j + 1, by omega, by go_num, HN⟩
        case measure => simp [intOf]; omega
    · obtain rfl : j = ps.length := by omega
      have HY : Hid (r = -1) := hid (hR.out.end_ fun i hi _ => by simpa using hH.out i (by simpa using hi) (by simpa using hi))
      go_wp2
      go_ret
      exact ⟨congrArg (fun z => Ending.returned (.int .i64 z)) HY.out.symm, rfl⟩
set_option maxHeartbeats 1000000 in
theorem rserials {w : World} {F : Nat → Prop} {q : Nat} {x : St} (c : Int) (h : Rw w F q x) (hok : Ok x) :
    Calls Try.prog 18 #[.pointer (some ⟨q, 0, none⟩), .int .u64 c] w fun e w' => RowOut w (sr x c) e w' := by
  obtain ⟨r, hR⟩ := IxR.ex (fun e : Int × List Int => decide (e.1 = c)) x
  have HP := hid (place c h (by have := hok.len; omega) (hid hR))
  by_cases hr : r = -1
  · subst hr
    have hs : sr x c = [] := by
      rcases hR with ⟨_, h⟩ | ⟨k, _, h, _⟩
      · exact sr_none _ _ fun e he => by simpa using h e he
      · omega
    rw [hs]
    clear hs hR h
    go_enter Try.func18, Try.ntmps18
    go_wp2_with (fail)
    refine Calls.mono HP.out ?_
    rintro e w' ⟨rfl, rfl⟩
    go_wp2
    go_ret
    exact .of ⟨none, 0, rfl, World.ownsRow_nil _ _ _ _, Upd.refl _ _⟩
  · obtain ⟨j, rfl, hj, hq, hb⟩ := hR.pos hr
    have hs : sr x c = x[j].2 := sr_at hj (by simpa using hq) fun i hi hij => by simpa using hb i hi hij
    obtain ⟨ps, v, G, rfl, h⟩ := h
    rw [List.length_map] at hj
    have hv := h.val ps[j] (List.getElem_mem hj)
    have hs' : sr (ps.map (·.1)) c = ps[j].1.2 := by rw [hs]; simp
    rw [hs']
    have hl4 : ps[j].1.2.length ≤ 4 := by rw [← hs']; exact hok.sr_le c
    obtain ⟨A, k, rfl, hk1, hk2⟩ := h.row.shape
    have c0 := box1 h.blk
    obtain ⟨g, off, rfl, d0, d1⟩ := rec_at h.row hj
    obtain ⟨A2, k2, hv2, hk21, hk22, hR2, _⟩ := hv
    rw [hv2] at d1
    have hj2 : (j : Int) < (ps.length : Int) := by omega
    clear hs hs' hq hb hv2 d0 hR h hr
    have c1 : ∀ o, (w.alloc o).cell? ⟨q, 0, none⟩ = w.cell? ⟨q, 0, none⟩ := fun o => (((Upd.refl No w).alloc o).cell (p := ⟨q, 0, none⟩) (World.block_lt_of_cell? _ _ c0) (no_ _))
    have c2 : ∀ o, (w.alloc o).cell? ⟨g, off + j * 2 + 1, none⟩ = w.cell? ⟨g, off + j * 2 + 1, none⟩ := fun o => (((Upd.refl No w).alloc o).cell (p := ⟨g, off + j * 2 + 1, none⟩) (World.block_lt_of_cell? _ _ d1) (no_ _))
    rw [c0] at c1
    rw [d1] at c2
    generalize ps[j].1.2 = l at *
    go_enter Try.func18, Try.ntmps18
    go_wp2_with (fail)
    refine Calls.mono HP.out ?_
    rintro e w' ⟨rfl, rfl⟩
    go_wp2_with (at_builtin; go_must (refine ap_row w.heap.size rfl (.tmp 11) (.tmp 19) 27 22 (.int .u64 0) 1 8 rfl Try.underlying27 u64_info rfl (by omega) (.slice (some ⟨w.heap.size, 0, none⟩) 0 0) 0 [] A2 l.length k2 (nums .u64 l) rfl rfl (World.ownsRow_made w #[] 0 (Nat.le_refl _) (Nat.zero_le _) rfl) (Rd.alloc hR2 (by omega) _) (nums_one _ _) (by omega) (by omega) (by simp) ?_); intro A1 c1 w1 ho hg hat; rw [Nat.zero_add, List.nil_append] at ho; rw [Nat.zero_add])
    go_wp2
    go_ret
    refine .of ⟨A1, c1, rfl, ho, ?_⟩
    have h5 : Upd No w (w.alloc (.cells #[] 22)) := (Upd.refl _ _).alloc _
    exact h5.grown hg fun k hk => by
      have : w.heap.size = k := by simpa [Value.ownBlock] using hk
      exact .inr (by omega)
set_option maxHeartbeats 1000000 in
theorem rseen {w : World} {F : Nat → Prop} {q : Nat} {x : St} (c s : Int) (h : Rw w F q x) (hok : Ok x) :
    Calls Try.prog 17 #[.pointer (some ⟨q, 0, none⟩), .int .u64 c, .int .u64 s] w fun e w' => e = .returned (.bool (decide (s ∈ sr x c))) ∧ Upd No w w' := by
  have HS := hid (rserials c h hok)
  have hl4 := hok.sr_le c
  generalize sr x c = l at *
  clear h
  go_enter Try.func17, Try.ntmps17
  go_wp2_with (fail)
  refine Calls.mono HS.out ?_
  rintro e w1 ⟨A, k, rfl, ho, hu⟩
  have hR := Rd.of_own ho
  have HU := hid hu
  clear ho hu HS
  go_wp2_with (fail)
  go_loop [14] (fun v14 => ∃ j : Nat, j ≤ l.length ∧ v14 = .int .i64 j ∧ Hid (∀ i (hi : i < l.length), i < j → l[i] ≠ s)) (fun v14 => l.length - (intOf v14).toNat)
  case atStart => exact ⟨0, by omega, rfl, hid fun i _ h => by omega⟩
  case round =>
    obtain ⟨j, hj, rfl, hH⟩ := hrel
    by_cases hlt : j < l.length
    · obtain ⟨ad, u, rfl, hu, hc⟩ := hR.at_ hlt
      rw [nums, List.getElem?_map, List.getElem?_eq_getElem hlt] at hu
      simp only [Option.map_some, Option.some.injEq] at hu
      subst hu
      have HN : Hid (¬ l[j] = s → ∀ i (hi : i < l.length), i < j + 1 → l[i] ≠ s) := hid fun h i hi hij => by
        by_cases h' : i < j
        · exact hH.out i hi h'
        · obtain rfl : i = j := by omega
          exact h
      have HY : Hid (l[j] = s → decide (s ∈ l) = true) := hid fun h => decide_eq_true (h ▸ List.getElem_mem hlt)
      have hj2 : (j : Int) < (l.length : Int) := by omega
      generalize l[j] = y at *
      by_cases hy : y = s
      · subst hy
        replace HY := hid (HY.out rfl)
        clear HN
        go_wp2
        go_ret
        exact ⟨congrArg (fun z => Ending.returned (.bool z)) HY.out.symm, HU.out⟩
      · replace HN := hid (HN.out hy)
        have n1 : (y == s) = false := by simp [hy]
        clear HY hy
        go_wp2
        go_round
        case rel => exact ⟨j + 1, by omega, by go_num, HN⟩
        case measure => simp [intOf]; omega
    · obtain rfl : j = l.length := by omega
      have HY : Hid (decide (s ∈ l) = false) := hid (decide_eq_false fun h => by
        obtain ⟨i, hi, e⟩ := List.getElem_of_mem h
        exact hH.out i hi hi e)
      go_wp2
      go_ret
      exact ⟨congrArg (fun z => Ending.returned (.bool z)) HY.out.symm, HU.out⟩
end Go.Proofs.Ytogijfgfcdmbnaa.Ww
