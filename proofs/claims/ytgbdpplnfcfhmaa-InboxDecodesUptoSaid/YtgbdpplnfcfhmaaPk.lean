/-
  Lists of letters as bytes: letter's Pack.
-/
import Derived.Test.YtgbdpplnfcfhmaaLz
import Derived.Test.YtgbdpplnfcfhmaaLe
set_option linter.unusedVariables false
set_option linter.unusedSimpArgs false
namespace Go.Proofs.Ytgbdpplnfcfhmaa.Pk
open Go.RowKit Go.Proofs.Ytgbdpplnfcfhmaa Go.Proofs.Ytgbdpplnfcfhmaa.B Go.Proofs.Ytgbdpplnfcfhmaa.Cw Go.Proofs.Ytgbdpplnfcfhmaa.Lt Go.Proofs.Ytgbdpplnfcfhmaa.Ib
open Go.Proofs.Ytgbdpplnfcfhmaa.Lc (lb Wf)
open Go.Proofs.Ytgbdpplnfcfhmaa.Cm (num num_length)
def pkb (xs : List L) : List Int := xs.flatMap lb
def packL (xs : List L) : List Int := if xs.all formed then num xs.length ++ pkb xs else []
def packC (xs : List L) : Int := if xs.all formed then 0 else 1
def PkOut (w : World) (xs : List L) (e : Ending) (w' : World) : Prop := ∃ A c, e = .returned (.tuple #[.slice A (packL xs).length c, .int .i64 (packC xs)]) ∧ (packL xs).length ≤ c ∧ c ≤ 9223372036854775807 ∧ Rn w' .u8 A (packL xs) ∧ Upd No w w'
theorem PkOut.of {w : World} {xs : List L} {e : Ending} {w' : World} (h : ∃ A c, e = .returned (.tuple #[.slice A (packL xs).length c, .int .i64 (packC xs)]) ∧ (packL xs).length ≤ c ∧ c ≤ 9223372036854775807 ∧ Rn w' .u8 A (packL xs) ∧ Upd No w w') : PkOut w xs e w' := h
/-- What a law lets in. -/
structure Sm (x : L) : Prop where
  s : x.1.size ≤ 1000
  a : x.2.2.2.length ≤ 1000
  wf : Wf x
theorem pkb_le (xs : List L) (h : ∀ x ∈ xs, Sm x) : (pkb xs).length ≤ 10100 * xs.length := by
  induction xs with
  | nil => simp [pkb]
  | cons x r ih =>
    have h1 := Lc.lb_le x
    have h2 := h x List.mem_cons_self
    have h3 := ih fun z hz => h z (List.mem_cons_of_mem _ hz)
    have h4 := h2.s
    have h5 := h2.a
    simp only [pkb, List.flatMap_cons, List.length_append, List.length_cons] at *
    omega
/-- A writer's progress: it is of the call's own. -/
structure Wo (w W : World) (F : Nat → Prop) (q : Nat) (bs : List Int) : Prop where
  wr : Wr W F q bs
  own : ∀ k, F k → w.heap.size ≤ k
  upd : Upd No w W
theorem Wo.moved {w W W' : World} {F F' : Nat → Prop} {q : Nat} {bs cs : List Int} (h : Wo w W F q bs) (hw : Wr W' F' q cs) (hm : Mv F F' W W') : Wo w W' F' q cs :=
  ⟨hw, fun k hk => (hm.sub k hk).elim (h.own k) fun hs => Nat.le_trans h.upd.size hs, h.upd.trans hm.upd fun i hi hf => by have := h.own i hf; omega⟩
theorem Wo.quiet {w W W' : World} {F : Nat → Prop} {q : Nat} {bs : List Int} (h : Wo w W F q bs) (hu : Upd No W W') : Wo w W' F q bs := ⟨h.wr.keep hu fun _ _ => no_ _, h.own, h.upd.next hu⟩
set_option maxHeartbeats 4000000 in
set_option maxRecDepth 100000 in
theorem pack (A : Option Addr) (c : Nat) (ps : List Lv) (w : World) (hr : Rd w 4 A ps.length (pcells ps)) (hin : ∀ x ∈ ps, In w x.1 x.2) (hs : ∀ x ∈ ps, Sm x.1) (hl : ps.length ≤ 301) :
    Calls Try.prog 31 #[.slice A ps.length c] w fun e w' => PkOut w (ps.map (·.1)) e w' := by
  have HR := hid (And.intro hr (And.intro hin hs))
  have HP : Hid ((∀ j, (pkb ((ps.map (·.1)).take j)).length ≤ 10100 * 301) ∧ (ps.map (·.1)).length = ps.length) := hid ⟨fun j => by
    have h1 := pkb_le ((ps.map (·.1)).take j) fun x hx => by
      obtain ⟨z, hz, rfl⟩ := List.mem_map.1 (List.mem_of_mem_take hx)
      exact hs z hz
    rw [List.length_take, List.length_map] at h1
    omega, by simp⟩
  have HNl := hid (num_length (ps.length : Int)).2
  clear hr hin hs
  have hwn : IntKind.u64.wrap (ps.length : Int) = (ps.length : Int) := by
    rw [IntKind.wrap_u64]
    omega
  go_enter Try.func31, Try.ntmps31
  go_wp2_with (fail)
  refine Calls.mono (newWriter w) ?_
  rintro e w1 ⟨rfl, rfl⟩
  have HW : Hid (∃ w1 q F1, w1 = w.alloc (.cells #[.slice none 0 0] 86) ∧ q = w.heap.size ∧ Wo w w1 F1 q []) := hid ⟨_, _, _, rfl, rfl, ⟨Wr.new w, fun k hk => by omega, (Upd.refl _ _).alloc _⟩⟩
  obtain ⟨w1, q, F1, hw1, hq, hO1⟩ := HW.out
  rw [← hw1, ← hq]
  have HO1 := hid hO1
  clear hw1 hq hO1 HW
  go_wp2_with (fail)
  refine Calls.mono (number q [] (ps.length : Int) F1 w1 HO1.out.wr (by omega) (by omega) (by simp)) ?_
  rintro e w2 ⟨rfl, F2, hw2, hm2⟩
  have HO2 := hid (HO1.out.moved hw2 hm2)
  rw [List.nil_append] at HO2
  clear hw2 hm2 HO1 F1 hwn
  go_wp2_with (fail)
  go_loopw [15] (fun v15 W => ∃ (j : Nat) (F' : Nat → Prop), j ≤ ps.length ∧ v15 = .int .i64 j ∧ Hid (Wo w W F' q (num (ps.length : Int) ++ pkb ((ps.map (·.1)).take j))) ∧ Hid (∀ x ∈ (ps.map (·.1)).take j, formed x = true)) (fun v15 _ => ps.length - (intOf v15).toNat)
  case atStart => exact ⟨0, F2, by omega, rfl, hid (by simpa [pkb] using HO2.out), hid fun x hx => by simp at hx⟩
  case round =>
    clear HO2
    obtain ⟨j, F', hj, rfl, HO, HH⟩ := hrel
    by_cases hlt : j < ps.length
    · obtain ⟨ad, rfl, x0, x1, x2, x3⟩ := Le.at4 (HR.out.1.upd (by omega) HO.out.upd fun _ _ => no_ _) hlt
      have hi := HR.out.2.1 _ (List.getElem_mem hlt)
      have hsm := HR.out.2.2 _ (List.getElem_mem hlt)
      have HT : Hid ((ps.map (·.1)).take (j + 1) = (ps.map (·.1)).take j ++ [ps[j].1] ∧ ps[j].1 ∈ ps.map (·.1)) := hid ⟨by rw [List.take_succ_eq_append_getElem (by simpa using hlt)]; simp, List.mem_map_of_mem (List.getElem_mem hlt)⟩
      generalize ps[j] = y at *
      obtain ⟨x, u⟩ := y
      obtain ⟨Au, cu, hue, hqr⟩ := hi
      simp only at hue x0 x1 x2 x3 hsm HT
      subst hue
      have hIn : In w x (.slice Au x.2.2.2.length cu) := ⟨Au, cu, rfl, hqr⟩
      have HIn := hid fun W (hu : Upd No w W) => hIn.upd hu fun _ _ => no_ _
      have HSm := hid hsm
      have hj2 : (j : Int) < (ps.length : Int) := by omega
      have HF := hid fun W (hu : Upd No w W) => formed_ x (.slice Au x.2.2.2.length cu) W (HIn.out W hu)
      unfold val at HF
      clear hqr hIn hsm
      go_wp2_with (fail)
      have HW : Hid (∃ w6 h6, w6 = wr.alloc (.cells #[.string x.1, .int .u64 x.2.1, .int .i64 x.2.2.1, .slice Au x.2.2.2.length cu] 30) ∧ h6 = wr.heap.size ∧ Wo w w6 F' q (num (ps.length : Int) ++ pkb ((ps.map (·.1)).take j)) ∧ Blk w6 h6 30 #[.string x.1, .int .u64 x.2.1, .int .i64 x.2.2.1, .slice Au x.2.2.2.length cu]) :=
        hid ⟨_, _, rfl, rfl, HO.out.quiet ((Upd.refl _ _).alloc _), Blk.fresh _ _ _⟩
      obtain ⟨w6, h6, hw6, hh6, hO6, hB6⟩ := HW.out
      rw [← hw6, ← hh6]
      have H6 := hid (And.intro hO6 hB6)
      clear hw6 hh6 hO6 hB6 HW x0 x1 x2 x3 HO
      refine Calls.mono (HF.out _ H6.out.1.upd) ?_
      rintro e w7 ⟨rfl, hu7⟩
      have H7 := hid (And.intro (H6.out.1.quiet hu7) (H6.out.2.upd hu7 (no_ _)))
      clear hu7 H6 HF
      rcases hfo : formed x with _ | _
      · have hall : Hid ((ps.map (·.1)).all formed = false) := hid (List.all_eq_false.2 ⟨x, HT.out.2, by rw [hfo]; simp⟩)
        clear hfo
        have hp : packL (ps.map (·.1)) = [] ∧ packC (ps.map (·.1)) = 1 := ⟨by unfold packL; rw [hall.out]; rfl, by unfold packC; rw [hall.out]; rfl⟩
        have HPp := hid hp
        clear hp
        go_wp2
        go_ret2
        exact .of ⟨none, 0, by rw [HPp.out.1, HPp.out.2]; rfl, by rw [HPp.out.1]; simp, by omega, by rw [HPp.out.1]; exact Rd.nil_ _ _ _, H7.out.1.upd⟩
      · have HFo := hid hfo
        clear hfo
        obtain ⟨y0, y1, y2, y3⟩ := box H7.out.2
        have hlay := Lc.lay_ q (num (ps.length : Int) ++ pkb ((ps.map (·.1)).take j)) x (.slice Au x.2.2.2.length cu) F' w7 H7.out.1.wr (HIn.out w7 H7.out.1.upd) (fun h0 k hk hf => by
          have h1 := H7.out.1.own k hf
          obtain ⟨Ab, cb, he, hrb, _⟩ := HIn.out w (Upd.refl _ _)
          simp only [Value.slice.injEq, true_and] at he
          obtain ⟨rfl, rfl⟩ := he
          obtain ⟨ad2, hA2, hlt2⟩ := Rd.lt hrb h0 (by omega)
          subst hA2
          have : ad2.block = k := by simpa [Value.ownBlock] using hk
          omega) HSm.out.wf (by
          have h1 := HP.out.1 j
          have h2 := HNl.out
          have h3 := HSm.out.s
          have h4 := HSm.out.a
          rw [List.length_append]
          omega)
        unfold val at hlay
        have HLay := hid hlay
        clear hlay
        go_wp2_with (fail)
        refine Calls.mono HLay.out ?_
        rintro e w8 ⟨rfl, F8, hw8, hm8⟩
        have HO8 : Hid (Wo w w8 F8 q (num (ps.length : Int) ++ pkb ((ps.map (·.1)).take (j + 1)))) := hid (by
          have h := H7.out.1.moved hw8 hm8
          rw [HT.out.1]
          unfold pkb
          rw [List.flatMap_append, List.flatMap_cons, List.flatMap_nil, List.append_nil, ← List.append_assoc]
          exact h)
        clear hw8 hm8 y0 y1 y2 y3 HLay H7
        go_wp2
        go_roundw
        case rel => exact ⟨j + 1, F8, by omega, by go_num, HO8, hid fun z hz => by
          rw [HT.out.1] at hz
          rcases List.mem_append.1 hz with hz | hz
          · exact HH.out z hz
          · obtain rfl := List.mem_singleton.1 hz
            exact HFo.out⟩
        case measure => simp [intOf]; omega
    · obtain rfl : j = ps.length := by omega
      have HA : Hid ((ps.map (·.1)).all formed = true ∧ (ps.map (·.1)).take ps.length = ps.map (·.1)) := hid (by
        have ht : (ps.map (·.1)).take ps.length = ps.map (·.1) := List.take_of_length_le (by simp)
        have h := HH.out
        rw [ht] at h
        exact ⟨List.all_eq_true.2 h, ht⟩)
      have hp : packL (ps.map (·.1)) = num (ps.length : Int) ++ pkb (ps.map (·.1)) ∧ packC (ps.map (·.1)) = 0 := ⟨by unfold packL; rw [HA.out.1, HP.out.2]; rfl, by unfold packC; rw [HA.out.1]; rfl⟩
      have HPp := hid hp
      have HO9 : Hid (Wo w wr F' q (packL (ps.map (·.1)))) := hid (by rw [hp.1]; have h := HO.out; rwa [HA.out.2] at h)
      have hlen : (packL (ps.map (·.1))).length ≤ 140737488355328 := by
        have h1 := HP.out.1 ps.length
        rw [HA.out.2] at h1
        have h2 := HNl.out
        rw [hp.1, List.length_append]
        omega
      have HBy := hid (bytes_ q (packL (ps.map (·.1))) F' wr HO9.out.wr hlen)
      clear hp hlen
      go_wp2_with (fail)
      refine Calls.mono HBy.out ?_
      rintro e w10 ⟨v, rfl, ho10, hb10⟩
      obtain ⟨A10, c10, rfl, hc10, hcm⟩ := own_shape ho10
      have HE : Hid ((packL (ps.map (·.1))).length ≤ c10 ∧ c10 ≤ 9223372036854775807 ∧ Rn w10 .u8 A10 (packL (ps.map (·.1))) ∧ Upd No w w10) := hid ⟨hc10, by simpa [maxLen] using hcm, Rd.of_own ho10, HO9.out.upd.next (Upd.of_below No hb10)⟩
      clear ho10 hb10 hc10 hcm HBy
      go_wp2
      go_ret2
      exact .of ⟨A10, c10, by rw [HPp.out.2]; rfl, HE.out⟩
end Go.Proofs.Ytgbdpplnfcfhmaa.Pk
