/-
  Lists of letters as bytes: the reference's Pack.
-/
import Derived.Test.YtgbdpplnfcfhmaaPk
import Derived.Test.YtgbdpplnfcfhmaaLd
set_option linter.unusedVariables false
set_option linter.unusedSimpArgs false
namespace Go.Proofs.Ytgbdpplnfcfhmaa.Pk
open Go.RowKit Go.Proofs.Ytgbdpplnfcfhmaa Go.Proofs.Ytgbdpplnfcfhmaa.B Go.Proofs.Ytgbdpplnfcfhmaa.Cw Go.Proofs.Ytgbdpplnfcfhmaa.Lt Go.Proofs.Ytgbdpplnfcfhmaa.Ib
open Go.Proofs.Ytgbdpplnfcfhmaa.Lc (lb Wf)
open Go.Proofs.Ytgbdpplnfcfhmaa.Cm (num num_length)
open Go.Proofs.Ytgbdpplnfcfhmaa.Cq (Ob Ow)
/-- Bytes of the call's own. -/
structure Vo (w W : World) (v : Value) (bs : List Int) : Prop where
  ob : Ob W v bs
  own : ∀ k, Ow v k → w.heap.size ≤ k
  upd : Upd No w W
theorem Vo.moved {w W W' : World} {v v' : Value} {bs cs : List Int} (h : Vo w W v bs) (hw : Ob W' v' cs) (hm : Mv (Ow v) (Ow v') W W') : Vo w W' v' cs :=
  ⟨hw, fun k hk => (hm.sub k hk).elim (h.own k) fun hs => Nat.le_trans h.upd.size hs, h.upd.trans hm.upd fun i hi hf => by have := h.own i hf; omega⟩
theorem Vo.quiet {w W W' : World} {v : Value} {bs : List Int} (h : Vo w W v bs) (hu : Upd No W W') : Vo w W' v bs := ⟨h.ob.keep hu fun _ _ => no_ _, h.own, h.upd.next hu⟩
set_option maxHeartbeats 4000000 in
set_option maxRecDepth 100000 in
theorem rpack (A : Option Addr) (c : Nat) (ps : List Lv) (w : World) (hr : Rd w 4 A ps.length (pcells ps)) (hin : ∀ x ∈ ps, In w x.1 x.2) (hs : ∀ x ∈ ps, Sm x.1) (hl : ps.length ≤ 301) :
    Calls Try.prog 23 #[.slice A ps.length c] w fun e w' => PkOut w (ps.map (·.1)) e w' := by
  have HR := hid (And.intro hr (And.intro hin hs))
  have HP : Hid ((∀ j, (pkb ((ps.map (·.1)).take j)).length ≤ 10100 * 301) ∧ (ps.map (·.1)).length = ps.length) := hid ⟨fun j => by
    have h1 := pkb_le ((ps.map (·.1)).take j) fun x hx => by
      obtain ⟨z, hz, rfl⟩ := List.mem_map.1 (List.mem_of_mem_take hx)
      exact hs z hz
    rw [List.length_take, List.length_map] at h1
    omega, by simp⟩
  have HNl := hid (num_length (ps.length : Int)).2
  clear hr hin hs
  have hwn : IntKind.u64.wrap (ps.length : Int) = (ps.length : Int) := by
    rw [IntKind.wrap_u64]
    omega
  go_enter Try.func23, Try.ntmps23
  go_wp2_with (fail)
  refine Calls.mono (Cq.number (.slice none 0 0) [] (ps.length : Int) w (Ob.nil _) (by omega) (by omega) (by simp)) ?_
  rintro e w2 ⟨v2, rfl, ho2, hm2⟩
  have HO2 : Hid (Vo w w2 v2 (num (ps.length : Int))) := hid (by
    have h0 : Vo w w (.slice none 0 0) [] := ⟨Ob.nil _, fun k hk => by simp [Ow, Value.ownBlock] at hk, Upd.refl _ _⟩
    exact h0.moved ho2 hm2)
  clear ho2 hm2 hwn
  go_wp2_with (fail)
  go_loopw [4, 12] (fun v4 v12 W => ∃ (j : Nat), j ≤ ps.length ∧ v12 = .int .i64 j ∧ Hid (Vo w W v4 (num (ps.length : Int) ++ pkb ((ps.map (·.1)).take j))) ∧ Hid (∀ x ∈ (ps.map (·.1)).take j, formed x = true)) (fun _ v12 _ => ps.length - (intOf v12).toNat)
  case atStart => exact ⟨0, by omega, rfl, hid (by simpa [pkb] using HO2.out), hid fun x hx => by simp at hx⟩
  case round =>
    clear HO2
    obtain ⟨j, hj, rfl, HO, HH⟩ := hrel
    by_cases hlt : j < ps.length
    · obtain ⟨ad, rfl, x0, x1, x2, x3⟩ := Le.at4 (HR.out.1.upd (by omega) HO.out.upd fun _ _ => no_ _) hlt
      have HAt0 := hid fun W (hu : Upd No w W) => Le.at4 (HR.out.1.upd (by omega) hu fun _ _ => no_ _) hlt
      have hi := HR.out.2.1 _ (List.getElem_mem hlt)
      have hsm := HR.out.2.2 _ (List.getElem_mem hlt)
      have HT : Hid ((ps.map (·.1)).take (j + 1) = (ps.map (·.1)).take j ++ [ps[j].1] ∧ ps[j].1 ∈ ps.map (·.1)) := hid ⟨by rw [List.take_succ_eq_append_getElem (by simpa using hlt)]; simp, List.mem_map_of_mem (List.getElem_mem hlt)⟩
      generalize ps[j] = y at *
      obtain ⟨x, u⟩ := y
      obtain ⟨Au, cu, hue, hqr⟩ := hi
      simp only at hue x0 x1 x2 x3 hsm HT HAt0
      subst hue
      have HAt := HAt0
      clear HAt0
      have hIn : In w x (.slice Au x.2.2.2.length cu) := ⟨Au, cu, rfl, hqr⟩
      have HIn := hid fun W (hu : Upd No w W) => hIn.upd hu fun _ _ => no_ _
      have HSm := hid hsm
      have hj2 : (j : Int) < (ps.length : Int) := by omega
      have HF := hid fun W (hu : Upd No w W) => Ir.rformed_ x (.slice Au x.2.2.2.length cu) W (HIn.out W hu)
      unfold val at HF
      clear hqr hIn hsm
      go_wp2_with (fail)
      refine Calls.mono (HF.out _ HO.out.upd) ?_
      rintro e w7 ⟨rfl, hu7⟩
      have H7 := hid (HO.out.quiet hu7)
      obtain ⟨_, he1, x0', x1', x2', x3'⟩ := HAt.out _ H7.out.upd
      cases he1
      clear hu7 HF x0 x1 x2 x3
      rcases hfo : formed x with _ | _
      · have hall : Hid ((ps.map (·.1)).all formed = false) := hid (List.all_eq_false.2 ⟨x, HT.out.2, by rw [hfo]; simp⟩)
        clear hfo
        have hp : packL (ps.map (·.1)) = [] ∧ packC (ps.map (·.1)) = 1 := ⟨by unfold packL; rw [hall.out]; rfl, by unfold packC; rw [hall.out]; rfl⟩
        have HPp := hid hp
        clear hp
        go_wp2
        go_ret2
        exact .of ⟨none, 0, by rw [HPp.out.1, HPp.out.2]; rfl, by rw [HPp.out.1]; simp, by omega, by rw [HPp.out.1]; exact Rd.nil_ _ _ _, H7.out.upd⟩
      · have HFo := hid hfo
        clear hfo
        have hlay := Ld.lay_ u4 (num (ps.length : Int) ++ pkb ((ps.map (·.1)).take j)) x (.slice Au x.2.2.2.length cu) w7 H7.out.ob (HIn.out w7 H7.out.upd) (fun h0 k hk hf => by
          have h1 := H7.out.own k hf
          obtain ⟨Ab, cb, he, hrb, _⟩ := HIn.out w (Upd.refl _ _)
          simp only [Value.slice.injEq, true_and] at he
          obtain ⟨rfl, rfl⟩ := he
          obtain ⟨ad2, hA2, hlt2⟩ := Rd.lt hrb h0 (by omega)
          subst hA2
          have : ad2.block = k := by simpa [Value.ownBlock] using hk
          omega) HSm.out.wf (by
          have h1 := HP.out.1 j
          have h2 := HNl.out
          have h3 := HSm.out.s
          have h4 := HSm.out.a
          rw [List.length_append]
          omega)
        unfold val Cq.Post at hlay
        have HLay := hid hlay
        clear hlay
        go_wp2_with (fail)
        refine Calls.mono HLay.out ?_
        rintro e w8 ⟨v8, rfl, hw8, hm8⟩
        have HO8 : Hid (Vo w w8 v8 (num (ps.length : Int) ++ pkb ((ps.map (·.1)).take (j + 1)))) := hid (by
          have h := H7.out.moved hw8 hm8
          rw [HT.out.1]
          unfold pkb
          rw [List.flatMap_append, List.flatMap_cons, List.flatMap_nil, List.append_nil, ← List.append_assoc]
          exact h)
        clear hw8 hm8 HLay H7
        go_wp2
        go_roundw
        case rel => exact ⟨j + 1, by omega, by go_num, HO8, hid fun z hz => by
          rw [HT.out.1] at hz
          rcases List.mem_append.1 hz with hz | hz
          · exact HH.out z hz
          · obtain rfl := List.mem_singleton.1 hz
            exact HFo.out⟩
        case measure => simp [intOf]; omega
    · obtain rfl : j = ps.length := by omega
      have HA : Hid ((ps.map (·.1)).all formed = true ∧ (ps.map (·.1)).take ps.length = ps.map (·.1)) := hid (by
        have ht : (ps.map (·.1)).take ps.length = ps.map (·.1) := List.take_of_length_le (by simp)
        have h := HH.out
        rw [ht] at h
        exact ⟨List.all_eq_true.2 h, ht⟩)
      have hp : packL (ps.map (·.1)) = num (ps.length : Int) ++ pkb (ps.map (·.1)) ∧ packC (ps.map (·.1)) = 0 := ⟨by unfold packL; rw [HA.out.1, HP.out.2]; rfl, by unfold packC; rw [HA.out.1]; rfl⟩
      have HPp := hid hp
      have HO9 : Hid (Vo w wr u4 (packL (ps.map (·.1)))) := hid (by rw [hp.1]; have h := HO.out; rwa [HA.out.2] at h)
      obtain ⟨A10, c10, hu4, hc10, hcm⟩ := own_shape HO9.out.ob
      subst hu4
      have HE : Hid ((packL (ps.map (·.1))).length ≤ c10 ∧ c10 ≤ 9223372036854775807 ∧ Rn wr .u8 A10 (packL (ps.map (·.1))) ∧ Upd No w wr) := hid ⟨hc10, by simpa [maxLen] using hcm, Rd.of_own HO9.out.ob, HO9.out.upd⟩
      clear hp hc10 hcm HO HO9
      go_wp2
      go_ret2
      exact .of ⟨A10, c10, by rw [HPp.out.2]; rfl, HE.out⟩
end Go.Proofs.Ytgbdpplnfcfhmaa.Pk
