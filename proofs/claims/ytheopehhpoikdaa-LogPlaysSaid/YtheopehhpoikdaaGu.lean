/-
  Units of a log.
-/
import Derived.Test.YtheopehhpoikdaaGl
set_option linter.unusedVariables false
set_option linter.unusedSimpArgs false
namespace Go.Proofs.Ytheopehhpoikdaa.Gl
open Go.RowKit Go.Proofs.Ytheopehhpoikdaa.B Go.Proofs.Ytheopehhpoikdaa.Cm Go.Proofs.Ytheopehhpoikdaa.Sm Go.Proofs.Ytheopehhpoikdaa.Dk Go.Proofs.Ytheopehhpoikdaa.Gp
def UnOut (w : World) (us : List (List Int)) (e : Ending) (w' : World) : Prop := ∃ A c, e = .returned (.slice A us.length c) ∧ Uns w' (fun k => w.heap.size ≤ k) (.slice A us.length c) us ∧ Upd No w w'
theorem UnOut.of {w : World} {us : List (List Int)} {e : Ending} {w' : World} (h : ∃ A c, e = .returned (.slice A us.length c) ∧ Uns w' (fun k => w.heap.size ≤ k) (.slice A us.length c) us ∧ Upd No w w') : UnOut w us e w' := h
theorem units_nil (w : World) : Calls Try.prog 15 #[.pointer none] w fun e w' => e = .returned (.slice none 0 0) ∧ w = w' := by
  go_enter Try.func15, Try.ntmps15
  go_wp2
  go_ret
  exact ⟨rfl, rfl⟩
set_option maxHeartbeats 2000000 in
set_option maxRecDepth 100000 in
theorem units (q p : Nat) (m : Lm) (F : Nat → Prop) (w : World) (h : Lg w F q p m) (hok : m.ok) :
    Calls Try.prog 15 #[.pointer (some ⟨q, 0, none⟩)] w fun e w' => UnOut w m.us e w' := by
  obtain ⟨vu, h1, ⟨vs, hvs, hrow, hx, hv⟩, h3, h4⟩ := h
  have hlen := hok.many
  have hlong := hok.long
  obtain ⟨_, _, _, _, c4, _, _⟩ := Lg.cells h1
  obtain ⟨A, c, rfl, hc1, hc2⟩ := own_shape hrow
  have hvl : vs.length = m.us.length := by rw [← hvs]; simp
  have HR := hid (And.intro hvs (And.intro hrow hx))
  simp only [maxLen] at hc2
  rw [← hvl] at hlen
  rw [← hvs] at hlong
  have HL := hid hlong
  clear hvs hrow hx h1 hv h3 h4 hvl hok hlong
  generalize m.us = us at *
  go_enter Try.func15, Try.ntmps15
  go_wp2_with (fail)
  clear c4
  go_loopw [3, 13] (fun v3 v13 W => ∃ (j : Nat) (zs : List (List Int)), j ≤ vs.length ∧ v13 = .int .i64 j ∧ Hid (zs = us.take j) ∧ Hid (Uns W (fun k => w.heap.size ≤ k) v3 zs ∧ Upd No w W)) (fun _ v13 _ => vs.length - (intOf v13).toNat)
  case atStart => exact ⟨0, [], by omega, rfl, hid rfl, hid ⟨Uns.nil _ _, Upd.refl _ _⟩⟩
  case round =>
    obtain ⟨j, zs, hj, rfl, HZ, HW⟩ := hrel
    by_cases hlt : j < vs.length
    · have hrw := own_upd HR.out.2.1 HW.out.2 fun _ _ => no_ _
      obtain ⟨ad, y, rfl, hy1, hy2⟩ := (Rd.of_own hrw).at_ hlt
      have hmem := List.getElem_mem hlt
      have hox := HR.out.2.2 _ hmem
      have hll := HL.out _ (List.mem_map_of_mem (f := (·.1)) hmem)
      have hTk : us.take (j + 1) = us.take j ++ [vs[j].1] := by
        rw [← HR.out.1, List.take_succ_eq_append_getElem (by simpa using hlt)]
        simp
      rw [List.getElem?_map, List.getElem?_eq_getElem hlt] at hy1
      simp only [Option.map_some, Option.some.injEq] at hy1
      generalize vs[j] = x at *
      obtain ⟨l, v⟩ := x
      simp only at hy1 hll hTk
      subst hy1
      obtain ⟨Ab, cb, hve, hcb1, hcb2⟩ := own_shape hox.1
      simp only at hve hcb1
      subst hve
      have hox1 : wr.ownsRow 0 5 1 (.slice Ab l.length cb) l.length (nums .u8 l) := own_upd hox.1 HW.out.2 fun _ _ => no_ _
      have HC := hid (clone Ab l.length cb (nums .u8 l) wr (Rd.of_own hox1) (nums_one _ _) (by omega))
      have HT := hid hTk
      have hj1 : (0 : Int) ≤ (j : Int) := by omega
      have hj2 : (j : Int) < (vs.length : Int) := by omega
      clear hrw hmem hox hox1 hTk
      go_wp2_with (fail)
      refine HC.out.mono ?_
      rintro e w2 ⟨A2, c2, rfl, ho2, hu2, _⟩
      obtain ⟨ws, hws, hwr, hwx, hwv⟩ := HW.out.1.upd hu2 fun _ _ => no_ _
      have hwl : ws.length ≤ 65536 := by
        have : ws.length = zs.length := by rw [← hws]; simp
        rw [this, HZ.out, List.length_take]
        omega
      obtain ⟨A3, c3, rfl, _, _⟩ := own_shape hwr
      have hal : Upd No w2 (w2.alloc (.cells #[.slice A2 l.length c2] 31)) := (Upd.refl _ _).alloc _
      have HO := hid (And.intro hws (And.intro (own_upd hwr hal fun _ _ => no_ _) (And.intro (fun x hx => (hwx x hx).upd hal fun _ _ => no_ _) (And.intro hwv (own_upd (own_base ho2 (Nat.zero_le _)) hal fun _ _ => no_ _)))))
      have HN := hid (fun k hk => (ho2.lt k hk).1)
      have HU2 := hid (HW.out.2.next hu2)
      clear hws hwr hwx hwv ho2 hu2 hal hy2 HC
      go_wp2_with (at_builtin; go_must (refine ap_row 0 rfl (.tmp 17) (.tmp 20) 39 31 (.slice none 0 0) 1 24 rfl Try.underlying39 sl_info rfl (by omega) (.slice A3 ws.length c3) ws.length (ws.map (·.2)) (some ⟨w2.heap.size, 0, none⟩) 1 1 [.slice A2 l.length c2] rfl rfl HO.out.2.1 (Rd_lit w2 _ 1 1 _ rfl) (by intro u hu; obtain rfl := List.mem_singleton.1 hu; rfl) (by omega) (by omega) (Nat.zero_le _) ?_); intro A4 c4 w4 ho4 hg4 hat4)
      have HS : Hid (Uns w4 (fun k => w.heap.size ≤ k) (.slice A4 (ws.length + 1) c4) (zs ++ [l]) ∧ Upd No w w4) := hid (by
        have hz2 := HU2.out.size
        have hw := HW.out.2.size
        have hp := push_uns HO.out.2.2.1 HO.out.2.1 HO.out.2.2.2.1 HO.out.2.2.2.2 ho4 hg4
        rw [HO.out.1] at hp
        refine ⟨hp.mono fun k hk => ?_, ((HU2.out.alloc _).grown hg4 fun k hk => .inr (HO.out.2.2.2.1 k hk))⟩
        rcases hk with hk | hk | hk
        · exact hk
        · have := HN.out k hk; omega
        · rcases hat4 k hk with h | h
          · exact HO.out.2.2.2.1 k h
          · simp at h; omega)
      have HZ2 := hid (show zs ++ [l] = us.take (j + 1) by rw [HT.out, HZ.out])
      clear ho4 hg4 hat4
      go_wp2
      go_roundw
      case rel => exact ⟨j + 1, zs ++ [l], by omega, by go_num, HZ2, HS⟩
      case measure => simp [intOf]; omega
    · obtain rfl : j = vs.length := by omega
      have hz : zs = us := by
        rw [HZ.out]
        exact List.take_of_length_le (by rw [← HR.out.1]; simp)
      subst hz
      obtain ⟨A4, c4, hv4, _, _⟩ := HW.out.1.shape
      subst hv4
      go_wp2
      go_ret
      exact .of ⟨A4, c4, rfl, HW.out⟩
end Go.Proofs.Ytheopehhpoikdaa.Gl
