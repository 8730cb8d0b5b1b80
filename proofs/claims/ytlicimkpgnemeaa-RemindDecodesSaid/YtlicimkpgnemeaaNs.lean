/-
  Serve and All of package remind.
-/
import Derived.Test.YtlicimkpgnemeaaNo
set_option linter.unusedVariables false
set_option linter.unusedSimpArgs false
namespace Go.Proofs.Ytlicimkpgnemeaa.Nd
open Go.RowKit Go.Proofs.Ytlicimkpgnemeaa.B Go.Proofs.Ytlicimkpgnemeaa.Op
def ServeOut (q : Nat) (F : Nat → Prop) (o : Option Rm × List Rm) (w : World) (e : Ending) (w' : World) : Prop := e = .returned (tell o.1) ∧ ∃ F', Qo w' F' q o.2 ∧ Mv F F' w w'
theorem ServeOut.of {q : Nat} {F : Nat → Prop} {o : Option Rm × List Rm} {w : World} {e : Ending} {w' : World} (h : e = .returned (tell o.1) ∧ ∃ F', Qo w' F' q o.2 ∧ Mv F F' w w') : ServeOut q F o w e w' := h
set_option maxHeartbeats 2000000 in
set_option maxRecDepth 100000 in
theorem serve_none (q : Nat) (F : Nat → Prop) (l : List Rm) (now : Int) (w : World) (h : Qo w F q l) (hl : l.length ≤ 1000) (hd : dueR l now = none) :
    Calls Try.prog 13 #[.pointer (some ⟨q, 0, none⟩), .int .i64 now] w fun e w' => e = .returned (tell none) ∧ Upd No w w' := by
  have hu1 : Upd No w (w.alloc (.cells #[.string ⟨#[]⟩, .string ⟨#[]⟩, .int .i64 0, .int .i64 0, .int .i64 0] 30)) := (Upd.refl _ _).alloc _
  have hb1 := Blk.fresh w 30 #[.string ⟨#[]⟩, .string ⟨#[]⟩, .int .i64 0, .int .i64 0, .int .i64 0]
  have hdu := due_ q F l now _ (h.quiet hu1) hl
  rw [hd] at hdu
  simp only [tell, rv, zr, Option.getD_none, Option.isSome_none] at hdu
  have HD := hid hdu
  have HU1 := hid hu1
  have HB1 := hid hb1
  clear hdu hu1 hb1 h
  go_enter Try.func13, Try.ntmps13
  go_wp2_with (fail)
  refine HD.out.mono ?_
  rintro e w2 ⟨rfl, hu2⟩
  have HU3 : Hid (Upd No w (w2.alloc (.cells #[.string ⟨#[]⟩, .string ⟨#[]⟩, .int .i64 0, .int .i64 0, .int .i64 0] 30))) := hid ((HU1.out.next hu2).alloc _)
  have hb3 : Blk (w2.alloc (.cells #[.string ⟨#[]⟩, .string ⟨#[]⟩, .int .i64 0, .int .i64 0, .int .i64 0] 30)) w.heap.size 30 #[.string ⟨#[]⟩, .string ⟨#[]⟩, .int .i64 0, .int .i64 0, .int .i64 0] := (HB1.out.upd hu2 (no_ _)).alloc _
  obtain ⟨y0, y1, y2, y3, y4⟩ := box5 hb3
  have g0 := hb3.free 0
  have g1 := hb3.free 1
  have g2 := hb3.free 2
  have g3 := hb3.free 3
  have g4 := hb3.free 4
  have HB5 := hid (put5_blk hb3 zr)
  have HU5 := hid (put5_new HU3.out (Nat.le_refl _) zr)
  clear hu2 hb3
  go_wp2
  simp only [put5, zr] at HB5 HU5
  obtain ⟨q0, q1, q2, q3, q4⟩ := box5 HB5.out
  exact bodyPost_ret (v := tell none) (by simp [results, go_sem, q0, q1, q2, q3, q4, tell, rv, zr]) rfl ⟨rfl, HU5.out⟩
set_option maxHeartbeats 1000000 in
set_option maxRecDepth 100000 in
theorem serve_some (q : Nat) (F : Nat → Prop) (r : Rm) (t : List Rm) (now : Int) (w : World) (h : Qo w F q (r :: t)) (hi : Inv (r :: t)) (hd : dueR (r :: t) now = some r) :
    Calls Try.prog 13 #[.pointer (some ⟨q, 0, none⟩), .int .i64 now] w fun e w' => ServeOut q F (some r, nextR (r :: t) r) w e w' := by
  have hu1 : Upd No w (w.alloc (.cells #[.string ⟨#[]⟩, .string ⟨#[]⟩, .int .i64 0, .int .i64 0, .int .i64 0] 30)) := (Upd.refl _ _).alloc _
  have hb1 := Blk.fresh w 30 #[.string ⟨#[]⟩, .string ⟨#[]⟩, .int .i64 0, .int .i64 0, .int .i64 0]
  have hlen := hi.len
  have hdu := due_ q F (r :: t) now _ (h.quiet hu1) (by omega)
  rw [hd] at hdu
  simp only [tell, rv, Option.getD_some, Option.isSome_some] at hdu
  have HD := hid hdu
  have HU1 := hid hu1
  have HB1 := hid hb1
  have HQ := hid h
  have hor := (hi.ok r List.mem_cons_self)
  obtain ⟨hr1, hr2, _, _, _⟩ := hor.r
  have hr3 := hor.d.2
  have hr4 := hor.p.2
  have hdel : del r.actor r.name (r :: t) = t := del_head hi.unq
  have HN : Hid (nextR (r :: t) r = if r.due + r.per ≤ 9223372036854775807 then ins t { r with due := r.due + r.per } else t) := hid (by unfold nextR; rw [hdel])
  have hit : Inv t := hi.sub (List.sublist_cons_self _ _)
  have HIt := hid hit
  have HLy := hid fun (W : World) (G : Nat → Prop) (x : Rm) (hq : Qo W G q t) => lay_ q G t x W hq hit.srt (by have := hit.len; omega)
  have hN1 : (r :: t).length = t.length + 1 := rfl
  have HDc := hid fun (W : World) (hq : Qo W F q (r :: t)) => del_call hq (i := 0) (N1 := t.length) (by rw [hN1]; omega) hN1 (by omega)
  obtain ⟨N, hNl⟩ : ∃ N, (r :: t).length = N := ⟨_, rfl⟩
  clear hdu hu1 hb1 h hi hd hdel hor hit hlen hN1
  obtain ⟨ac, an, du, ap, ak⟩ := r
  unfold rv at HLy
  simp only at HD hr1 hr2 hr3 hr4 HN ⊢
  go_enter Try.func13, Try.ntmps13
  go_wp2_with (fail)
  refine HD.out.mono ?_
  rintro e w2 ⟨rfl, hu2⟩
  obtain ⟨w3, hw3⟩ : ∃ w3, w3 = w2.alloc (.cells #[.string ac, .string an, .int .i64 du, .int .i64 ap, .int .i64 ak] 30) := ⟨_, rfl⟩
  have hu3 : Upd No w w3 := by rw [hw3]; exact (HU1.out.next hu2).alloc _
  have hb3 : Blk w3 w.heap.size 30 #[.string ⟨#[]⟩, .string ⟨#[]⟩, .int .i64 0, .int .i64 0, .int .i64 0] := by rw [hw3]; exact (HB1.out.upd hu2 (no_ _)).alloc _
  obtain ⟨p4, hp4⟩ : ∃ p4, p4 = w.heap.size := ⟨_, rfl⟩
  obtain ⟨p6, hp6⟩ : ∃ p6, p6 = w2.heap.size := ⟨_, rfl⟩
  have hc3 : Blk w3 p6 30 #[.string ac, .string an, .int .i64 du, .int .i64 ap, .int .i64 ak] := by rw [hw3, hp6]; exact Blk.fresh _ _ _
  rw [← hp4] at hb3 ⊢
  have hq3 := HQ.out.quiet hu3
  obtain ⟨g, c, hcq, hdc⟩ := HDc.out w3 hq3
  rw [hNl] at hcq hdc
  rw [hw3] at hcq
  have hs2 := (HU1.out.next hu2).size
  have HP : Hid (∀ k, F k → k ≠ p4 ∧ k ≠ p6) := hid fun k hk => by have := HQ.out.lt k hk; omega
  have HP2 : Hid (w.heap.size ≤ p4 ∧ w.heap.size ≤ p6 ∧ p4 ≠ p6) := hid ⟨by omega, by omega, fun e => by
    have := HU1.out.next hu2
    have h1 := (HB1.out.upd hu2 (no_ _)).lt
    omega⟩
  have HD3 : Hid (Calls Try.prog 27 #[.slice (some ⟨g, 0, none⟩) N c, .int .i64 0, .int .i64 1] w3 (DelPost w3 F q g c t.length t)) := hid hdc
  have HU3 := hid hu3
  have HB3 := hid hb3
  have HC3 := hid hc3
  unfold DelPost at HD3
  clear hu3 hb3 hc3 hq3 hdc hs2 hu2 HDc HB1 HD hNl
  go_wp2_with (fail)
  try rw [← hw3]
  try rw [← hp4]
  try rw [← hp6]
  clear hcq hw3 hp4 hp6
  refine HD3.out.mono ?_
  rintro e w4 ⟨rfl, ⟨v4, hv4⟩, hf4, F5, hq5, hm5⟩
  have hb5 : Blk (w4.setCell ⟨q, 0, none⟩ (.slice (some ⟨g, 0, none⟩) t.length c)) p4 30 #[.string ⟨#[]⟩, .string ⟨#[]⟩, .int .i64 0, .int .i64 0, .int .i64 0] := HB3.out.upd hm5.upd fun hk => (HP.out p4 hk).1 rfl
  have hc5 : Blk (w4.setCell ⟨q, 0, none⟩ (.slice (some ⟨g, 0, none⟩) t.length c)) p6 30 #[.string ac, .string an, .int .i64 du, .int .i64 ap, .int .i64 ak] := HC3.out.upd hm5.upd fun hk => (HP.out p6 hk).2 rfl
  have HP5 : Hid (∀ k, F5 k → k ≠ p4 ∧ k ≠ p6) := hid fun k hk => by
    rcases hm5.sub k hk with h | h
    · exact HP.out k h
    · have h1 := HB3.out.lt
      have h2 := HC3.out.lt
      omega
  have HM5 := hid (Mv.box HU3.out hm5)
  have HQ5 := hid hq5
  have HB5 := hid hb5
  have HC5 := hid hc5
  obtain ⟨x0, x1, x2, x3, x4⟩ := box5 hc5
  have y := fun o => box5 (hc5.alloc o)
  have y0 := fun o => (y o).1
  have y1 := fun o => (y o).2.1
  have y2 := fun o => (y o).2.2.1
  have y3 := fun o => (y o).2.2.2.1
  have y4 := fun o => (y o).2.2.2.2
  clear hq5 hm5 hb5 hc5 y HD3 HB3 HC3 HP
  generalize hw5 : w4.setCell ⟨q, 0, none⟩ (.slice (some ⟨g, 0, none⟩) t.length c) = w5 at *
  -- behind the last store
  have HFin : Hid (∀ (W : World) (G : Nat → Prop) (l' : List Rm), Qo W G q l' → Mv F G w W → Blk W p4 30 #[.string ⟨#[]⟩, .string ⟨#[]⟩, .int .i64 0, .int .i64 0, .int .i64 0] → (∀ k, G k → k ≠ p4) →
      Blk (put5 W p4 ⟨ac, an, du, ap, ak⟩) p4 30 #[.string ac, .string an, .int .i64 du, .int .i64 ap, .int .i64 ak] ∧ ∃ F', Qo (put5 W p4 ⟨ac, an, du, ap, ak⟩) F' q l' ∧ Mv F F' w (put5 W p4 ⟨ac, an, du, ap, ak⟩)) := hid fun W G l' hq hm hb hk => by
    have hu := put5_upd W p4 ⟨ac, an, du, ap, ak⟩
    refine ⟨put5_blk hb ⟨ac, an, du, ap, ak⟩, G, hq.upd hu fun k h e => hk k h e, hm.upd.trans hu fun i hi e => ?_, hm.sub⟩
    have := HP2.out.1
    omega
  have HAl := hid fun o => HQ5.out.quiet ((Upd.refl No _).alloc o)
  have HMl := hid fun o => Mv.trans HM5.out (Mv.quiet (F := F5) (((Upd.refl No w5).alloc o).old (Nat.le_refl _)))
  by_cases hov : du + ap ≤ 9223372036854775807
  · rw [if_pos hov] at HN
    have hpos : 0 < du + ap := by omega
    have HL := hid (HLy.out (w5.alloc (.cells #[.string ac, .string an, .int .i64 (du + ap), .int .i64 ap, .int .i64 ak] 30)) F5 ⟨ac, an, du + ap, ap, ak⟩ (HAl.out _))
    go_wp2_with (fail)
    refine HL.out.mono ?_
    rintro e w6 ⟨rfl, F6, hq6, hm6⟩
    have hb6 : Blk w6 p4 30 #[.string ⟨#[]⟩, .string ⟨#[]⟩, .int .i64 0, .int .i64 0, .int .i64 0] := (HB5.out.alloc _).upd hm6.upd fun hk => (HP5.out p4 hk).1 rfl
    have hc6 : Blk w6 p6 30 #[.string ac, .string an, .int .i64 du, .int .i64 ap, .int .i64 ak] := (HC5.out.alloc _).upd hm6.upd fun hk => (HP5.out p6 hk).2 rfl
    obtain ⟨HB7, HE⟩ := HFin.out w6 F6 _ hq6 (Mv.trans (HMl.out _) hm6) hb6 (fun k hk => by
      rcases hm6.sub k hk with h | h
      · exact (HP5.out k h).1
      · have := HB5.out.lt
        have h2 : w5.heap.size ≤ (w5.alloc (.cells #[.string ac, .string an, .int .i64 (du + ap), .int .i64 ap, .int .i64 ak] 30)).heap.size := by simp
        omega)
    have HE2 := hid HE
    have HB8 := hid HB7
    obtain ⟨s0, s1, s2, s3, s4⟩ := box5 hb6
    obtain ⟨r0, r1, r2, r3, r4⟩ := box5 hc6
    have f0 := hb6.free 0
    have f1 := hb6.free 1
    have f2 := hb6.free 2
    have f3 := hb6.free 3
    have f4 := hb6.free 4
    clear hq6 hm6 hb6 hc6 HE HB7 HL HLy
    go_wp2
    simp only [put5] at HB8 HE2
    obtain ⟨q0, q1, q2, q3, q4⟩ := box5 HB8.out
    exact bodyPost_ret (v := tell (some ⟨ac, an, du, ap, ak⟩)) (by simp [results, go_sem, q0, q1, q2, q3, q4, tell, rv]) rfl (.of ⟨rfl, by rw [HN.out]; exact HE2.out⟩)
  · rw [if_neg hov] at HN
    obtain ⟨z, hz⟩ : ∃ z, IntKind.i64.wrap (du + ap) = z := ⟨_, rfl⟩
    have hz0 : ¬ 0 < z := by
      rw [← hz, IntKind.wrap_i64]
      omega
    have hb6 := HB5.out.alloc (.cells #[.string ac, .string an, .int .i64 z, .int .i64 ap, .int .i64 ak] 30)
    obtain ⟨HB7, HE⟩ := HFin.out _ F5 t (HAl.out (.cells #[.string ac, .string an, .int .i64 z, .int .i64 ap, .int .i64 ak] 30)) (HMl.out _) hb6 (fun k hk => (HP5.out k hk).1)
    have HE2 := hid HE
    have HB8 := hid HB7
    obtain ⟨s0, s1, s2, s3, s4⟩ := box5 hb6
    have f0 := hb6.free 0
    have f1 := hb6.free 1
    have f2 := hb6.free 2
    have f3 := hb6.free 3
    have f4 := hb6.free 4
    clear hov hb6 HE HB7 HLy
    go_wp2
    simp only [put5] at HB8 HE2
    obtain ⟨q0, q1, q2, q3, q4⟩ := box5 HB8.out
    exact bodyPost_ret (v := tell (some ⟨ac, an, du, ap, ak⟩)) (by simp [results, go_sem, q0, q1, q2, q3, q4, tell, rv]) rfl (.of ⟨rfl, by rw [HN.out]; exact HE2.out⟩)
end Go.Proofs.Ytlicimkpgnemeaa.Nd
