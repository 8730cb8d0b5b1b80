/-
  The walk of reevelaw05.DiskCuts.
-/
import Derived.Test.YtehdobagglondaaDw
set_option linter.unusedVariables false
set_option linter.unusedSimpArgs false
namespace Go.Proofs.Ytehdobagglondaa.Dx
open Go.RowKit Go.Proofs.Ytehdobagglondaa.B Go.Proofs.Ytehdobagglondaa.Sm Go.Proofs.Ytehdobagglondaa.Dk Go.Proofs.Ytehdobagglondaa.Dl Go.Proofs.Ytehdobagglondaa.Dp Go.Proofs.Ytehdobagglondaa.Do Go.Proofs.Ytehdobagglondaa.Dw
theorem cut_good {k : Nat} {m : Dm} (h : Dp.Good k m) (K : Nat) : Dp.Good k (cutD m K) := by
  obtain ⟨⟨h1, h2, h3⟩, h4, h5, h6⟩ := h
  refine ⟨⟨by simp [cutD], by simp [cutD], h3⟩, fun x hx => h4 x (List.mem_of_mem_take hx), ?_, fun x hx => h6 x (List.mem_of_mem_take hx)⟩
  simp only [cutD, List.length_take]
  omega
set_option maxHeartbeats 1000000 in
set_option maxRecDepth 100000 in
theorem law (n : Int) (A C : Option Addr) (c d : Nat) (xs ys : List Od) (w : World) (hr : Rd w 4 A xs.length (xs.flatMap ocells)) (hl : xs.length ≤ maxLen) (hok : ∀ x ∈ xs, OdOk x) (hr' : Rd w 4 C ys.length (ys.flatMap ocells)) (hl' : ys.length ≤ maxLen) (hok' : ∀ x ∈ ys, OdOk x) :
    Calls Try.prog 6 #[.slice A xs.length c, .int .i64 n, .slice C ys.length d] w fun e w' => e = .returned (.bool true) ∧ Below w.heap.size w w' := by
  simp only [maxLen] at hl hl'
  by_cases hlong : 60 < xs.length
  · go_enter Try.func6, Try.ntmps6
    go_wp2_with (fail)
    refine (awake w).mono ?_
    rintro e w1 ⟨rfl, hb1⟩
    go_wp2_with (fail)
    refine (awake w1).mono ?_
    rintro e w2 ⟨rfl, hb2⟩
    go_wp2
    go_ret
    exact ⟨rfl, hb1.trans (hb2.mono hb1.size)⟩
  · by_cases hlong' : 30 < ys.length
    · go_enter Try.func6, Try.ntmps6
      go_wp2_with (fail)
      refine (awake w).mono ?_
      rintro e w1 ⟨rfl, hb1⟩
      go_wp2_with (fail)
      refine (awake w1).mono ?_
      rintro e w2 ⟨rfl, hb2⟩
      go_wp2
      go_ret
      exact ⟨rfl, hb1.trans (hb2.mono hb1.size)⟩
    · go_enter Try.func6, Try.ntmps6
      go_wp2_with (fail)
      refine (awake w).mono ?_
      rintro e w1 ⟨rfl, hb1⟩
      go_wp2_with (fail)
      refine (new_ 6 w1).mono ?_
      rintro e w2 ⟨p, F, rfl, hD, hb2, hF⟩
      go_wp2_with (fail)
      refine (Dr.new_ 6 w2).mono ?_
      rintro e w3 ⟨rfl, hR, hb3⟩
      obtain ⟨F0, hB, hF0, hb03⟩ := Dv.B2.new hD hF hR hb2 hb3
      have hG := Dv.good_zero 6
      generalize (⟨(min (max (6 : Int) 0) 65536).toNat, [], -1, false⟩ : Dm) = m0 at *
      have hF1 : ∀ k, F0 k → w.heap.size ≤ k := fun k hk => Nat.le_trans hb1.size (hF0 k hk)
      have hb13 : Below w.heap.size w w3 := hb1.trans (hb03.mono hb1.size)
      generalize w2.heap.size = q at *
      clear hb1 hb2 hb3 hD hF hR hF0 hb03
      go_wp2_with (fail)
      go_loopw [30] (fun v30 W => ∃ (j : Nat) (F : Nat → Prop) (m : Dm), j ≤ xs.length ∧ v30 = .int .i64 j ∧ B2 W F p q m ∧ Dp.Good j m ∧ (∀ k, F k → w.heap.size ≤ k) ∧ Below w.heap.size w W) (fun v30 _ => xs.length - (intOf v30).toNat)
      case atStart => exact ⟨0, F0, m0, by omega, rfl, hB, hG, hF1, hb13⟩
      case round =>
        clear hB hG hF1 hb13
        obtain ⟨j, F, m, hj, rfl, hB, hG, hF, hb⟩ := hrel
        by_cases hlt : j < xs.length
        · have hrj : Rd wr 4 A xs.length (xs.flatMap ocells) := Rd.below hr (by omega) ⟨hb.os, hb.tape, hb.output, hb.size, hb.block⟩
          obtain ⟨ad, rfl, y0, y1, y2, y3⟩ := od_at hrj hlt
          have hoj := hok _ (List.getElem_mem hlt)
          generalize xs[j] = o at *
          obtain ⟨K, I, Bv, odd⟩ := o
          obtain ⟨hI, hBv⟩ := hoj
          simp only at hI hBv y0 y1 y2 y3
          have hj1 : (0 : Int) ≤ (j : Int) := by omega
          have hj2 : (j : Int) < (xs.length : Int) := by omega
          have HS := hid (step_ p q F m K I Bv odd wr hB (hG.mono (by omega)) hBv hI)
          have hG2 := step_good hG K I Bv odd hBv hI
          have hsz := hb.size
          clear hrj hB hG hI hBv
          go_wp2_with (fail)
          refine Calls.mono HS.out ?_
          rintro e w5 ⟨rfl, F5, hB5, hM5⟩
          have hf := hid (And.intro hB5 (And.intro hG2 (And.intro (show ∀ k, F5 k → w.heap.size ≤ k from fun k hk => (hM5.sub k hk).elim (hF k) fun h => by omega) (hb.trans (hM5.upd.below hsz hF)))))
          clear hB5 hM5 hG2 hF hb
          go_wp2
          go_roundw
          case rel => exact ⟨j + 1, F5, _, by omega, by go_num, hf.out.1, hf.out.2.1, hf.out.2.2.1, hf.out.2.2.2⟩
          case measure => simp [intOf]; omega
        · obtain rfl : j = xs.length := by omega
          obtain ⟨kc, hK⟩ : ∃ kc : Nat, (n < 0 ∧ kc = 0) ∨ (0 ≤ n ∧ n ≤ m.log.length ∧ n = kc) ∨ (0 ≤ n ∧ (m.log.length : Int) < n ∧ kc = m.log.length) := by
            rcases (by omega : n < 0 ∨ (0 ≤ n ∧ n ≤ m.log.length) ∨ (0 ≤ n ∧ (m.log.length : Int) < n)) with h | ⟨h, h'⟩ | ⟨h, h'⟩
            · exact ⟨0, .inl ⟨h, rfl⟩⟩
            · exact ⟨n.toNat, .inr (.inl ⟨h, h', by omega⟩)⟩
            · exact ⟨_, .inr (.inr ⟨h, h', rfl⟩)⟩
          have hB' := hid hB
          have hg5 := hG.mono (show xs.length ≤ 100000 by omega)
          obtain ⟨D1, R1, h1, h2, h3, h4⟩ := hB
          have HC := hid (cut_at p m D1 n kc wr h1 hg5 hK)
          have HC2 := hid (fun W (hu : Upd No wr W) => rcut_at q m R1 n kc W (h2.upd hu (fun _ _ => no_ _)) hg5 hK)
          have HK := hid hK
          clear h1 h2 h3 h4 hK
          go_wp2_with (fail)
          refine Calls.mono HC.out ?_
          rintro e w5 ⟨p5, F5, rfl, hD5, hF5, hb5⟩
          go_wp2_with (fail)
          refine Calls.mono (HC2.out w5 (Upd.of_below No hb5)) ?_
          rintro e w6 ⟨rfl, F6, hD6, hF6, hb6⟩
          have hu6 := Upd.of_below No hb6
          have hBc : B2 w6 (fun k => F5 k ∨ F6 k) p5 w5.heap.size (cutD m kc) := ⟨F5, F6, hD5.upd hu6 (fun _ _ => no_ _), hD6, fun k hk hk' => by have := hD5.lt k hk; have := hF6 k hk'; omega, fun _ => Iff.rfl⟩
          have hFc : ∀ k, (F5 k ∨ F6 k) → wr.heap.size ≤ k := fun k hk => hk.elim (hF5 k) fun h => Nat.le_trans hb5.size (hF6 k h)
          have hGc := cut_good hG kc
          have hb56 : Below wr.heap.size wr w6 := hb5.trans (hb6.mono hb5.size)
          have HA := hid (alike p5 w5.heap.size _ _ w6 hBc (hGc.mono (by omega)))
          obtain ⟨wo, rfl⟩ : ∃ wo : World, wo = wr := ⟨_, rfl⟩
          obtain ⟨Fc, hBc, hFc⟩ : ∃ Fc : Nat → Prop, B2 w6 Fc p5 w5.heap.size (cutD m kc) ∧ ∀ k, Fc k → wo.heap.size ≤ k := ⟨_, hBc, hFc⟩
          generalize cutD m kc = mc at *
          generalize w5.heap.size = q5 at *
          clear hD5 hD6 hu6 hF5 hF6 hb5 hb6 HC HC2 HK
          go_wp2_with (fail)
          refine Calls.mono HA.out ?_
          rintro e w7 ⟨rfl, hu7⟩
          have hB7 := hBc.upd hu7 (fun _ _ => no_ _)
          have hb7 : Below wo.heap.size wo w7 := hb56.trans (hu7.old hb56.size)
          have hlog : mc.log.length ≤ 60 := by
            have := hGc.2.2.1
            omega
          have hsz0 := hb.size
          have hGc' : Dp.Good 60 mc := hGc.mono (by omega)
          clear hBc hu7 hb56 HA hGc hlog
          go_wp2_with (fail)
          go_loopw [54] (fun v54 W => ∃ (j : Nat) (F : Nat → Prop) (m : Dm), j ≤ ys.length ∧ v54 = .int .i64 j ∧ B2 W F p5 q5 m ∧ Dp.Good (60 + j) m ∧ (∀ k, F k → wo.heap.size ≤ k) ∧ Below wo.heap.size wo W) (fun v54 _ => ys.length - (intOf v54).toNat)
          case atStart => exact ⟨0, Fc, mc, by omega, rfl, hB7, hGc', hFc, hb7⟩
          case round =>
            clear hB7 hGc' hFc hb7
            obtain ⟨j, G, mj, hj, rfl, hBj, hGj, hFj, hbj⟩ := hrel
            have hbw := hb.trans (hbj.mono hsz0)
            by_cases hlt2 : j < ys.length
            · have hrj : Rd wr 4 C ys.length (ys.flatMap ocells) := Rd.below hr' (by omega) ⟨hbw.os, hbw.tape, hbw.output, hbw.size, hbw.block⟩
              obtain ⟨ad, rfl, y0, y1, y2, y3⟩ := od_at hrj hlt2
              have hoj := hok' _ (List.getElem_mem hlt2)
              generalize ys[j] = o at *
              obtain ⟨K, I, Bv, odd⟩ := o
              obtain ⟨hI, hBv⟩ := hoj
              simp only at hI hBv y0 y1 y2 y3
              have hj1 : (0 : Int) ≤ (j : Int) := by omega
              have hj2 : (j : Int) < (ys.length : Int) := by omega
              have HS := hid (step_ p5 q5 G mj K I Bv odd wr hBj (hGj.mono (by omega)) hBv hI)
              have hG2 := step_good hGj K I Bv odd hBv hI
              have hsz := hbj.size
              clear hrj hBj hGj hI hBv hbw
              go_wp2_with (fail)
              refine Calls.mono HS.out ?_
              rintro e w5 ⟨rfl, F9, hB5, hM5⟩
              have hF9 : ∀ k, F9 k → wo.heap.size ≤ k := fun k hk => (hM5.sub k hk).elim (hFj k) fun h => by omega
              have hb9 := hbj.trans (hM5.upd.below hsz hFj)
              generalize stepD mj K I Bv odd = m5 at *
              have HA := hid (alike p5 q5 F9 m5 w5 hB5 (hG2.mono (by omega)))
              go_wp2_with (fail)
              refine Calls.mono HA.out ?_
              rintro e w6 ⟨rfl, hu6⟩
              have hf := hid (And.intro (hB5.upd hu6 (fun _ _ => no_ _)) (And.intro hG2 (And.intro hF9 (hb9.trans (hu6.old hb9.size)))))
              clear hB5 hM5 hG2 hF9 hb9 hu6 hFj hbj
              go_wp2
              go_roundw
              case rel => exact ⟨j + 1, F9, m5, by omega, by go_num, hf.out.1, hf.out.2.1, hf.out.2.2.1, hf.out.2.2.2⟩
              case measure => simp [intOf]; omega
            · obtain rfl : j = ys.length := by omega
              have HA := hid (alike p q F m wr (hB'.out.upd (Upd.of_below No hbj) (fun _ _ => no_ _)) hg5)
              clear hBj hGj hFj
              go_wp2_with (fail)
              refine Calls.mono HA.out ?_
              rintro e w6 ⟨rfl, hu6⟩
              have hf := hbw.trans (hu6.old hbw.size)
              go_wp2
              go_ret
              exact ⟨rfl, hf⟩
end Go.Proofs.Ytehdobagglondaa.Dx
