/-
  The reference's Touch; reeveref03.Same; reevelaw21.has; awake.
-/
import Derived.Test.YtdhgeakdfbckeaaAr
set_option linter.unusedVariables false
set_option linter.unusedSimpArgs false
namespace Go.Proofs.Ytdhgeakdfbckeaa.At
open Go.RowKit Go.Proofs.Ytdhgeakdfbckeaa.B Go.Proofs.Ytdhgeakdfbckeaa.Df
def RTouch (w : World) (F : Nat → Prop) (p : Nat) (most : Int) (r : List ByteArray × ByteArray × Bool) (e : Ending) (w' : World) : Prop :=
  e = .returned (.tuple #[.string r.2.1, .bool r.2.2]) ∧ ∃ F', Tb w' F' p most r.1 ∧ Mv F F' w w'
theorem RTouch.of {w : World} {F : Nat → Prop} {p : Nat} {most : Int} {r : List ByteArray × ByteArray × Bool} {e : Ending} {w' : World}
    (h : e = .returned (.tuple #[.string r.2.1, .bool r.2.2]) ∧ ∃ F', Tb w' F' p most r.1 ∧ Mv F F' w w') : RTouch w F p most r e w' := h
set_option maxHeartbeats 2000000 in
theorem rtouch {w : World} {F0 : Nat → Prop} {p : Nat} {most : Int} {x : List ByteArray} (k : ByteArray) (h : Tb w F0 p most x) (hl : x.length ≤ 10000) :
    Calls Try.prog 11 #[.pointer (some ⟨p, 0, none⟩), .string k] w fun e w' => RTouch w F0 p most (touchX x most k) e w' := by
  have HD := hid (rdrop k h (by omega))
  have hlt := h.lt
  have hle := strike_le x k
  have hxl : ∃ n, n = (strike x k).length := ⟨_, rfl⟩
  obtain ⟨n, hn⟩ := hxl
  have HX : Hid (touchX x most k = if ((n : Int) + 1 ≤ most) then (laidk x k, ⟨#[]⟩, false) else ((laidk x k).drop 1, (laidk x k).headD ⟨#[]⟩, true)) := hid (by
    unfold touchX
    rw [show ((laidk x k).length : Int) = (n : Int) + 1 from by rw [hn]; simp [laidk]])
  have hn1 : n ≤ 10000 := by omega
  have HN := hid hn
  clear hle h hn
  by_cases hm : (n : Int) + 1 ≤ most
  · rw [if_pos hm] at HX
    rw [HX.out]
    have hm' : decide ((n : Int) + 1 ≤ most) = true := decide_eq_true hm
    clear hm
    go_enter Try.func11, Try.ntmps11
    go_wp2_with (fail)
    refine Calls.mono HD.out ?_
    rintro e w1 ⟨rfl, F, ⟨v, b1, s1, fp, fv, lt1⟩, hu1⟩
    rw [← HN.out] at s1
    obtain ⟨A, c, rfl, hc1, hc2⟩ := s1.shape
    have hvp : ∀ k', (Value.slice A n c).ownBlock = some k' → k' ≠ p := fun k' hk' e => s1.ne b1 (by decide) (by rw [hk', e])
    have HH := hid (And.intro b1 (And.intro s1 (And.intro fp (And.intro fv (And.intro lt1 (And.intro hu1 hvp))))))
    obtain ⟨d0, d1⟩ := box2 b1
    clear fv lt1 hu1 hvp
    go_wp2_with (at_builtin; go_must (refine ap_sl 0 rfl (.tmp 14) (.tmp 16) 28 9 (.string ⟨#[]⟩) 1 16 rfl Try.underlying28 s_info rfl (by omega) (.slice A n c) n (strs (strike x k)) (some ⟨w1.heap.size, 0, none⟩) 1 1 [.string k] rfl rfl (Sl.alloc s1 _) (Rd_lit w1 _ 1 1 [.string k] rfl) (by intro u hu; obtain rfl := List.mem_singleton.1 hu; rfl) (by omega) (by omega) (Nat.zero_le _) ?_); intro A2 c2 w2 ho2 hu2 hat2; have b2 := (HH.out.1.alloc (.cells #[.string k] 9)).upd hu2 (fun e => HH.out.2.2.2.2.2.2 _ e rfl); obtain ⟨e0, e1⟩ := box2 b2; have f1 := b2.free 1)
    have hB3 : Hid (Blk (w2.setCell ⟨p, 1, none⟩ (.slice A2 (n + 1) c2)) p 38 #[.int .i64 most, .slice A2 (n + 1) c2]) := hid (by simpa using b2.put 1 (.slice A2 (n + 1) c2))
    have hne : ∀ k', (Value.slice A2 (n + 1) c2).ownBlock = some k' → k' ≠ p := fun k' hk' => (hat2 k' hk').elim (fun h => HH.out.2.2.2.2.2.2 k' h) fun h => by
      have h3 := HH.out.2.2.2.2.1 p HH.out.2.2.1
      simp at h
      omega
    have HE : Hid (∃ F', Tb (w2.setCell ⟨p, 1, none⟩ (.slice A2 (n + 1) c2)) F' p most (laidk x k) ∧ Mv F0 F' w (w2.setCell ⟨p, 1, none⟩ (.slice A2 (n + 1) c2))) := by
      obtain ⟨b1, s1, fp, fv, lt1, hu1, hvp⟩ := HH.out
      have hll : (laidk x k).length = n + 1 := by rw [HN.out]; simp [laidk]
      have hz := hu2.size
      simp at hz
      refine hid ⟨fun k' => F k' ∨ (Value.slice A2 (n + 1) c2).ownBlock = some k', ⟨_, hB3.out, ?_, .inl fp, fun k' hk' => .inr hk', fun k' hk' => ?_⟩, hu1.trans ⟨?_, fun k' hk' => ?_⟩⟩
      · rw [hll, show strs (laidk x k) = strs (strike x k) ++ [.string k] from by simp [laidk, strs]]
        exact ho2.upd ((Upd.refl _ _).set1 1 _) fun g hg e => hne g hg e
      · rcases hk' with hk' | hk'
        · have := lt1 k' hk'
          simp only [World.setCell, Array.size_modify]
          omega
        · have := (ho2.lt k' hk').2
          simp only [World.setCell, Array.size_modify]
          omega
      · exact (((Upd.refl _ w1).alloc _).next (hu2.mono fun k' _ h => fv k' h)).set (p := ⟨p, 1, none⟩) (.inl fp) _
      · rcases hk' with hk' | hk'
        · exact .inl hk'
        · rcases hat2 k' hk' with h | h
          · exact .inl (fv k' h)
          · simp at h
            exact .inr (by omega)
    have HO := hid (And.intro ho2 (And.intro hu2 hat2))
    clear ho2 hu2 hat2 hne
    generalize w2.setCell ⟨p, 1, none⟩ (.slice A2 (n + 1) c2) = w3 at *
    obtain ⟨q0, q1⟩ := box2 hB3.out
    refine wp_region_held_drew (S := fun W => Blk W p 38 #[.int .i64 most, .slice A2 (n + 1) c2] ∧ Upd No w3 W) (by kernel_rfl) ⟨hB3.out.drew, (Upd.refl _ _).drew⟩ (fun hS => ?_)
    refine rg_at 0 (by decide) (fun oi hoi => ?_)
    have ho2 := hoi; simp only [List.getElem?_toArray, List.getElem?_cons_succ, List.getElem?_cons_zero, Option.some.injEq] at ho2; subst ho2
    refine rg_take (v := ?_) 0 hoi (by kernel_rfl) (by kernel_rfl) (by kernel_rfl) (fun _ _ _ h => h) (by rfl) ?_ hS ?_
    rotate_left
    · intro w _; go_simp; try with_reducible rfl
    clear hoi; try simp only [Act.put, List.setIfInBounds_toArray, List.set_cons_zero, List.set_cons_succ]
    refine rg_at 1 (by decide) (fun oi hoi => ?_)
    have ho2 := hoi; simp only [List.getElem?_toArray, List.getElem?_cons_succ, List.getElem?_cons_zero, Option.some.injEq] at ho2; subst ho2
    refine rg_take (v := ?_) 1 hoi (by kernel_rfl) (by kernel_rfl) (by kernel_rfl) (fun _ _ _ h => h) (by rfl) ?_ hS ?_
    rotate_left
    · intro w _; go_simp; try with_reducible rfl
    clear hoi; try simp only [Act.put, List.setIfInBounds_toArray, List.set_cons_zero, List.set_cons_succ]
    refine rg_at 2 (by decide) (fun oi hoi => ?_)
    have ho2 := hoi; simp only [List.getElem?_toArray, List.getElem?_cons_succ, List.getElem?_cons_zero, Option.some.injEq] at ho2; subst ho2
    refine rg_take (v := ?_) 2 hoi (by kernel_rfl) (by kernel_rfl) (by kernel_rfl) (fun _ _ _ h => h) (by rfl) ?_ hS ?_
    rotate_left
    · intro w _; go_simp; try with_reducible rfl
    clear hoi; try simp only [Act.put, List.setIfInBounds_toArray, List.set_cons_zero, List.set_cons_succ]
    refine rg_at 3 (by decide) (fun oi hoi => ?_)
    have ho2 := hoi; simp only [List.getElem?_toArray, List.getElem?_cons_succ, List.getElem?_cons_zero, Option.some.injEq] at ho2; subst ho2
    refine rg_take (v := ?_) 3 hoi (by kernel_rfl) (by kernel_rfl) (by kernel_rfl) (fun _ _ _ h => h) (by rfl) ?_ hS ?_
    rotate_left
    · intro w hw; have hf := (box2 hw.1).2; clear hw; go_simp; try with_reducible rfl
    clear hoi; try simp only [Act.put, List.setIfInBounds_toArray, List.set_cons_zero, List.set_cons_succ]
    refine rg_at 4 (by decide) (fun oi hoi => ?_)
    have ho2 := hoi; simp only [List.getElem?_toArray, List.getElem?_cons_succ, List.getElem?_cons_zero, Option.some.injEq] at ho2; subst ho2
    refine rg_take (v := ?_) 4 hoi (by kernel_rfl) (by kernel_rfl) (by kernel_rfl) (fun _ _ _ h => h) (by rfl) ?_ hS ?_
    rotate_left
    · intro w _; go_simp; try with_reducible rfl
    clear hoi; try simp only [Act.put, List.setIfInBounds_toArray, List.set_cons_zero, List.set_cons_succ]
    refine rg_at 5 (by decide) (fun oi hoi => ?_)
    have ho2 := hoi; simp only [List.getElem?_toArray, List.getElem?_cons_succ, List.getElem?_cons_zero, Option.some.injEq] at ho2; subst ho2
    refine rg_take (v := ?_) 5 hoi (by kernel_rfl) (by kernel_rfl) (by kernel_rfl) (fun _ _ _ h => h) (by rfl) ?_ hS ?_
    rotate_left
    · intro w _; go_simp; try with_reducible rfl
    clear hoi; try simp only [Act.put, List.setIfInBounds_toArray, List.set_cons_zero, List.set_cons_succ]
    refine rg_at 6 (by decide) (fun oi hoi => ?_)
    have ho2 := hoi; simp only [List.getElem?_toArray, List.getElem?_cons_succ, List.getElem?_cons_zero, Option.some.injEq] at ho2; subst ho2
    refine rg_take (v := ?_) 6 hoi (by kernel_rfl) (by kernel_rfl) (by kernel_rfl) (fun _ _ _ h => h) (by rfl) ?_ hS ?_
    rotate_left
    · intro w _; go_simp; try with_reducible rfl
    clear hoi; try simp only [Act.put, List.setIfInBounds_toArray, List.set_cons_zero, List.set_cons_succ]
    refine rg_at 7 (by decide) (fun oi hoi => ?_)
    have ho2 := hoi; simp only [List.getElem?_toArray, List.getElem?_cons_succ, List.getElem?_cons_zero, Option.some.injEq] at ho2; subst ho2
    refine rg_take (v := ?_) 7 hoi (by kernel_rfl) (by kernel_rfl) (by kernel_rfl) (fun _ _ _ h => h) (by rfl) ?_ hS ?_
    rotate_left
    · intro w _; go_simp; try with_reducible rfl
    clear hoi; try simp only [Act.put, List.setIfInBounds_toArray, List.set_cons_zero, List.set_cons_succ]
    refine rg_at 8 (by decide) (fun oi hoi => ?_)
    have ho2 := hoi; simp only [List.getElem?_toArray, List.getElem?_cons_succ, List.getElem?_cons_zero, Option.some.injEq] at ho2; subst ho2
    refine rg_take (v := ?_) 8 hoi (by kernel_rfl) (by kernel_rfl) (by kernel_rfl) (fun _ _ _ h => h) (by rfl) ?_ hS ?_
    rotate_left
    · intro w hw; have hf := (box2 hw.1).1; clear hw; go_simp; try with_reducible rfl
    clear hoi; try simp only [Act.put, List.setIfInBounds_toArray, List.set_cons_zero, List.set_cons_succ]
    refine rg_at 9 (by decide) (fun oi hoi => ?_)
    have ho2 := hoi; simp only [List.getElem?_toArray, List.getElem?_cons_succ, List.getElem?_cons_zero, Option.some.injEq] at ho2; subst ho2
    refine rg_take (v := ?_) 9 hoi (by kernel_rfl) (by kernel_rfl) (by kernel_rfl) (fun _ _ _ h => h) (by rfl) ?_ hS ?_
    rotate_left
    · intro w _; go_simp; try with_reducible rfl
    clear hoi; try simp only [Act.put, List.setIfInBounds_toArray, List.set_cons_zero, List.set_cons_succ]
    refine wpAnyH_done (by kernel_rfl) ?_ _
    have HS := hid hS.2
    clear hS
    go_wp2
    go_ret2
    obtain ⟨F', h1, h2⟩ := HE.out
    exact .of ⟨rfl, F', h1.upd HS.out fun _ _ => no_ _, h2.trans ⟨HS.out.mono fun _ _ h => h.elim, fun k' hk' => .inl hk'⟩⟩
  · rw [if_neg hm] at HX
    rw [HX.out]
    have hm' : decide ((n : Int) + 1 ≤ most) = false := decide_eq_false hm
    clear hm
    obtain ⟨k0, r0, hkr⟩ : ∃ k0 r0, laidk x k = k0 :: r0 := by
      rcases hl : laidk x k with _ | ⟨k0, r0⟩
      · simp [laidk] at hl
      · exact ⟨k0, r0, rfl⟩
    have hr0 : r0.length = n := by
      have : (laidk x k).length = n + 1 := by rw [HN.out]; simp [laidk]
      rw [hkr] at this
      simpa using this
    rw [hkr]
    have HKR := hid (And.intro hkr hr0)
    clear hkr hr0
    go_enter Try.func11, Try.ntmps11
    go_wp2_with (fail)
    refine Calls.mono HD.out ?_
    rintro e w1 ⟨rfl, F, ⟨v, b1, s1, fp, fv, lt1⟩, hu1⟩
    rw [← HN.out] at s1
    obtain ⟨A, c, rfl, hc1, hc2⟩ := s1.shape
    have hvp : ∀ k', (Value.slice A n c).ownBlock = some k' → k' ≠ p := fun k' hk' e => s1.ne b1 (by decide) (by rw [hk', e])
    have HH := hid (And.intro b1 (And.intro s1 (And.intro fp (And.intro fv (And.intro lt1 (And.intro hu1 hvp))))))
    obtain ⟨d0, d1⟩ := box2 b1
    clear fv lt1 hu1 hvp
    go_wp2_with (at_builtin; go_must (refine ap_sl 0 rfl (.tmp 14) (.tmp 16) 28 9 (.string ⟨#[]⟩) 1 16 rfl Try.underlying28 s_info rfl (by omega) (.slice A n c) n (strs (strike x k)) (some ⟨w1.heap.size, 0, none⟩) 1 1 [.string k] rfl rfl (Sl.alloc s1 _) (Rd_lit w1 _ 1 1 [.string k] rfl) (by intro u hu; obtain rfl := List.mem_singleton.1 hu; rfl) (by omega) (by omega) (Nat.zero_le _) ?_); intro A2 c2 w2 ho2 hu2 hat2; have b2 := (HH.out.1.alloc (.cells #[.string k] 9)).upd hu2 (fun e => HH.out.2.2.2.2.2.2 _ e rfl); obtain ⟨e0, e1⟩ := box2 b2; have f1 := b2.free 1)
    have hB3 : Hid (Blk (w2.setCell ⟨p, 1, none⟩ (.slice A2 (n + 1) c2)) p 38 #[.int .i64 most, .slice A2 (n + 1) c2]) := hid (by simpa using b2.put 1 (.slice A2 (n + 1) c2))
    have hne : ∀ k', (Value.slice A2 (n + 1) c2).ownBlock = some k' → k' ≠ p := fun k' hk' => (hat2 k' hk').elim (fun h => HH.out.2.2.2.2.2.2 k' h) fun h => by
      have h3 := HH.out.2.2.2.2.1 p HH.out.2.2.1
      simp at h
      omega
    have HE : Hid (∃ F', Tb (w2.setCell ⟨p, 1, none⟩ (.slice A2 (n + 1) c2)) F' p most (laidk x k) ∧ Mv F0 F' w (w2.setCell ⟨p, 1, none⟩ (.slice A2 (n + 1) c2))) := by
      obtain ⟨b1, s1, fp, fv, lt1, hu1, hvp⟩ := HH.out
      have hll : (laidk x k).length = n + 1 := by rw [HN.out]; simp [laidk]
      have hz := hu2.size
      simp at hz
      refine hid ⟨fun k' => F k' ∨ (Value.slice A2 (n + 1) c2).ownBlock = some k', ⟨_, hB3.out, ?_, .inl fp, fun k' hk' => .inr hk', fun k' hk' => ?_⟩, hu1.trans ⟨?_, fun k' hk' => ?_⟩⟩
      · rw [hll, show strs (laidk x k) = strs (strike x k) ++ [.string k] from by simp [laidk, strs]]
        exact ho2.upd ((Upd.refl _ _).set1 1 _) fun g hg e => hne g hg e
      · rcases hk' with hk' | hk'
        · have := lt1 k' hk'
          simp only [World.setCell, Array.size_modify]
          omega
        · have := (ho2.lt k' hk').2
          simp only [World.setCell, Array.size_modify]
          omega
      · exact (((Upd.refl _ w1).alloc _).next (hu2.mono fun k' _ h => fv k' h)).set (p := ⟨p, 1, none⟩) (.inl fp) _
      · rcases hk' with hk' | hk'
        · exact .inl hk'
        · rcases hat2 k' hk' with h | h
          · exact .inl (fv k' h)
          · simp at h
            exact .inr (by omega)
    have HO := hid (And.intro ho2 (And.intro hu2 hat2))
    clear ho2 hu2 hat2 hne
    generalize w2.setCell ⟨p, 1, none⟩ (.slice A2 (n + 1) c2) = w3 at *
    obtain ⟨q0, q1⟩ := box2 hB3.out
    refine wp_region_held_drew (S := fun W => Blk W p 38 #[.int .i64 most, .slice A2 (n + 1) c2] ∧ Upd No w3 W) (by kernel_rfl) ⟨hB3.out.drew, (Upd.refl _ _).drew⟩ (fun hS => ?_)
    refine rg_at 0 (by decide) (fun oi hoi => ?_)
    have ho2 := hoi; simp only [List.getElem?_toArray, List.getElem?_cons_succ, List.getElem?_cons_zero, Option.some.injEq] at ho2; subst ho2
    refine rg_take (v := ?_) 0 hoi (by kernel_rfl) (by kernel_rfl) (by kernel_rfl) (fun _ _ _ h => h) (by rfl) ?_ hS ?_
    rotate_left
    · intro w _; go_simp; try with_reducible rfl
    clear hoi; try simp only [Act.put, List.setIfInBounds_toArray, List.set_cons_zero, List.set_cons_succ]
    refine rg_at 1 (by decide) (fun oi hoi => ?_)
    have ho2 := hoi; simp only [List.getElem?_toArray, List.getElem?_cons_succ, List.getElem?_cons_zero, Option.some.injEq] at ho2; subst ho2
    refine rg_take (v := ?_) 1 hoi (by kernel_rfl) (by kernel_rfl) (by kernel_rfl) (fun _ _ _ h => h) (by rfl) ?_ hS ?_
    rotate_left
    · intro w _; go_simp; try with_reducible rfl
    clear hoi; try simp only [Act.put, List.setIfInBounds_toArray, List.set_cons_zero, List.set_cons_succ]
    refine rg_at 2 (by decide) (fun oi hoi => ?_)
    have ho2 := hoi; simp only [List.getElem?_toArray, List.getElem?_cons_succ, List.getElem?_cons_zero, Option.some.injEq] at ho2; subst ho2
    refine rg_take (v := ?_) 2 hoi (by kernel_rfl) (by kernel_rfl) (by kernel_rfl) (fun _ _ _ h => h) (by rfl) ?_ hS ?_
    rotate_left
    · intro w _; go_simp; try with_reducible rfl
    clear hoi; try simp only [Act.put, List.setIfInBounds_toArray, List.set_cons_zero, List.set_cons_succ]
    refine rg_at 3 (by decide) (fun oi hoi => ?_)
    have ho2 := hoi; simp only [List.getElem?_toArray, List.getElem?_cons_succ, List.getElem?_cons_zero, Option.some.injEq] at ho2; subst ho2
    refine rg_take (v := ?_) 3 hoi (by kernel_rfl) (by kernel_rfl) (by kernel_rfl) (fun _ _ _ h => h) (by rfl) ?_ hS ?_
    rotate_left
    · intro w hw; have hf := (box2 hw.1).2; clear hw; go_simp; try with_reducible rfl
    clear hoi; try simp only [Act.put, List.setIfInBounds_toArray, List.set_cons_zero, List.set_cons_succ]
    refine rg_at 4 (by decide) (fun oi hoi => ?_)
    have ho2 := hoi; simp only [List.getElem?_toArray, List.getElem?_cons_succ, List.getElem?_cons_zero, Option.some.injEq] at ho2; subst ho2
    refine rg_take (v := ?_) 4 hoi (by kernel_rfl) (by kernel_rfl) (by kernel_rfl) (fun _ _ _ h => h) (by rfl) ?_ hS ?_
    rotate_left
    · intro w _; go_simp; try with_reducible rfl
    clear hoi; try simp only [Act.put, List.setIfInBounds_toArray, List.set_cons_zero, List.set_cons_succ]
    refine rg_at 5 (by decide) (fun oi hoi => ?_)
    have ho2 := hoi; simp only [List.getElem?_toArray, List.getElem?_cons_succ, List.getElem?_cons_zero, Option.some.injEq] at ho2; subst ho2
    refine rg_take (v := ?_) 5 hoi (by kernel_rfl) (by kernel_rfl) (by kernel_rfl) (fun _ _ _ h => h) (by rfl) ?_ hS ?_
    rotate_left
    · intro w _; go_simp; try with_reducible rfl
    clear hoi; try simp only [Act.put, List.setIfInBounds_toArray, List.set_cons_zero, List.set_cons_succ]
    refine rg_at 6 (by decide) (fun oi hoi => ?_)
    have ho2 := hoi; simp only [List.getElem?_toArray, List.getElem?_cons_succ, List.getElem?_cons_zero, Option.some.injEq] at ho2; subst ho2
    refine rg_take (v := ?_) 6 hoi (by kernel_rfl) (by kernel_rfl) (by kernel_rfl) (fun _ _ _ h => h) (by rfl) ?_ hS ?_
    rotate_left
    · intro w _; go_simp; try with_reducible rfl
    clear hoi; try simp only [Act.put, List.setIfInBounds_toArray, List.set_cons_zero, List.set_cons_succ]
    refine rg_at 7 (by decide) (fun oi hoi => ?_)
    have ho2 := hoi; simp only [List.getElem?_toArray, List.getElem?_cons_succ, List.getElem?_cons_zero, Option.some.injEq] at ho2; subst ho2
    refine rg_take (v := ?_) 7 hoi (by kernel_rfl) (by kernel_rfl) (by kernel_rfl) (fun _ _ _ h => h) (by rfl) ?_ hS ?_
    rotate_left
    · intro w _; go_simp; try with_reducible rfl
    clear hoi; try simp only [Act.put, List.setIfInBounds_toArray, List.set_cons_zero, List.set_cons_succ]
    refine rg_at 8 (by decide) (fun oi hoi => ?_)
    have ho2 := hoi; simp only [List.getElem?_toArray, List.getElem?_cons_succ, List.getElem?_cons_zero, Option.some.injEq] at ho2; subst ho2
    refine rg_take (v := ?_) 8 hoi (by kernel_rfl) (by kernel_rfl) (by kernel_rfl) (fun _ _ _ h => h) (by rfl) ?_ hS ?_
    rotate_left
    · intro w hw; have hf := (box2 hw.1).1; clear hw; go_simp; try with_reducible rfl
    clear hoi; try simp only [Act.put, List.setIfInBounds_toArray, List.set_cons_zero, List.set_cons_succ]
    refine rg_at 9 (by decide) (fun oi hoi => ?_)
    have ho2 := hoi; simp only [List.getElem?_toArray, List.getElem?_cons_succ, List.getElem?_cons_zero, Option.some.injEq] at ho2; subst ho2
    refine rg_take (v := ?_) 9 hoi (by kernel_rfl) (by kernel_rfl) (by kernel_rfl) (fun _ _ _ h => h) (by rfl) ?_ hS ?_
    rotate_left
    · intro w _; go_simp; try with_reducible rfl
    clear hoi; try simp only [Act.put, List.setIfInBounds_toArray, List.set_cons_zero, List.set_cons_succ]
    refine wpAnyH_done (by kernel_rfl) ?_ _
    have HS := hid hS.2
    have hB4 := hid hS.1
    clear hS
    obtain ⟨F', hE1, hE2⟩ := HE.out
    have hT4 := hE1.upd HS.out fun _ _ => no_ _
    have hM4 := hE2.trans (⟨HS.out.mono fun _ _ h => h.elim, fun k' hk' => .inl hk'⟩ : Mv F' F' w3 w3.drew)
    generalize w3.drew = w4 at *
    obtain ⟨v4, b4, s4, fp4, fv4, lt4⟩ := hT4
    have hv4 : v4 = .slice A2 (n + 1) c2 := by
      have h1 := (box2 b4).2
      rw [(box2 hB4.out).2] at h1
      simpa using h1.symm
    subst hv4
    rw [HKR.out.1] at s4
    have hs4 : Sl w4 0 9 1 (.slice A2 (n + 1) c2) (n + 1) (.string k0 :: strs r0) := by
      have e : (k0 :: r0).length = n + 1 := by simp [HKR.out.2]
      rw [e] at s4
      exact s4
    obtain ⟨g9, o9, rfl, q9, hg9⟩ := first_cell hs4
    have hcc := Sl.cap hs4
    obtain ⟨A5, hA5, hcut⟩ := cut_from (P := Try.prog) 28 9 .i64 Try.underlying28 (by kernel_rfl) (some ⟨g9, o9, none⟩) (n + 1) c2 1 1 rfl (by omega)
    have hr5 : Rd w4 1 A5 n (strs r0) := by
      rw [hA5]
      exact Rd.drop (k := 1) (Sl.rd hs4) (by omega) hcc.1
    have HR5 := hid hr5
    obtain ⟨z0, z1⟩ := box2 b4
    have HH4 := hid (And.intro b4 (And.intro fp4 (And.intro fv4 (And.intro lt4 (And.intro hM4 hA5)))))
    clear s4 hs4 hcc hr5 fv4 lt4 hM4 hA5 hE1 hE2 HE hB4 HO q0 q1 d0 d1 e0 e1 f1
    have y9 := ((Upd.refl No w4).alloc (.cells #[] 9)).cell (p := ⟨p, 1, none⟩) HH4.out.1.lt (no_ _)
    rw [z1] at y9
    go_wp2_with (at_builtin; go_must (refine ap_row w4.heap.size rfl (.tmp 37) (.tmp 42) 28 9 (.string ⟨#[]⟩) 1 16 rfl Try.underlying28 s_info rfl (by omega) (.slice (some ⟨w4.heap.size, 0, none⟩) 0 0) 0 [] A5 n (c2 - 1) (strs r0) rfl rfl (World.ownsRow_made w4 #[] 0 (Nat.le_refl _) (Nat.zero_le _) rfl) (Rd.alloc HR5.out (by omega) _) (strs_one _) (by omega) (by omega) (by simp) ?_); intro A6 c6 w5 ho6 hg6 hat6; rw [Nat.zero_add, List.nil_append] at ho6; rw [Nat.zero_add]; have hu6 : Upd No w4 w5 := (((Upd.refl No w4).alloc _).grown hg6 fun k hk => (by have h : w4.heap.size = k := (by simpa [Value.ownBlock] using hk); exact .inr (by omega))); have b5 := HH4.out.1.upd hu6 (no_ _); obtain ⟨y0, y1⟩ := box2 b5; have y2 := b5.free 1)
    have HE : Hid (∃ F', Tb (w5.setCell ⟨p, 1, none⟩ (.slice A6 n c6)) F' p most r0 ∧ Mv F0 F' w (w5.setCell ⟨p, 1, none⟩ (.slice A6 n c6))) := by
      obtain ⟨b4, fp4, fv4, lt4, hM4, hA5⟩ := HH4.out
      have h1 := hu6.size
      have h2 := hM4.upd.size
      have hpl := lt4 p fp4
      have hB6 : Blk (w5.setCell ⟨p, 1, none⟩ (.slice A6 n c6)) p 38 #[.int .i64 most, .slice A6 n c6] := by simpa using b5.put 1 (.slice A6 n c6)
      refine hid ⟨fun k' => F' k' ∨ (Value.slice A6 n c6).ownBlock = some k', ⟨.slice A6 n c6, hB6, ?_, .inl fp4, fun k' hk' => .inr hk', fun k' hk' => ?_⟩, ⟨?_, fun k' hk' => ?_⟩⟩
      · rw [HKR.out.2]
        refine (Sl.of_own (own_base ho6 (Nat.zero_le _))).upd ((Upd.refl _ _).set1 1 _) fun g hg e => ?_
        have := (ho6.lt g hg).1
        omega
      · rcases hk' with hk' | hk'
        · have := lt4 k' hk'
          simp only [World.setCell, Array.size_modify]
          omega
        · have := (ho6.lt k' hk').2
          simp only [World.setCell, Array.size_modify]
          omega
      · refine hM4.upd.trans ((hu6.mono fun _ _ h => h.elim : Upd (fun k' => k' = p) w4 w5).set1 1 _) ?_
        rintro i hi rfl
        exact (hM4.sub _ fp4).elim id fun h => by omega
      · rcases hk' with hk' | hk'
        · exact hM4.sub k' hk'
        · have := (ho6.lt k' hk').1
          exact .inr (by omega)
    have HO6 := hid (And.intro ho6 hu6)
    clear ho6 hu6 hg6 hat6
    go_wp2
    go_ret2
    exact .of ⟨rfl, HE.out⟩
set_option maxHeartbeats 1000000 in
/-- reeveref03.Same, of two lists that are one. -/
theorem same03 {w : World} {A B : Option Addr} {c d : Nat} {l : List ByteArray} (ha : Rd w 1 A l.length (strs l)) (hb : Rd w 1 B l.length (strs l)) (hl : l.length ≤ 9223372036854775807) :
    Calls Try.prog 16 #[.slice A l.length c, .slice B l.length d] w fun e w' => e = .returned (.bool true) ∧ Upd No w w' := by
  go_enter Try.func16, Try.ntmps16
  go_wp2_with (fail)
  go_loopw [13] (fun v13 W => ∃ j : Nat, j ≤ l.length ∧ v13 = .int .i64 j ∧ Hid (Upd No w W)) (fun v13 _ => l.length - (intOf v13).toNat)
  case atStart => exact ⟨0, by omega, rfl, hid (Upd.refl _ _)⟩
  case round =>
    obtain ⟨j, hj, rfl, HU⟩ := hrel
    by_cases hlt : j < l.length
    · obtain ⟨ad, u, rfl, hu, hc⟩ := Rd.at_ ha hlt
      obtain ⟨bd, u', rfl, hu', hc'⟩ := Rd.at_ hb hlt
      rw [strs, List.getElem?_map, List.getElem?_eq_getElem hlt] at hu hu'
      simp only [Option.map_some, Option.some.injEq] at hu hu'
      subst hu hu'
      have hj1 : (0 : Int) ≤ (j : Int) := by omega
      have hj2 : (j : Int) < (l.length : Int) := by omega
      have hca := World.block_lt_of_cell? _ _ hc
      have hcb := World.block_lt_of_cell? _ _ hc'
      generalize l[j] = y at *
      have HC : Hid (∀ W, Upd No w W → W.cell? (ad.add j) = some (.string y) ∧ W.cell? (bd.add j) = some (.string y)) := hid fun W hu => ⟨(hu.cell hca (no_ _)).trans hc, (hu.cell hcb (no_ _)).trans hc'⟩
      clear hc hc' hca hcb
      go_wp2_with (fail)
      refine wp_region_held_drew (S := fun W => Upd No w W) (by kernel_rfl) HU.out.drew (fun hS => ?_)
      refine rg_at 0 (by decide) (fun oi hoi => ?_)
      have ho2 := hoi; simp only [List.getElem?_toArray, List.getElem?_cons_succ, List.getElem?_cons_zero, Option.some.injEq] at ho2; subst ho2
      refine rg_take (v := ?_) 0 hoi (by kernel_rfl) (by kernel_rfl) (by kernel_rfl) (fun _ _ _ h => h) (by rfl) ?_ hS ?_
      rotate_left
      · intro w _; go_simp; try with_reducible rfl
      clear hoi; try simp only [Act.put, List.setIfInBounds_toArray, List.set_cons_zero, List.set_cons_succ]
      refine rg_at 1 (by decide) (fun oi hoi => ?_)
      have ho2 := hoi; simp only [List.getElem?_toArray, List.getElem?_cons_succ, List.getElem?_cons_zero, Option.some.injEq] at ho2; subst ho2
      refine rg_take (v := ?_) 1 hoi (by kernel_rfl) (by kernel_rfl) (by kernel_rfl) (fun _ _ _ h => h) (by rfl) ?_ hS ?_
      rotate_left
      · intro w _; go_simp; try with_reducible rfl
      clear hoi; try simp only [Act.put, List.setIfInBounds_toArray, List.set_cons_zero, List.set_cons_succ]
      refine rg_at 2 (by decide) (fun oi hoi => ?_)
      have ho2 := hoi; simp only [List.getElem?_toArray, List.getElem?_cons_succ, List.getElem?_cons_zero, Option.some.injEq] at ho2; subst ho2
      refine rg_take (v := ?_) 2 hoi (by kernel_rfl) (by kernel_rfl) (by kernel_rfl) (fun _ _ _ h => h) (by rfl) ?_ hS ?_
      rotate_left
      · intro w _; go_simp; try with_reducible rfl
      clear hoi; try simp only [Act.put, List.setIfInBounds_toArray, List.set_cons_zero, List.set_cons_succ]
      refine rg_at 3 (by decide) (fun oi hoi => ?_)
      have ho2 := hoi; simp only [List.getElem?_toArray, List.getElem?_cons_succ, List.getElem?_cons_zero, Option.some.injEq] at ho2; subst ho2
      refine rg_take (v := ?_) 3 hoi (by kernel_rfl) (by kernel_rfl) (by kernel_rfl) (fun _ _ _ h => h) (by rfl) ?_ hS ?_
      rotate_left
      · intro w hw; have hf := (HC.out _ hw).1; clear hw; go_simp; try with_reducible rfl
      clear hoi; try simp only [Act.put, List.setIfInBounds_toArray, List.set_cons_zero, List.set_cons_succ]
      refine rg_at 4 (by decide) (fun oi hoi => ?_)
      have ho2 := hoi; simp only [List.getElem?_toArray, List.getElem?_cons_succ, List.getElem?_cons_zero, Option.some.injEq] at ho2; subst ho2
      refine rg_take (v := ?_) 4 hoi (by kernel_rfl) (by kernel_rfl) (by kernel_rfl) (fun _ _ _ h => h) (by rfl) ?_ hS ?_
      rotate_left
      · intro w _; go_simp; try with_reducible rfl
      clear hoi; try simp only [Act.put, List.setIfInBounds_toArray, List.set_cons_zero, List.set_cons_succ]
      refine rg_at 5 (by decide) (fun oi hoi => ?_)
      have ho2 := hoi; simp only [List.getElem?_toArray, List.getElem?_cons_succ, List.getElem?_cons_zero, Option.some.injEq] at ho2; subst ho2
      refine rg_take (v := ?_) 5 hoi (by kernel_rfl) (by kernel_rfl) (by kernel_rfl) (fun _ _ _ h => h) (by rfl) ?_ hS ?_
      rotate_left
      · intro w _; go_simp; try with_reducible rfl
      clear hoi; try simp only [Act.put, List.setIfInBounds_toArray, List.set_cons_zero, List.set_cons_succ]
      refine rg_at 6 (by decide) (fun oi hoi => ?_)
      have ho2 := hoi; simp only [List.getElem?_toArray, List.getElem?_cons_succ, List.getElem?_cons_zero, Option.some.injEq] at ho2; subst ho2
      refine rg_take (v := ?_) 6 hoi (by kernel_rfl) (by kernel_rfl) (by kernel_rfl) (fun _ _ _ h => h) (by rfl) ?_ hS ?_
      rotate_left
      · intro w _; go_simp; try with_reducible rfl
      clear hoi; try simp only [Act.put, List.setIfInBounds_toArray, List.set_cons_zero, List.set_cons_succ]
      refine rg_at 7 (by decide) (fun oi hoi => ?_)
      have ho2 := hoi; simp only [List.getElem?_toArray, List.getElem?_cons_succ, List.getElem?_cons_zero, Option.some.injEq] at ho2; subst ho2
      refine rg_take (v := ?_) 7 hoi (by kernel_rfl) (by kernel_rfl) (by kernel_rfl) (fun _ _ _ h => h) (by rfl) ?_ hS ?_
      rotate_left
      · intro w hw; have hf := (HC.out _ hw).2; clear hw; go_simp; try with_reducible rfl
      clear hoi; try simp only [Act.put, List.setIfInBounds_toArray, List.set_cons_zero, List.set_cons_succ]
      refine rg_at 8 (by decide) (fun oi hoi => ?_)
      have ho2 := hoi; simp only [List.getElem?_toArray, List.getElem?_cons_succ, List.getElem?_cons_zero, Option.some.injEq] at ho2; subst ho2
      refine rg_take (v := ?_) 8 hoi (by kernel_rfl) (by kernel_rfl) (by kernel_rfl) (fun _ _ _ h => h) (by rfl) ?_ hS ?_
      rotate_left
      · intro w _; go_simp; try with_reducible rfl
      clear hoi; try simp only [Act.put, List.setIfInBounds_toArray, List.set_cons_zero, List.set_cons_succ]
      refine wpAnyH_done (by kernel_rfl) ?_ _
      go_wp2
      go_roundw
      case rel => exact ⟨j + 1, by omega, by go_num, hid hS⟩
      case measure => simp [intOf]; omega
    · obtain rfl : j = l.length := by omega
      go_wp2
      go_ret
      exact ⟨rfl, HU.out⟩
set_option maxHeartbeats 1000000 in
/-- reevelaw21.has. -/
theorem lhas {w : World} {A : Option Addr} {c : Nat} {l : List ByteArray} (k : ByteArray) (hr : Rd w 1 A l.length (strs l)) (hl : l.length ≤ 9223372036854775807) :
    Calls Try.prog 15 #[.slice A l.length c, .string k] w fun e w' => e = .returned (.bool (hasK l k)) ∧ w = w' := by
  go_enter Try.func15, Try.ntmps15
  go_wp2_with (fail)
  go_loop [8] (fun v8 => ∃ j : Nat, j ≤ l.length ∧ v8 = .int .i64 j ∧ Hid (∀ i (hi : i < l.length), i < j → l[i] ≠ k)) (fun v8 => l.length - (intOf v8).toNat)
  case atStart => exact ⟨0, by omega, rfl, hid fun i _ h => by omega⟩
  case round =>
    obtain ⟨j, hj, rfl, hH⟩ := hrel
    by_cases hlt : j < l.length
    · obtain ⟨ad, u, rfl, hu, hc⟩ := hr.at_ hlt
      rw [strs, List.getElem?_map, List.getElem?_eq_getElem hlt] at hu
      simp only [Option.map_some, Option.some.injEq] at hu
      subst hu
      have HN : Hid (¬ l[j] = k → ∀ i (hi : i < l.length), i < j + 1 → l[i] ≠ k) := hid fun h i hi hij => by
        by_cases h' : i < j
        · exact hH.out i hi h'
        · obtain rfl : i = j := by omega
          exact h
      have HY : Hid (l[j] = k → hasK l k = true) := hid fun h => List.any_eq_true.2 ⟨_, List.getElem_mem hlt, by simp [h]⟩
      have hj2 : (j : Int) < (l.length : Int) := by omega
      generalize l[j] = y at *
      by_cases hy : y = k
      · subst hy
        replace HY := hid (HY.out rfl)
        clear HN
        go_wp2
        go_ret
        exact ⟨congrArg (fun z => Ending.returned (.bool z)) HY.out.symm, rfl⟩
      · replace HN := hid (HN.out hy)
        obtain ⟨n1, n2⟩ := ba_ne hy
        clear HY hy
        go_wp2
        go_round
        case rel => exact ⟨j + 1, by omega, by go_num, HN⟩
        case measure => simp [intOf]; omega
    · obtain rfl : j = l.length := by omega
      have HY : Hid (hasK l k = false) := hid (List.any_eq_false.2 fun x hx => by
        obtain ⟨i, hi, rfl⟩ := List.getElem_of_mem hx
        have := hH.out i hi hi
        simp only [decide_eq_true_eq]
        exact fun e => this e.symm)
      go_wp2
      go_ret
      exact ⟨congrArg (fun z => Ending.returned (.bool z)) HY.out.symm, rfl⟩
end Go.Proofs.Ytdhgeakdfbckeaa.At
