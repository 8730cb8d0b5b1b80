/-
  The reference's log of reevelaw07: what lies in it, its room, its wrong.
-/
import Derived.Test.YtheopehhpoikdaaGd
set_option linter.unusedVariables false
set_option linter.unusedSimpArgs false
namespace Go.Proofs.Ytheopehhpoikdaa.Gl
open Go.RowKit Go.Proofs.Ytheopehhpoikdaa Go.Proofs.Ytheopehhpoikdaa.B Go.Proofs.Ytheopehhpoikdaa.Cm Go.Proofs.Ytheopehhpoikdaa.Sm Go.Proofs.Ytheopehhpoikdaa.Dk Go.Proofs.Ytheopehhpoikdaa.Gp
/-- How many blocks lists have. -/
def tot (us : List (List Int)) : Nat := (us.map nbl).sum
theorem tot_nil : tot [] = 0 := rfl
theorem tot_snoc (us : List (List Int)) (u : List Int) : tot (us ++ [u]) = tot us + nbl u := by simp [tot]
theorem tot_take {us : List (List Int)} {i : Nat} (h : i < us.length) : tot (us.take (i + 1)) = tot (us.take i) + nbl us[i] := by
  rw [List.take_succ_eq_append_getElem h, tot_snoc]
theorem tot_take_le (us : List (List Int)) (i : Nat) : tot (us.take i) ≤ tot us := by
  have h : tot us = tot (us.take i) + tot (us.drop i) := by
    have h1 : tot us = tot (us.take i ++ us.drop i) := by rw [List.take_append_drop]
    rw [h1]
    unfold tot
    rw [List.map_append, List.sum_append]
  omega
theorem Gp.Laid.tot_ {ep : Int} {bs : Nat → List Int} : ∀ {us : List (List Int)} {k e : Nat}, Laid ep bs k us e → e = k + tot us := by
  intro us
  induction us with
  | nil => intro k e h; exact (show k = e from h).symm
  | cons u t ih =>
    intro k e h
    have h1 := ih h.2.2
    have h2 : tot (u :: t) = nbl u + tot t := by simp [tot]
    omega
theorem Snd.tot_ {m : Lm} {d : Dm} (h : Snd m d) : m.used = tot m.us := by
  have := Gp.Laid.tot_ h.ar.laid
  omega
/-- The reference's log at r: its units are us, their texts the slice v. -/
structure Rl (W : World) (r : Nat) (v : Value) (us : List (List Int)) (count : Nat) (ep : Int) : Prop where
  blk : Blk W r 50 #[v, .int .i64 count, .int .u64 ep]
  tx : W.ownsRow 0 9 1 v us.length (us.map st)
theorem Rl.upd {W W' : World} {r : Nat} {v : Value} {us : List (List Int)} {count : Nat} {ep : Int} {G : Nat → Prop} (h : Rl W r v us count ep) (hu : Upd G W W') (hr : ¬ G r) (hv : ∀ g, v.ownBlock = some g → ¬ G g) : Rl W' r v us count ep :=
  ⟨h.blk.upd hu hr, own_upd h.tx hu hv⟩
theorem Rl.cells {W : World} {r : Nat} {v : Value} {us : List (List Int)} {count : Nat} {ep : Int} (h : Rl W r v us count ep) :
    W.cell? ⟨r, 0, none⟩ = some v ∧ W.cell? ⟨r, 1, none⟩ = some (.int .i64 count) ∧ W.cell? ⟨r, 2, none⟩ = some (.int .u64 ep) := by
  have h0 := h.blk.cell 0
  have h1 := h.blk.cell 1
  have h2 := h.blk.cell 2
  simp at h0 h1 h2
  exact ⟨h0, h1, h2⟩
set_option maxHeartbeats 2000000 in
theorem rroom (r : Nat) (v : Value) (us : List (List Int)) (count : Nat) (ep : Int) (w : World) (h : Rl w r v us count ep) (hn : us.length ≤ 65536) (hlong : ∀ u ∈ us, u.length ≤ 20000000) (ht : tot us ≤ count) (hc : count ≤ 65536) :
    Calls Try.prog 22 #[.pointer (some ⟨r, 0, none⟩)] w fun e w' => e = .returned (.int .i64 (count - tot us : Nat)) ∧ w = w' := by
  obtain ⟨c0, c1, c2⟩ := h.cells
  obtain ⟨Av, cv, hv, hcv1, hcv2⟩ := own_shape h.tx
  subst hv
  have HT := hid (Rd.of_own h.tx)
  have HL := hid hlong
  clear h hlong
  go_enter Try.func22, Try.ntmps22
  go_wp2_with (fail)
  go_loopw [3, 14] (fun v3 v14 W => ∃ (i n : Nat), i ≤ us.length ∧ v14 = .int .i64 i ∧ v3 = .int .i64 n ∧ Hid (n + tot (us.take i) = count) ∧ W = w) (fun _ v14 _ => us.length - (intOf v14).toNat)
  case atStart => exact ⟨0, count, by omega, rfl, rfl, hid (by simp [tot_nil]), rfl⟩
  case round =>
    obtain ⟨i, n, hi, rfl, rfl, HN, rfl⟩ := hrel
    by_cases hlt : i < us.length
    · have hle := tot_take_le us (i + 1)
      have hst := tot_take hlt
      have hN := HN.out
      obtain ⟨ad, y, rfl, hy, hcy⟩ := HT.out.at_ hlt
      rw [List.getElem?_map, List.getElem?_eq_getElem hlt] at hy
      simp only [Option.map_some, Option.some.injEq] at hy
      subst hy
      have hul := HL.out _ (List.getElem_mem hlt)
      have hsz := strOfNums_size us[i]
      have hnb : (us[i].length + 232) / 233 = nbl us[i] := rfl
      have HUb := hid (unitBlocks us[i].length wr (by omega))
      rw [hnb] at HUb
      generalize nbl us[i] = k at *
      generalize us[i] = u at *
      have hkn : k ≤ n := by omega
      have HN2 : Hid (n - k + tot (us.take (i + 1)) = count) := hid (by omega)
      have hsub : (n : Int) - (k : Int) = ((n - k : Nat) : Int) := by omega
      have HSz := hid hsz
      have HSb := hid hsub
      have hi1 : (0 : Int) ≤ (i : Int) := by omega
      have hi2 : (i : Int) < (us.length : Int) := by omega
      have hn1 : n ≤ count := by omega
      unfold st at hcy
      clear hst hN hnb hsub hle
      go_wp2_with (fail)
      refine HUb.out.mono ?_
      rintro e w2 ⟨rfl, rfl⟩
      have hsub := HSb.out
      go_wp2
      go_roundw
      case rel => exact ⟨i + 1, n - k, by omega, by go_num, rfl, HN2, trivial⟩
      case measure => simp [intOf]; omega
    · obtain rfl : i = us.length := by omega
      have hN := HN.out
      rw [List.take_length] at hN
      have HE := hid (show n = count - tot us by omega)
      clear hN
      go_wp2
      go_ret
      exact ⟨by rw [HE.out]; rfl, rfl⟩
set_option maxHeartbeats 2000000 in
theorem wrong (r : Nat) (v : Value) (m : Lm) (d : Dm) (A : Option Addr) (c : Nat) (b : List Int) (w : World) (h : Rl w r v m.us m.count m.ep) (hs : Snd m d) (hb : b.length ≤ 4000) :
    Calls Try.prog 20 #[.pointer (some ⟨r, 0, none⟩), .slice A b.length c] w fun e w' => e = .returned (.int .i64 (apC m b)) ∧ w = w' := by
  have hcnt := hs.ok.area
  have hle := hs.ok.le
  have HR := hid (rroom r v m.us m.count m.ep w h hs.ok.many hs.ok.long (by have := hs.tot_; omega) (by omega))
  rw [← hs.tot_] at HR
  have HUb := hid (unitBlocks b.length w (by omega))
  have hnb : (b.length + 232) / 233 = nbl b := rfl
  rw [hnb] at HUb
  have hap : apC m b = if b.length = 0 then 1 else if m.count - m.used < nbl b then 6 else 0 := by
    unfold apC
    by_cases h0 : b.length = 0
    · rw [if_pos h0, if_pos h0]
    · rw [if_neg h0, if_neg h0, if_neg (by omega)]
  have HAp := hid hap
  clear hap hnb h hs
  generalize apC m b = rc at *
  generalize m.count - m.used = k at *
  generalize nbl b = n at *
  by_cases h0 : b.length = 0
  · have hr : rc = 1 := by rw [HAp.out, if_pos h0]
    subst hr
    have h0' : ((b.length : Int) == 0) = true := by simp [h0]
    clear h0 HAp
    go_enter Try.func20, Try.ntmps20
    go_wp2
    go_ret
    exact ⟨rfl, rfl⟩
  · have h0' : ((b.length : Int) == 0) = false := by simpa using h0
    by_cases hk : k < n
    · have hr : rc = 6 := by rw [HAp.out, if_neg h0, if_pos hk]
      subst hr
      have hk' : (k : Int) < (n : Int) := by omega
      clear h0 HAp
      go_enter Try.func20, Try.ntmps20
      go_wp2_with (fail)
      refine HUb.out.mono ?_
      rintro e w2 ⟨rfl, rfl⟩
      go_wp2_with (fail)
      refine HR.out.mono ?_
      rintro e w2 ⟨rfl, rfl⟩
      go_wp2
      go_ret
      exact ⟨rfl, rfl⟩
    · have hr : rc = 0 := by rw [HAp.out, if_neg h0, if_neg hk]
      subst hr
      have hk' : ¬ (k : Int) < (n : Int) := by omega
      clear h0 HAp
      go_enter Try.func20, Try.ntmps20
      go_wp2_with (fail)
      refine HUb.out.mono ?_
      rintro e w2 ⟨rfl, rfl⟩
      go_wp2_with (fail)
      refine HR.out.mono ?_
      rintro e w2 ⟨rfl, rfl⟩
      go_wp2
      go_ret
      exact ⟨rfl, rfl⟩
end Go.Proofs.Ytheopehhpoikdaa.Gl
