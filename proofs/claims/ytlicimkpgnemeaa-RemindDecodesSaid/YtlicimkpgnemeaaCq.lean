/-
  The walks of the reference writers, reeveref01.Number, Int, Text.
-/
import Derived.Test.YtlicimkpgnemeaaCw2
import Derived.Test.YtlicimkpgnemeaaCp
set_option linter.unusedVariables false
set_option linter.unusedSimpArgs false
namespace Go.Proofs.Ytlicimkpgnemeaa.Cq
open Go.RowKit Go.Proofs.Ytlicimkpgnemeaa.B Go.Proofs.Ytlicimkpgnemeaa.Cm Go.Proofs.Ytlicimkpgnemeaa.Cw
/-- v owns the bytes bs. -/
def Ob (W : World) (v : Value) (bs : List Int) : Prop := W.ownsRow 0 5 1 v bs.length (nums .u8 bs)
/-- v's own block. -/
def Ow (v : Value) (k : Nat) : Prop := v.ownBlock = some k
theorem Ob.nil (W : World) : Ob W (.slice none 0 0) [] := World.ownsRow_nil _ _ _ _
theorem Ob.lt {W : World} {v : Value} {bs : List Int} (h : Ob W v bs) : ∀ k, Ow v k → k < W.heap.size := fun k hk => (World.ownsRow.lt h k hk).2
theorem Ob.keep {w w' : World} {v : Value} {bs : List Int} {G : Nat → Prop} (h : Ob w v bs) (hu : Upd G w w') (hn : ∀ k, Ow v k → ¬ G k) : Ob w' v bs := own_upd h hu hn
theorem Ob.one {w W w1 : World} {v : Value} {g c : Nat} {y : Int} {bs : List Int} (hW : Upd No w W) (ho1 : w1.ownsRow 0 5 1 (.slice (some ⟨g, 0, none⟩) (bs.length + 1) c) (bs.length + 1) (nums .u8 bs ++ [.int .u8 y])) (hg1 : W.grownBy w1 v.ownBlock) (hat : v.ownBlock = some g ∨ W.heap.size ≤ g) :
    Ob w1 (.slice (some ⟨g, 0, none⟩) (bs.length + 1) c) (bs ++ [y]) ∧ Mv (Ow v) (Ow (.slice (some ⟨g, 0, none⟩) (bs.length + 1) c)) w w1 := by
  refine ⟨?_, ⟨(hW.mono fun _ _ h => h.elim).grown hg1 fun k hk => .inl hk, fun k hk => ?_⟩⟩
  · unfold Ob
    rw [nums_append, List.length_append]
    exact ho1
  · have : g = k := by simpa [Ow, Value.ownBlock] using hk
    subst this
    exact hat.imp id fun h => Nat.le_trans hW.size h
theorem Ob.more {w W w1 : World} {v : Value} {A : Option Addr} {c m : Nat} {ys bs : List Int} (hm : m = ys.length) (hW : Upd No w W) (ho1 : w1.ownsRow 0 5 1 (.slice A (bs.length + m) c) (bs.length + m) (nums .u8 bs ++ nums .u8 ys)) (hg1 : W.grownBy w1 v.ownBlock)
    (hat : ∀ g, (Value.slice A (bs.length + m) c).ownBlock = some g → v.ownBlock = some g ∨ W.heap.size ≤ g) :
    Ob w1 (.slice A (bs.length + m) c) (bs ++ ys) ∧ Mv (Ow v) (Ow (.slice A (bs.length + m) c)) w w1 := by
  refine ⟨?_, ⟨(hW.mono fun _ _ h => h.elim).grown hg1 fun k hk => .inl hk, fun k hk => (hat k hk).imp id fun h => Nat.le_trans hW.size h⟩⟩
  unfold Ob
  rw [nums_append, List.length_append, ← hm]
  exact ho1
/-- What a reference writer leaves. -/
def Post (v : Value) (bs : List Int) (w : World) (e : Ending) (w' : World) : Prop := ∃ v', e = .returned v' ∧ Ob w' v' bs ∧ Mv (Ow v) (Ow v') w w'
set_option maxHeartbeats 400000 in
theorem number_small (v : Value) (bs : List Int) (n : Int) (w : World) (ho : Ob w v bs) (h0 : 0 ≤ n) (h1 : n < 248) (hl : bs.length ≤ 140737488355000) :
    Calls Try.prog 40 #[v, .int .u64 n] w (Post v (bs ++ [n]) w) := by
  obtain ⟨A, c, hv, _, _⟩ := own_shape ho
  go_enter Try.func40, Try.ntmps40
  go_wp2_with (at_builtin; go_must (refine ap_one rfl (.tmp 9) (.tmp 12) 50 5 (.int .u8 0) 1 rfl Try.underlying50 u8_info rfl v bs.length (nums .u8 bs) _ rfl rfl (Blk.fresh _ _ _) rfl (World.ownsRow.alloc ho _) (by omega) (by omega) ?_); intro g1 c1 w1 ho1 hg1 hat1)
  go_ret
  obtain ⟨h1, h2⟩ := Ob.one (y := n) ((Upd.refl No w).alloc _) ho1 hg1 hat1
  exact ⟨_, rfl, h1, h2⟩
theorem nb_more (n : Int) (j : Nat) (h0 : 248 ≤ n) (h1 : n ≤ 18446744073709551615) (hj : 1 ≤ j) (hj8 : j < 8) : 0 < n / 256 ^ j ↔ j < nb n := by
  obtain ⟨p1, p2, p3, p4, p5, p6, p7, p8⟩ := Cp.pow_vals
  have : j = 1 ∨ j = 2 ∨ j = 3 ∨ j = 4 ∨ j = 5 ∨ j = 6 ∨ j = 7 := by omega
  unfold nb
  rcases this with rfl | rfl | rfl | rfl | rfl | rfl | rfl
  all_goals
    first | rw [p1] | rw [p2] | rw [p3] | rw [p4] | rw [p5] | rw [p6] | rw [p7]
    repeat' split
    all_goals omega
theorem nb_more' (n : Int) (j : Nat) (h0 : 248 ≤ n) (h1 : n ≤ 18446744073709551615) (hj : 1 ≤ j) (hj8 : j < 8) : 0 < n / 2 ^ (8 * j) ↔ j < nb n := by
  rw [Int.pow_mul]
  exact nb_more n j h0 h1 hj hj8
set_option maxHeartbeats 1000000 in
set_option maxRecDepth 100000 in
theorem number_big (v : Value) (bs : List Int) (n : Int) (w : World) (ho : Ob w v bs) (h0 : 248 ≤ n) (h1 : n ≤ 18446744073709551615) (hl : bs.length ≤ 140737488355000) :
    Calls Try.prog 40 #[v, .int .u64 n] w (Post v (bs ++ (247 + nb n : Int) :: be n (nb n) (nb n)) w) := by
  obtain ⟨A, c, rfl, _, _⟩ := own_shape ho
  have hnb := nb_pos n
  have HM := hid (fun j => nb_more' n j h0 h1)
  obtain ⟨K, hK⟩ : ∃ K, K = nb n := ⟨_, rfl⟩
  rw [← hK] at hnb HM ⊢
  clear hK
  go_enter Try.func40, Try.ntmps40
  go_wp2
  go_loop [5] (fun v5 => ∃ j : Nat, 1 ≤ j ∧ j ≤ K ∧ v5 = .int .i64 j) (fun v5 => K - (intOf v5).toNat)
  case atStart => exact ⟨1, by omega, by omega, rfl⟩
  case round =>
    obtain ⟨j, hj1, hj, rfl⟩ := hrel
    by_cases hlt : j < K
    · have hj8 : (j : Int) < 8 := by omega
      have hpos := (HM.out j hj1 (by omega)).2 hlt
      go_wp2
      go_round
      case rel => exact ⟨j + 1, by omega, by omega, by go_num⟩
      case measure => simp [intOf]; omega
    · obtain rfl : j = K := by omega
      have hG : ((j : Int) < 8 ∧ n / 2 ^ (8 * j) ≤ 0) ∨ 8 ≤ (j : Int) := by
        by_cases h : j < 8
        · have := mt (HM.out j hj1 h).1 hlt
          exact .inl ⟨by omega, by omega⟩
        · exact .inr (by omega)
      clear HM hlt
      rcases hG with ⟨hj8, hpos⟩ | hj8
      all_goals
        go_wp2_with (at_builtin; go_must (refine ap_one rfl (.tmp 26) (.tmp 30) 50 5 (.int .u8 0) 1 rfl Try.underlying50 u8_info rfl (.slice A bs.length c) bs.length (nums .u8 bs) (.int .u8 (247 + (j : Int))) rfl rfl (Blk.fresh _ _ _) rfl (World.ownsRow.alloc ho _) (by omega) (by omega) ?_); intro g1 c1 w1 ho1 hg1 hat1)
        obtain ⟨ho2, hm2⟩ := Ob.one (y := 247 + (j : Int)) ((Upd.refl No w).alloc _) ho1 hg1 hat1
        clear ho1 hg1 hat1 hj8
        go_loopw [0, 6] (fun v0 v6 W => ∃ (i : Nat) (cs : List Int), i ≤ j ∧ v6 = .int .i64 ((j : Int) - 1 - i) ∧ Hid (cs = bs ++ (247 + j : Int) :: be n j i) ∧ Ob W v0 cs ∧ Mv (Ow (.slice A bs.length c)) (Ow v0) w W) (fun _ v6 _ => (intOf v6 + 1).toNat)
        case atStart => exact ⟨0, _, by omega, by simp, hid (by simp [be]), ho2, hm2⟩
        case round =>
          obtain ⟨i, cs, hi, rfl, hcs, ho3, hm3⟩ := hrel
          have hlen : cs.length ≤ 140737488355100 := by rw [hcs.out]; simp [be_length]; omega
          obtain ⟨A3, c3, rfl, _, _⟩ := own_shape ho3
          by_cases hlt : i < j
          · have hg1 : (0 : Int) ≤ (j : Int) - 1 - i := by omega
            have k1 : cs.length + 1 ≤ 9223372036854775807 := by omega
            have k2 : (cs.length + 1) * 1 ≤ 140737488355328 := by omega
            go_wp2_with (at_builtin; go_must (refine ap_one rfl (.tmp 38) (.tmp 45) 50 5 (.int .u8 0) 1 rfl Try.underlying50 u8_info rfl (.slice A3 cs.length c3) cs.length (nums .u8 cs) _ rfl rfl (Blk.fresh _ _ _) rfl (World.ownsRow.alloc ho3 _) k1 k2 ?_); intro g1 c1 w1 ho1 hg1 hat1)
            obtain ⟨ho4, hm4⟩ := Ob.one (y := n / 2 ^ (8 * (j - 1 - i)) % 256) ((Upd.refl No wr).alloc _) ho1 hg1 hat1
            have e : cs ++ [n / 2 ^ (8 * (j - 1 - i)) % 256] = bs ++ (247 + j : Int) :: be n j (i + 1) := by
              rw [hcs.out, be_succ, Int.pow_mul]
              simp
            go_wp2
            go_roundw
            case rel => exact ⟨i + 1, _, by omega, by go_num, hid e, ho4, hm3.trans hm4⟩
            case measure => simp [intOf]; omega
          · have hg1 : ¬ (0 : Int) ≤ (j : Int) - 1 - i := by omega
            obtain rfl : i = j := by omega
            go_wp2
            go_ret
            exact ⟨_, rfl, hcs.out ▸ ho3, hm3⟩
/-- Number appends a number's bytes. -/
theorem number (v : Value) (bs : List Int) (n : Int) (w : World) (ho : Ob w v bs) (h0 : 0 ≤ n) (h1 : n ≤ 18446744073709551615) (hl : bs.length ≤ 140737488355000) :
    Calls Try.prog 40 #[v, .int .u64 n] w (Post v (bs ++ num n) w) := by
  unfold num
  by_cases h : n < 248
  · rw [if_pos h]
    exact number_small v bs n w ho h0 h hl
  · rw [if_neg h]
    exact number_big v bs n w ho (by omega) h1 hl
theorem or_one (a : Int) (h0 : 0 ≤ a) (h1 : a < 9223372036854775808) : bits .or .u64 (IntKind.u64.wrap (a * 2)) 1 = a * 2 + 1 := by
  obtain ⟨m, rfl⟩ := Int.eq_ofNat_of_zero_le h0
  have e1 : IntKind.u64.wrap ((m : Int) * 2) = ((m * 2 : Nat) : Int) := by rw [IntKind.wrap_u64]; omega
  rw [e1]
  show IntKind.u64.wrap ((BitVec.ofInt 64 ((m * 2 : Nat) : Int) ||| BitVec.ofInt 64 1).toNat : Int) = _
  have e2 : (BitVec.ofInt 64 ((m * 2 : Nat) : Int)).toNat = m * 2 := by
    rw [BitVec.ofInt_natCast, BitVec.toNat_ofNat]; exact Nat.mod_eq_of_lt (by omega)
  have e4 : (BitVec.ofInt 64 1).toNat = 1 := rfl
  rw [BitVec.toNat_or, e2, e4, IntKind.wrap_u64]
  have e3 : m * 2 ||| 1 = m * 2 + 1 := by
    have := Nat.shiftLeft_add_eq_or_of_lt (i := 1) (b := 1) (by omega) m
    rw [Nat.shiftLeft_eq, show (2 : Nat) ^ 1 = 2 from rfl] at this
    omega
  rw [e3]
  omega
set_option maxHeartbeats 1000000 in
theorem int_ (v : Value) (bs : List Int) (n : Int) (w : World) (ho : Ob w v bs) (h0 : -9223372036854775808 ≤ n) (h1 : n ≤ 9223372036854775807) (hl : bs.length ≤ 140737488355000) :
    Calls Try.prog 42 #[v, .int .i64 n] w (Post v (bs ++ num (zz n)) w) := by
  have hr := zz_range n h0 h1
  obtain ⟨z, hz⟩ : ∃ z, z = zz n := ⟨_, rfl⟩
  obtain ⟨cs, hcs⟩ : ∃ cs, cs = bs ++ num (zz n) := ⟨_, rfl⟩
  have C : Hid (Calls Try.prog 40 #[v, .int .u64 z] w (Post v cs w)) := hid (by rw [hz, hcs]; exact number v bs (zz n) w ho hr.1 hr.2 hl)
  rw [← hcs]
  clear hcs hr
  obtain ⟨A, c, rfl, _, _⟩ := own_shape ho
  by_cases h : 0 ≤ n
  · have hz2 : z = n * 2 := by
      rw [hz]
      unfold zz
      rw [if_pos h]
      omega
    clear hz
    subst hz2
    go_enter Try.func42, Try.ntmps42
    go_wp2_with (fail)
    refine Calls.mono C.out ?_
    rintro e w' ⟨v', rfl, h1', h2'⟩
    go_wp2
    go_ret
    exact ⟨v', rfl, h1', h2'⟩
  · have hz2 : bits .or .u64 ((-(n + 1)) * 2) 1 = z := by
      have := or_one (-(n + 1)) (by omega) (by omega)
      rw [IntKind.wrap_u64] at this
      rw [hz]
      unfold zz
      rw [if_neg h, show (-(n + 1)) * 2 = (-(n + 1)) * 2 % 18446744073709551616 from by omega, this]
      omega
    have HZ := hid hz2
    clear hz
    go_enter Try.func42, Try.ntmps42
    go_wp2_with (fail)
    refine Calls.mono C.out ?_
    rintro e w' ⟨v', rfl, h1', h2'⟩
    go_wp2
    go_ret
    exact ⟨v', rfl, h1', h2'⟩
set_option maxHeartbeats 1000000 in
theorem text_ (v : Value) (bs : List Int) (s : ByteArray) (w : World) (ho : Ob w v bs) (hl : bs.length + s.size ≤ 140737488355000) :
    Calls Try.prog 41 #[v, .string s] w (Post v (bs ++ num s.size ++ sb s) w) := by
  have hnl := num_length s.size
  have C := hid (number v bs s.size w ho (by omega) (by omega) (by omega))
  obtain ⟨A, c, rfl, _, _⟩ := own_shape ho
  go_enter Try.func41, Try.ntmps41
  go_wp2_with (fail)
  refine Calls.mono C.out ?_
  rintro e w' ⟨v', rfl, h1', h2'⟩
  obtain ⟨ds, hds, hdl⟩ : ∃ ds, Hid (ds = bs ++ num s.size) ∧ ds.length + s.size ≤ 140737488355328 := ⟨_, hid rfl, by simp; omega⟩
  rw [← hds.out] at h1'
  obtain ⟨A1, c1, rfl, _, _⟩ := own_shape h1'
  go_wp2_with (at_builtin; go_must (refine ap_str 0 rfl (.tmp 9) (.tmp 10) 50 9 5 rfl Try.underlying50 Try.underlying9 u8_info (.slice A1 ds.length c1) ds.length (nums .u8 ds) s rfl rfl h1' hdl (Nat.zero_le _) ?_); intro A2 c2 w1 ho1 hg1 hat1)
  go_ret
  obtain ⟨h3, h4⟩ := Ob.more (ys := sb s) (sb_length s).symm (Upd.refl No w') (by rw [← sb_cells]; exact ho1) hg1 hat1
  exact ⟨_, rfl, hds.out ▸ h3, h2'.trans h4⟩
end Go.Proofs.Ytlicimkpgnemeaa.Cq