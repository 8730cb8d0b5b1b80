/-
  The walks of package codec's Reader.
-/
import Derived.Test.YtlicimkpgnemeaaCw2
set_option linter.unusedVariables false
set_option linter.unusedSimpArgs false
namespace Go.Proofs.Ytlicimkpgnemeaa.Cr
open Go.RowKit Go.Proofs.Ytlicimkpgnemeaa.B Go.Proofs.Ytlicimkpgnemeaa.Cm Go.Proofs.Ytlicimkpgnemeaa.Cw
def Byte (l : List Int) : Prop := ∀ c ∈ l, 0 ≤ c ∧ c ≤ 255

/-- A reader of struct type T at block p with l left; F: its blocks. -/
structure Rr (T : TypeId) (w : World) (F : Nat → Prop) (p : Nat) (A : Option Addr) (c : Nat) (l : List Int) (bad : Bool) : Prop where
  blk : Blk w p T #[.slice A l.length c, .bool bad]
  rd : Rn w .u8 A l
  cap : l.length ≤ c
  top : c ≤ 9223372036854775807
  byte : Byte l
  nil : bad = true → l = []
  here : F p
  row : l ≠ [] → ∀ ad, A = some ad → F ad.block ∧ ad.block ≠ p
  lt : ∀ k, F k → k < w.heap.size
theorem Rd.upd0 {w w' : World} {A : Option Addr} {n size : Nat} {xs : List Value} {F : Nat → Prop} (h : Rd w size A n xs) (hs : 0 < size) (hu : Upd F w w') (hn : 0 < n → ∀ ad, A = some ad → ¬ F ad.block) : Rd w' size A n xs := by
  by_cases h0 : 0 < n
  · exact Rd.upd h hs hu (hn h0)
  · exact ⟨h.1, fun h1 => absurd h1 h0⟩
theorem Rr.keep {T : TypeId} {w w' : World} {F G : Nat → Prop} {p c : Nat} {A : Option Addr} {l : List Int} {bad : Bool} (h : Rr T w F p A c l bad) (hu : Upd G w w') (hn : ∀ k, F k → ¬ G k) : Rr T w' F p A c l bad :=
  { h with blk := h.blk.upd hu (hn p h.here), rd := Rd.upd0 h.rd (by omega) hu fun h0 ad e => hn _ (h.row (List.length_pos_iff.1 h0) ad e).1, lt := fun k hk => Nat.lt_of_lt_of_le (h.lt k hk) hu.size }
/-- The slice is set anew, to a part of itself. -/
theorem Rr.cut {T : TypeId} {w : World} {F : Nat → Prop} {p c : Nat} {A : Option Addr} {l : List Int} {bad : Bool} (h : Rr T w F p A c l bad) {m : Nat} (hm : m ≤ l.length) {A' : Option Addr} (hA : A' = (if c = m then A else A.map (·.add m))) :
    Rr T (w.setCell ⟨p, 0, none⟩ (.slice A' (l.length - m) (c - m))) F p A' (c - m) (l.drop m) bad := by
  subst hA
  have hu : Upd (fun k => k = p) w (w.setCell ⟨p, 0, none⟩ (.slice (if c = m then A else A.map (·.add m)) (l.length - m) (c - m))) := Upd.set (F := fun k => k = p) (Upd.refl _ _) (.inl rfl) _
  have hr : l.drop m ≠ [] → ∀ ad, (if c = m then A else A.map (·.add m)) = some ad → F ad.block ∧ ad.block ≠ p := fun hne ad e => by
    obtain ⟨ad0, e0, hb⟩ := cut_block e
    rw [hb]
    exact h.row (fun hl => hne (by rw [hl]; simp)) ad0 e0
  refine ⟨?_, Rd.upd0 (h.rd.drop hm h.cap) (by omega) hu fun h0 ad e => (hr (fun hl => by rw [hl] at h0; simp at h0) ad e).2, ?_, by have := h.top; omega, fun x hx => h.byte x (List.mem_of_mem_drop hx), fun hb => by rw [h.nil hb]; simp, h.here, hr, fun k hk => Nat.lt_of_lt_of_le (h.lt k hk) hu.size⟩
  · rw [List.length_drop]
    exact h.blk.put 0 _
  · rw [List.length_drop]
    have := h.cap
    omega
/-- It is bad from now on. -/
theorem Rr.failed {T : TypeId} {w : World} {F : Nat → Prop} {p c : Nat} {A : Option Addr} {l : List Int} {bad : Bool} (h : Rr T w F p A c l bad) :
    Rr T ((w.setCell ⟨p, 0, none⟩ (.slice none 0 0)).setCell ⟨p, 1, none⟩ (.bool true)) F p none 0 [] true :=
  ⟨(h.blk.put 0 _).put 1 _, Rd.nil_ _ _ _, by simp, by omega, fun x hx => by simp at hx, fun _ => rfl, h.here, fun _ ad e => by simp at e, fun k hk => by have := h.lt k hk; simpa [World.setCell] using this⟩

theorem or_byte (a c : Int) (h0 : 0 ≤ a) (h1 : a < 72057594037927936) (h2 : 0 ≤ c) (h3 : c ≤ 255) : bits .or .u64 (IntKind.u64.wrap (a * 256)) c = a * 256 + c := by
  obtain ⟨m, rfl⟩ := Int.eq_ofNat_of_zero_le h0
  obtain ⟨d, rfl⟩ := Int.eq_ofNat_of_zero_le h2
  have e1 : IntKind.u64.wrap ((m : Int) * 256) = ((m * 256 : Nat) : Int) := by rw [IntKind.wrap_u64]; omega
  rw [e1]
  show IntKind.u64.wrap ((BitVec.ofInt 64 ((m * 256 : Nat) : Int) ||| BitVec.ofInt 64 (d : Int)).toNat : Int) = _
  have e2 : ∀ x : Nat, x < 18446744073709551616 → (BitVec.ofInt 64 (x : Int)).toNat = x := fun x hx => by
    rw [BitVec.ofInt_natCast, BitVec.toNat_ofNat]; exact Nat.mod_eq_of_lt (by omega)
  rw [BitVec.toNat_or, e2 _ (by omega), e2 _ (by omega), IntKind.wrap_u64]
  have e3 : m * 256 ||| d = m * 256 + d := by
    have := Nat.shiftLeft_add_eq_or_of_lt (i := 8) (b := d) (by omega) m
    rw [Nat.shiftLeft_eq, show (2 : Nat) ^ 8 = 256 from rfl] at this
    omega
  rw [e3]
  omega

set_option maxHeartbeats 400000 in
theorem newReader (A : Option Addr) (c : Nat) (l : List Int) (w : World) (hr : Rn w .u8 A l) (hl : l.length ≤ 140737488355328) (hb : Byte l) :
    Calls Try.prog 43 #[.slice A l.length c] w fun e w' => ∃ F p A' c', e = .returned (.pointer (some ⟨p, 0, none⟩)) ∧ Rr 100 w' F p A' c' l false ∧ (∀ k, F k → w.heap.size ≤ k) ∧ Below w.heap.size w w' := by
  go_enter Try.func43, Try.ntmps43
  go_wp2_with (at_builtin; go_must (refine ap_row w.heap.size rfl (.tmp 3) (.tmp 4) 50 5 (.int .u8 0) 1 1 rfl Try.underlying50 u8_info rfl (by omega) (.slice (some ⟨w.heap.size, 0, none⟩) 0 0) 0 [] A l.length c (nums .u8 l) rfl rfl (World.ownsRow_made w #[] 0 (Nat.le_refl _) (Nat.zero_le _) rfl) (Rd.alloc hr (by omega) _) (nums_one _ _) (by omega) (by omega) (by simp) ?_); intro A1 c1 w1 ho1 hg1 hat1)
  go_ret
  have hlt : ∀ k, (Value.slice A1 (0 + l.length) c1).ownBlock = some k → w.heap.size ≤ k ∧ k < w1.heap.size := fun k hk => ho1.lt k hk
  have hup : Below w.heap.size w w1 := ((Below.refl _ _).alloc (Nat.le_refl _) _).grown hg1 (by simp) fun k hk => by
    have : w.heap.size = k := by simpa [Value.ownBlock] using hk
    omega
  obtain ⟨A2, c2, hv, hc1, hc2⟩ := own_shape ho1
  have hrd : Rn (w1.alloc (.cells #[.slice A1 l.length c1, .bool false] 100)) .u8 A1 l := by
    have := (Rd.of_own ho1).alloc (by omega) (.cells #[.slice A1 l.length c1, .bool false] 100)
    simpa [Rn] using this
  have hAg : ∀ ad, A1 = some ad → w.heap.size ≤ ad.block ∧ ad.block < w1.heap.size := fun ad e => hlt ad.block (by simp [Value.ownBlock, e])
  injection hv with hv1 hv2 hv3
  subst hv1 hv3
  refine ⟨fun k => k = w1.heap.size ∨ (Value.slice A1 (0 + l.length) c1).ownBlock = some k, w1.heap.size, A1, c1, rfl, ⟨Blk.fresh _ _ _, hrd, by omega, hc2, hb, (fun h => by cases h), .inl rfl, ?_, ?_⟩, ?_, hup.alloc hup.size _⟩
  · intro _ ad e
    refine ⟨.inr (by simp [Value.ownBlock, e]), ?_⟩
    have := hAg ad e
    omega
  · rintro k (rfl | hk)
    · simp
    · have := hlt k hk
      simp; omega
  · rintro k (rfl | hk)
    · exact hup.size
    · exact (hlt k hk).1
set_option maxHeartbeats 400000 in
theorem fail_ (p : Nat) (v b : Value) (w : World) (hb : Blk w p 100 #[v, b]) :
    Calls Try.prog 65 #[.pointer (some ⟨p, 0, none⟩)] w fun e w' => e = .returned (.tuple #[]) ∧ (w.setCell ⟨p, 0, none⟩ (.slice none 0 0)).setCell ⟨p, 1, none⟩ (.bool true) = w' := by
  have hc := hb.cell 0
  have hf := hb.free 0
  have hc1 := hb.cell 1
  have hf1 := hb.free 1
  simp at hc hc1
  go_enter Try.func65, Try.ntmps65
  go_wp2
  go_end0
  exact ⟨rfl, rfl⟩
set_option maxHeartbeats 400000 in
theorem bad_nil (w : World) : Calls Try.prog 47 #[.pointer none] w fun e w' => e = .returned (.bool false) ∧ w = w' := by
  go_enter Try.func47, Try.ntmps47
  go_wp2
  go_ret
  exact ⟨rfl, rfl⟩
set_option maxHeartbeats 400000 in
theorem bad (p : Nat) (b : Bool) (v : Value) (w : World) (hb : Blk w p 100 #[v, .bool b]) :
    Calls Try.prog 47 #[.pointer (some ⟨p, 0, none⟩)] w fun e w' => e = .returned (.bool b) ∧ w = w' := by
  have hc := hb.cell 1
  simp at hc
  go_enter Try.func47, Try.ntmps47
  go_wp2
  go_ret
  exact ⟨rfl, rfl⟩
set_option maxHeartbeats 400000 in
theorem end_nil (w : World) : Calls Try.prog 49 #[.pointer none] w fun e w' => e = .returned (.bool false) ∧ w = w' := by
  go_enter Try.func49, Try.ntmps49
  go_wp2
  go_ret
  exact ⟨rfl, rfl⟩
set_option maxHeartbeats 400000 in
theorem end_ (p n c : Nat) (A : Option Addr) (b : Bool) (w : World) (hb : Blk w p 100 #[.slice A n c, .bool b]) :
    Calls Try.prog 49 #[.pointer (some ⟨p, 0, none⟩)] w fun e w' => e = .returned (.bool (!b && decide (n = 0))) ∧ w = w' := by
  have hc := hb.cell 0
  have hc1 := hb.cell 1
  simp at hc hc1
  go_enter Try.func49, Try.ntmps49
  cases b
  all_goals
    go_wp2
    go_ret
    refine ⟨congrArg Ending.returned (congrArg Value.bool ?_), rfl⟩
  · show ((n : Int) == 0) = _
    by_cases h : n = 0 <;> simp [h]
  · rfl
/-- What a call of Number leaves. -/
def NumPost (T : TypeId) (F : Nat → Prop) (p : Nat) (l : List Int) (bad : Bool) (w : World) (e : Ending) (w' : World) : Prop :=
  e = .returned (.int .u64 (stN l bad).1) ∧ ∃ A' c', Rr T w' F p A' c' (stN l bad).2.1 (stN l bad).2.2 ∧ Upd (fun k => k = p) w w'
theorem NumPost.failed {T : TypeId} {F : Nat → Prop} {p c : Nat} {A : Option Addr} {l : List Int} {bad : Bool} {w : World} (h : Rr T w F p A c l bad) (hn : rdNum l = none) :
    NumPost T F p l bad w (.returned (.int .u64 0)) ((w.setCell ⟨p, 0, none⟩ (.slice none 0 0)).setCell ⟨p, 1, none⟩ (.bool true)) := by
  have e : stN l bad = (0, [], true) := by simp [stN, hn]
  unfold NumPost
  rw [e]
  exact ⟨rfl, _, _, h.failed, (Upd.set (F := fun k => k = p) (Upd.refl _ _) (.inl rfl) _).set (.inl rfl) _⟩
theorem NumPost.done {T : TypeId} {F : Nat → Prop} {p c m : Nat} {A A' : Option Addr} {l : List Int} {bad : Bool} {n : Int} {w : World} (h : Rr T w F p A c l bad) (hm : m ≤ l.length) (hA : A' = (if c = m then A else A.map (·.add m))) (hn : rdNum l = some (n, l.drop m)) :
    NumPost T F p l bad w (.returned (.int .u64 n)) (w.setCell ⟨p, 0, none⟩ (.slice A' (l.length - m) (c - m))) := by
  have e : stN l bad = (n, l.drop m, bad) := by simp [stN, hn]
  unfold NumPost
  rw [e]
  exact ⟨rfl, _, _, h.cut hm hA, Upd.set (F := fun k => k = p) (Upd.refl _ _) (.inl rfl) _⟩
theorem u8_size : (Try.prog.info? 5).map (·.size) = some 1 := by kernel_rfl

set_option maxHeartbeats 400000 in
theorem rnumber_nil (w : World) : Calls Try.prog 44 #[.pointer none] w fun e w' => e = .returned (.int .u64 0) ∧ w = w' := by
  go_enter Try.func44, Try.ntmps44
  go_wp2
  go_ret
  exact ⟨rfl, rfl⟩
set_option maxHeartbeats 1000000 in
set_option maxRecDepth 100000 in
theorem rnumber_bad (F : Nat → Prop) (p c : Nat) (A : Option Addr) (l : List Int) (w : World) (h : Rr 100 w F p A c l true) :
    Calls Try.prog 44 #[.pointer (some ⟨p, 0, none⟩)] w (NumPost 100 F p l true w) := by
  have hl := h.nil rfl
  subst hl
  have hc := h.blk.cell 0
  have hc1 := h.blk.cell 1
  simp at hc hc1
  go_enter Try.func44, Try.ntmps44
  go_wp2
  go_ret
  exact ⟨rfl, A, c, h, Upd.refl _ _⟩
set_option maxHeartbeats 1000000 in
set_option maxRecDepth 100000 in
theorem rnumber_empty (F : Nat → Prop) (p c : Nat) (A : Option Addr) (w : World) (h : Rr 100 w F p A c [] false) :
    Calls Try.prog 44 #[.pointer (some ⟨p, 0, none⟩)] w (NumPost 100 F p [] false w) := by
  have hc := h.blk.cell 0
  have hc1 := h.blk.cell 1
  simp at hc hc1
  go_enter Try.func44, Try.ntmps44
  go_wp2_with (fail)
  refine (fail_ _ _ _ _ h.blk).mono ?_
  rintro e w' ⟨rfl, rfl⟩
  go_wp2
  go_ret
  exact NumPost.failed h rfl
set_option maxHeartbeats 1000000 in
set_option maxRecDepth 100000 in
theorem rnumber_small (F : Nat → Prop) (p c : Nat) (A : Option Addr) (l : List Int) (w : World) (h : Rr 100 w F p A c l false) (hl : 0 < l.length) (hf : gi l 0 < 248) (hn : rdNum l = some (gi l 0, l.drop 1)) :
    Calls Try.prog 44 #[.pointer (some ⟨p, 0, none⟩)] w (NumPost 100 F p l false w) := by
  have hc := h.blk.cell 0
  have hc1 := h.blk.cell 1
  have hfr := h.blk.free 0
  simp at hc hc1
  obtain ⟨ad, rfl, hx⟩ := h.rd.at_ hl
  rw [add_none] at hx
  have hby := h.byte _ (gi_mem l 0 hl)
  have hcap := h.cap
  have htop := h.top
  obtain ⟨A', hA', hcut⟩ := cut_from (P := Try.prog) 50 5 .i64 Try.underlying50 u8_size (some ad) l.length c 1 1 rfl (by omega)
  have hfin := hid (NumPost.done h (by omega) hA' hn)
  clear hA' hn h
  have hne : ((l.length : Int) == 0) = false := beq_eq_false_iff_ne.2 (by omega)
  have hil : (0 : Int) < l.length := by omega
  go_enter Try.func44, Try.ntmps44
  go_wp2
  go_ret
  exact hfin.out
set_option maxHeartbeats 1000000 in
set_option maxRecDepth 100000 in
theorem rnumber_short (F : Nat → Prop) (p c : Nat) (A : Option Addr) (l : List Int) (w : World) (h : Rr 100 w F p A c l false) (hl : 0 < l.length) (hf : 248 ≤ gi l 0) (hs : (l.length : Int) - 1 < gi l 0 - 247) (hn : rdNum l = none) :
    Calls Try.prog 44 #[.pointer (some ⟨p, 0, none⟩)] w (NumPost 100 F p l false w) := by
  have hc := h.blk.cell 0
  have hc1 := h.blk.cell 1
  have hfr := h.blk.free 0
  simp at hc hc1
  obtain ⟨ad, rfl, hx⟩ := h.rd.at_ hl
  rw [add_none] at hx
  have hby := h.byte _ (gi_mem l 0 hl)
  have hcap := h.cap
  have htop := h.top
  have hfin := hid (NumPost.failed h hn)
  have hblk := hid h.blk
  clear hn h
  have hne : ((l.length : Int) == 0) = false := beq_eq_false_iff_ne.2 (by omega)
  have hil : (0 : Int) < l.length := by omega
  go_enter Try.func44, Try.ntmps44
  go_wp2_with (fail)
  refine (fail_ _ _ _ _ hblk.out).mono ?_
  rintro e w' ⟨rfl, rfl⟩
  go_wp2
  go_ret
  exact hfin.out
/-- The rounds over the k bytes behind the first, and what stands behind them. -/
theorem val_step (l : List Int) (j : Nat) (hj : j < l.length) : val (l.take (j + 1)) = val (l.take j) * 256 + gi l j := by
  rw [List.take_succ_eq_append_getElem hj, val_snoc]
  simp [gi, List.getD_eq_getElem?_getD, List.getElem?_eq_getElem hj]
theorem val_small (l : List Int) (j : Nat) (hj : j < 8) (hb : Byte l) : 0 ≤ val (l.take j) ∧ val (l.take j) < 72057594037927936 := by
  have h := val_range (l.take j) fun x hx => hb x (List.mem_of_mem_take hx)
  refine ⟨h.1, Int.lt_of_lt_of_le h.2 ?_⟩
  have : (l.take j).length ≤ 7 := by rw [List.length_take]; omega
  have e : ∀ m : Nat, m ≤ 7 → (256 : Int) ^ m ≤ 72057594037927936 := by decide
  exact e _ this
/-- What stands behind the first byte of a long number. -/
theorem rdNum_long (f : Int) (r : List Int) (k : Nat) (hf : f = 247 + (k : Int)) (hk0 : 1 ≤ k) (hs : k ≤ r.length) :
    rdNum (f :: r) = if val (r.take k) < 248 ∨ gi r 0 = 0 then none else some (val (r.take k), r.drop k) := by
  have e1 : (f - 247).toNat = k := by omega
  have e2 : r.headD 0 = gi r 0 := by cases r <;> simp [gi]
  simp only [rdNum]
  rw [if_neg (by omega), if_neg (by omega), e1, e2]
set_option maxHeartbeats 2000000 in
set_option maxRecDepth 100000 in
theorem rnumber_big (F : Nat → Prop) (p c k : Nat) (f : Int) (A : Option Addr) (l r : List Int) (w : World) (h : Rr 100 w F p A c l false) (hlr : l = f :: r) (hk : f = 247 + (k : Int)) (hk0 : 1 ≤ k) (hk8 : k ≤ 8) (hs : k ≤ r.length) :
    Calls Try.prog 44 #[.pointer (some ⟨p, 0, none⟩)] w (NumPost 100 F p l false w) := by
  have hc := h.blk.cell 0
  have hc1 := h.blk.cell 1
  have hfr := h.blk.free 0
  simp at hc hc1
  have hll : l.length = r.length + 1 := by rw [hlr]; simp
  obtain ⟨ad, rfl, hx⟩ := h.rd.at_ (i := 0) (by omega)
  have hf : gi l 0 = f := by rw [hlr]; rfl
  rw [add_none, hf] at hx
  have hcap := h.cap
  have htop := h.top
  have hx1 : w.cell? ⟨ad.block, ad.off + 1, none⟩ = some (.int .u8 (gi r 0)) := by
    have := h.rd.cell (i := 1) (by omega)
    rw [hlr] at this
    exact this
  obtain ⟨A', hA', hcut⟩ := cut_mid (P := Try.prog) 50 5 .i64 .i64 Try.underlying50 u8_size (some ad) l.length c 1 (1 + k) k 1 (1 + (f - 247)) rfl (by omega) (by omega) (by omega) (by omega)
  obtain ⟨A2, hA2, hcut2⟩ := cut_from (P := Try.prog) 50 5 .i64 Try.underlying50 u8_size (some ad) l.length c (1 + k) (1 + (f - 247)) (by omega) (by omega)
  have hrd : Rn w .u8 A' r := by
    rw [hA']
    have := h.rd.drop (i := 1) (c := c) (by omega) hcap
    rw [hlr] at this
    simpa using this
  have hbyr : Byte r := fun x hx => h.byte x (by rw [hlr]; simp [hx])
  have hrn := rdNum_long f r k hk hk0 hs
  rw [← hlr] at hrn
  have hblk := hid h.blk
  have hfail : Hid (val (r.take k) < 248 ∨ gi r 0 = 0 → NumPost 100 F p l false w (.returned (.int .u64 0)) ((w.setCell ⟨p, 0, none⟩ (.slice none 0 0)).setCell ⟨p, 1, none⟩ (.bool true))) :=
    hid fun hv => NumPost.failed h (by rw [hrn, if_pos hv])
  have hdone : Hid (¬ (val (r.take k) < 248 ∨ gi r 0 = 0) → NumPost 100 F p l false w (.returned (.int .u64 (val (r.take k)))) (w.setCell ⟨p, 0, none⟩ (.slice A2 (l.length - (1 + k)) (c - (1 + k))))) :=
    hid fun hv => NumPost.done h (by omega) hA2 (by rw [hrn, if_neg hv, hlr, Nat.add_comm, List.drop_succ_cons])
  obtain ⟨ad', rfl, _⟩ := hrd.at_ (i := 0) (by omega)
  have hll1 : r.length + 1 ≤ l.length := by omega
  have hll2 : l.length ≤ r.length + 1 := by omega
  have hf1 : f - 247 ≤ k := by omega
  have hf2 : k ≤ f - 247 := by omega
  clear hA' h hlr hll hA2 hrn hf hk
  have hne : ((l.length : Int) == 0) = false := beq_eq_false_iff_ne.2 (by omega)
  have hil : (0 : Int) < l.length := by omega
  have hil1 : (1 : Int) < l.length := by omega
  go_enter Try.func44, Try.ntmps44
  go_wp2
  go_loop [5, 63] (fun v5 v63 => ∃ j : Nat, j ≤ k ∧ v63 = .int .i64 j ∧ v5 = .int .u64 (val (r.take j))) (fun _ v63 => k - (intOf v63).toNat)
  case atStart => exact ⟨0, by omega, rfl, rfl⟩
  case round =>
    obtain ⟨j, hj, rfl, rfl⟩ := hrel
    by_cases hlt : j < k
    · have hxj := hrd.cell (i := j) (by omega)
      have hvs := val_small r j (by omega) hbyr
      have hby := hbyr _ (gi_mem r j (by omega))
      have hor : bits .or .u64 (val (r.take j) * 256) (gi r j) = val (r.take (j + 1)) := by
        have e : IntKind.u64.wrap (val (r.take j) * 256) = val (r.take j) * 256 := by rw [IntKind.wrap_u64]; omega
        rw [← e, or_byte _ _ hvs.1 hvs.2 hby.1 hby.2, val_step r j (by omega)]
      go_wp2
      go_round
      case rel => exact ⟨j + 1, by omega, by go_num, rfl⟩
      case measure => simp [intOf]; omega
    · obtain rfl : j = k := by omega
      have hv0 := val_small
      by_cases hv : val (r.take j) < 248
      · go_wp2_with (fail)
        refine (fail_ _ _ _ _ hblk.out).mono ?_
        rintro e w' ⟨rfl, rfl⟩
        go_wp2
        go_ret
        exact hfail.out (.inl hv)
      · by_cases hz : gi r 0 = 0
        · have hzb : (gi r 0 == 0) = true := by simp [hz]
          have HZ := hid hz
          clear hz
          go_wp2_with (fail)
          refine (fail_ _ _ _ _ hblk.out).mono ?_
          rintro e w' ⟨rfl, rfl⟩
          go_wp2
          go_ret
          exact hfail.out (.inr HZ.out)
        · have hzb : (gi r 0 == 0) = false := by simp [hz]
          have HZ := hid hz
          clear hz
          go_wp2
          go_ret
          exact hdone.out fun h => h.elim (fun h' => by omega) HZ.out
/-- Number reads a number. -/
theorem rnumber (F : Nat → Prop) (p c : Nat) (A : Option Addr) (l : List Int) (bad : Bool) (w : World) (h : Rr 100 w F p A c l bad) :
    Calls Try.prog 44 #[.pointer (some ⟨p, 0, none⟩)] w (NumPost 100 F p l bad w) := by
  cases bad with
  | true => exact rnumber_bad F p c A l w h
  | false =>
    match l, h with
    | [], h => exact rnumber_empty F p c A w h
    | f :: r, h =>
      have hb := h.byte f (by simp)
      by_cases hf : f < 248
      · exact rnumber_small F p c A _ w h (by simp) (by simpa [gi] using hf) (by simp [rdNum, hf, gi])
      · by_cases hs : (r.length : Int) < f - 247
        · exact rnumber_short F p c A _ w h (by simp) (by simp [gi]; omega) (by simp [gi]; omega) (by simp [rdNum, hf, hs])
        · exact rnumber_big F p c (f - 247).toNat f A _ r w h rfl (by omega) (by omega) (by omega) (by omega)
end Go.Proofs.Ytlicimkpgnemeaa.Cr
