/-
  The walks of package activ.
-/
import Derived.Test.YtdhgeakdfbckeaaAs
set_option linter.unusedVariables false
set_option linter.unusedSimpArgs false
namespace Go.Proofs.Ytdhgeakdfbckeaa.At
open Go.RowKit Go.Proofs.Ytdhgeakdfbckeaa.B Go.Proofs.Ytdhgeakdfbckeaa.Df
theorem clone_info : (Try.prog.info? 9).map (fun i => (i.zero, i.size, i.bytes)) = some (some (.string ⟨#[]⟩), 1, 16) := by kernel_rfl
set_option maxHeartbeats 1000000 in
/-- slices.Clone. -/
theorem clone (A : Option Addr) (n c : Nat) (xs : List Value) (w : World) (hr : Rd w 1 A n xs) (h1 : ∀ u ∈ xs, u.oneCell' = true) (hn : n * 16 ≤ 140737488355328) :
    Calls Try.prog 19 #[.slice A n c] w fun e w' => ∃ A' c', e = .returned (.slice A' n c') ∧ w'.ownsRow w.heap.size 9 1 (.slice A' n c') n xs ∧ Upd No w w' ∧ (A = none → A' = none) := by
  have q : ∀ (w : World) (a : Option Addr) (n c n' c' : Nat), (binOp .eql 28 (.slice a n c) (.slice none n' c')).run Try.prog w = .ok (.bool a.isNone) w := fun w a n c n' c' => Go.Lib.run_eql_slice_nil w _ _ a n c n' c' Try.underlying28
  rcases A with _ | ad
  · obtain rfl : n = 0 := by
      rcases Nat.eq_zero_or_pos n with h0 | h0
      · exact h0
      · obtain ⟨ad, h, _⟩ := hr.2 h0
        cases h
    obtain rfl : xs = [] := List.eq_nil_of_length_eq_zero (by simpa using hr.1)
    go_enter Try.func19, Try.ntmps19
    go_wp2
    go_ret
    exact ⟨none, 0, rfl, ⟨by simp, .inl ⟨rfl, rfl⟩⟩, Upd.refl _ _, fun _ => rfl⟩
  · go_enter Try.func19, Try.ntmps19
    go_wp2_with (at_builtin; refine ap_row w.heap.size rfl _ _ 28 9 (.string ⟨#[]⟩) 1 16 rfl Try.underlying28 clone_info rfl (by omega) (.slice (some ⟨w.heap.size, 0, none⟩) 0 0) 0 [] (some ad) n c xs rfl rfl (World.ownsRow_made w #[] 0 (Nat.le_refl _) (Nat.zero_le _) rfl) (Rd.alloc hr (by omega) _) h1 (by omega) (by omega) (by simp) ?_; intro A1 c1 w1 ho hg hat; rw [Nat.zero_add, List.nil_append] at ho; rw [Nat.zero_add])
    go_wp2
    go_ret
    refine ⟨A1, c1, rfl, ho, ?_, fun h => by cases h⟩
    have h5 : Upd No w (w.alloc (.cells #[] 9)) := (Upd.refl _ _).alloc _
    exact h5.grown hg fun k hk => by
      have : w.heap.size = k := by simpa [Value.ownBlock] using hk
      exact .inr (by omega)
def strs (x : List ByteArray) : List Value := x.map fun k => .string k
theorem strs_length (x : List ByteArray) : (strs x).length = x.length := by simp [strs]
theorem strs_one (x : List ByteArray) : ∀ u ∈ strs x, u.oneCell' = true := by
  intro u hu
  simp only [strs, List.mem_map] at hu
  obtain ⟨k, _, rfl⟩ := hu
  rfl
theorem strs_append (x y : List ByteArray) : strs (x ++ y) = strs x ++ strs y := by simp [strs]
theorem s_info : (Try.prog.info? 9).map (fun i => (i.zero, i.size, i.bytes)) = some (some (.string ⟨#[]⟩), 1, 16) := by kernel_rfl
theorem box1 {w : World} {g : Nat} {t : TypeId} {a : Value} (h : Blk w g t #[a]) : w.cell? ⟨g, 0, none⟩ = some a := by simpa using h.cell 0
theorem box2 {w : World} {g : Nat} {t : TypeId} {a b : Value} (h : Blk w g t #[a, b]) : w.cell? ⟨g, 0, none⟩ = some a ∧ w.cell? ⟨g, 1, none⟩ = some b := ⟨by simpa using h.cell 0, by simpa using h.cell 1⟩
theorem ownb (A : Option Addr) (n c n' c' : Nat) : (Value.slice A n c).ownBlock = (Value.slice A n' c').ownBlock := by cases A <;> rfl
/-! plain -/
def mst (room : Int) : Int := if room < 1 then 1 else room
def strike (x : List ByteArray) (k : ByteArray) : List ByteArray := x.filter fun y => !decide (y = k)
def laidk (x : List ByteArray) (k : ByteArray) : List ByteArray := strike x k ++ [k]
def hasK (x : List ByteArray) (k : ByteArray) : Bool := x.any fun y => decide (k = y)
/-- What Touch leaves and answers. -/
def touchX (x : List ByteArray) (mm : Int) (k : ByteArray) : List ByteArray × ByteArray × Bool :=
  if ((laidk x k).length : Int) ≤ mm then (laidk x k, ⟨#[]⟩, false) else ((laidk x k).drop 1, (laidk x k).headD ⟨#[]⟩, true)
theorem strike_le (x : List ByteArray) (k : ByteArray) : (strike x k).length ≤ x.length := List.length_filter_le _ _
theorem strike_self {x : List ByteArray} {k : ByteArray} (h : hasK x k = false) : strike x k = x := by
  unfold strike
  rw [List.filter_eq_self]
  intro y hy
  unfold hasK at h
  rw [List.any_eq_false] at h
  have := h y hy
  simp only [decide_eq_true_eq] at this
  simp only [Bool.not_eq_true', decide_eq_false_iff_not]
  exact fun e => this e.symm
theorem touchX_le (x : List ByteArray) (mm : Int) (k : ByteArray) (h : mm ≤ 10000) (hx : x.length ≤ 10000) : (touchX x mm k).1.length ≤ 10000 := by
  have h1 := strike_le x k
  unfold touchX
  split
  · simp only; omega
  · simp only [List.length_drop, laidk, List.length_append, List.length_singleton]; omega
/-! the table -/
def Ta (w : World) (F : Nat → Prop) (p : Nat) (room : Int) (x : List ByteArray) : Prop :=
  ∃ v, Blk w p 30 #[.int .i64 room, v] ∧ Sl w 0 9 1 v x.length (strs x) ∧ F p ∧ (∀ k, v.ownBlock = some k → F k) ∧ ∀ k, F k → k < w.heap.size
section
variable {w w' : World} {F H : Nat → Prop} {p : Nat} {room : Int} {x : List ByteArray}
theorem Ta.upd (h : Ta w F p room x) (hu : Upd H w w') (hn : ∀ k, F k → ¬ H k) : Ta w' F p room x := by
  obtain ⟨v, h1, h2, h3, h4, h5⟩ := h
  exact ⟨v, h1.upd hu (hn _ h3), h2.upd hu fun g hg => hn _ (h4 g hg), h3, h4, fun k hk => Nat.lt_of_lt_of_le (h5 k hk) hu.size⟩
theorem Ta.lt (h : Ta w F p room x) : ∀ k, F k → k < w.heap.size := by
  obtain ⟨v, h1, h2, h3, h4, h5⟩ := h
  exact h5
theorem Ta.new {o : Obj} (ho : o = .cells #[.int .i64 room, .slice none 0 0] 30) : Ta (w.alloc o) (fun k => k = w.heap.size) w.heap.size room [] := by
  subst ho
  exact ⟨_, Blk.fresh _ _ _, Sl.nil _ _ _ _, rfl, fun k hk => by simp [Value.ownBlock] at hk, fun k hk => by subst hk; simp⟩
end
set_option maxHeartbeats 400000 in
theorem most_ {w : World} {p : Nat} {room : Int} {v : Value} (h : Blk w p 30 #[.int .i64 room, v]) :
    Calls Try.prog 18 #[.pointer (some ⟨p, 0, none⟩)] w fun e w' => e = .returned (.int .i64 (mst room)) ∧ w = w' := by
  obtain ⟨c0, c1⟩ := box2 h
  unfold mst
  by_cases hr : room < 1
  · rw [if_pos hr]
    go_enter Try.func18, Try.ntmps18
    go_wp2
    go_ret
    exact ⟨rfl, rfl⟩
  · rw [if_neg hr]
    go_enter Try.func18, Try.ntmps18
    go_wp2
    go_ret
    exact ⟨rfl, rfl⟩
set_option maxHeartbeats 400000 in
theorem has_ {w : World} {F : Nat → Prop} {p : Nat} {room : Int} {x : List ByteArray} (k : ByteArray) (h : Ta w F p room x) :
    Calls Try.prog 14 #[.pointer (some ⟨p, 0, none⟩), .string k] w fun e w' => e = .returned (.bool (hasK x k)) ∧ w = w' := by
  obtain ⟨v, h1, h2, _, _, _⟩ := h
  obtain ⟨A, c, rfl, hc1, hc2⟩ := h2.shape
  simp only [maxLen] at hc2
  obtain ⟨c0, c1⟩ := box2 h1
  have HC := hid (s_any (c := c) k (Sl.rd h2) (by omega))
  rw [show x.any (fun y => decide (k = y)) = hasK x k from rfl] at HC
  clear h2
  go_enter Try.func14, Try.ntmps14
  go_wp2_with (fail)
  refine Calls.mono HC.out ?_
  rintro e w' ⟨rfl, rfl⟩
  go_wp2
  go_ret
  exact ⟨rfl, rfl⟩
def RowOut (w : World) (l : List ByteArray) (e : Ending) (w' : World) : Prop := ∃ A c, e = .returned (.slice A l.length c) ∧ w'.ownsRow w.heap.size 9 1 (.slice A l.length c) l.length (strs l) ∧ Upd No w w'
theorem RowOut.of {w : World} {l : List ByteArray} {e : Ending} {w' : World} (h : ∃ A c, e = .returned (.slice A l.length c) ∧ w'.ownsRow w.heap.size 9 1 (.slice A l.length c) l.length (strs l) ∧ Upd No w w') : RowOut w l e w' := h
set_option maxHeartbeats 400000 in
theorem list_ {w : World} {F : Nat → Prop} {p : Nat} {room : Int} {x : List ByteArray} (h : Ta w F p room x) (hl : x.length ≤ 10001) :
    Calls Try.prog 17 #[.pointer (some ⟨p, 0, none⟩)] w fun e w' => RowOut w x e w' := by
  obtain ⟨v, h1, h2, _, _, _⟩ := h
  obtain ⟨A, c, rfl, hc1, hc2⟩ := h2.shape
  obtain ⟨c0, c1⟩ := box2 h1
  have HC := hid (clone A _ c _ w (Sl.rd h2) (strs_one _) (by omega))
  clear h2
  go_enter Try.func17, Try.ntmps17
  go_wp2_with (fail)
  refine Calls.mono HC.out ?_
  rintro e w' ⟨A', c', rfl, ho, hu, _⟩
  have HO := hid (And.intro ho hu)
  clear ho hu
  go_wp2
  go_ret
  exact .of ⟨A', c', rfl, HO.out.1, HO.out.2⟩
set_option maxHeartbeats 400000 in
/-- The closure of Drop. -/
theorem drop1 (b : Nat) (k y : ByteArray) (w : World) (hb : w.cell? ⟨b, 0, none⟩ = some (.string k)) :
    Calls Try.prog 21 #[.string y, .pointer (some ⟨b, 0, none⟩)] w fun e w' => e = .returned (.bool (decide (y = k))) ∧ w = w' := by
  by_cases h : y = k
  · subst h
    go_enter Try.func21, Try.ntmps21
    go_wp2
    go_ret
    exact ⟨congrArg (fun z => Ending.returned (.bool z)) (by simp), rfl⟩
  · have hT : Hid (decide (y = k) = false) := hid (by simpa using h)
    obtain ⟨n1, n2⟩ := ba_ne h
    clear h
    go_enter Try.func21, Try.ntmps21
    go_wp2
    go_ret
    exact ⟨congrArg (fun z => Ending.returned (.bool z)) hT.out.symm, rfl⟩
def DropOut (w : World) (F : Nat → Prop) (p : Nat) (room : Int) (x : List ByteArray) (k : ByteArray) (e : Ending) (w' : World) : Prop := e = .returned (.bool (hasK x k)) ∧ Ta w' F p room (strike x k) ∧ Upd F w w'
set_option maxHeartbeats 1000000 in
theorem drop {w : World} {F : Nat → Prop} {p : Nat} {room : Int} {x : List ByteArray} (k : ByteArray) (h : Ta w F p room x) :
    Calls Try.prog 12 #[.pointer (some ⟨p, 0, none⟩), .string k] w fun e w' => e = .returned (.bool (hasK x k)) ∧ Ta w' F p room (strike x k) ∧ Upd F w w' := by
  have hu1 : Upd No w (w.alloc (.cells #[.string k] 9)) := (Upd.refl _ _).alloc _
  have hb1 := Blk.fresh w 9 #[.string k]
  have h1 := h.upd hu1 fun _ _ => no_ _
  have HS := hid (has_ k h1)
  have e1 := box1 hb1
  rcases hk : hasK x k with _ | _
  · rw [hk] at HS
    have HE : Hid (Ta (w.alloc (.cells #[.string k] 9)) F p room (strike x k) ∧ Upd F w (w.alloc (.cells #[.string k] 9))) := hid ⟨by rw [strike_self hk]; exact h1, hu1.mono fun _ _ h => h.elim⟩
    clear hk h1
    go_enter Try.func12, Try.ntmps12
    go_wp2_with (fail)
    refine Calls.mono HS.out ?_
    rintro e w' ⟨rfl, rfl⟩
    go_wp2
    go_ret
    exact ⟨rfl, HE.out.1, HE.out.2⟩
  · rw [hk] at HS
    have hlt := h.lt
    obtain ⟨v, b1, s1, fp, fv, lt1⟩ := h1
    obtain ⟨A, c, rfl, hc1, hc2⟩ := s1.shape
    simp only [maxLen] at hc2
    have hbF : ∀ k', F k' → k' ≠ w.heap.size := fun k' hk' => by have := hlt k' hk'; omega
    have hvp : ∀ k', (Value.slice A x.length c).ownBlock = some k' → k' ≠ p := fun k' hk' e => s1.ne b1 (by decide) (by rw [hk', e])
    have hC := s_del (q := fun y => decide (y = k)) (c := c) 0 w.heap.size s1 (by omega) (hid fun W hu y hy => drop1 _ k y W (box1 (hb1.upd hu fun e => hbF _ (fv _ e) rfl)))
    have HC := hid hC
    have HH := hid (And.intro b1 (And.intro fp (And.intro fv (And.intro lt1 (And.intro hu1 hvp)))))
    obtain ⟨c0, c1⟩ := box2 b1
    clear hC s1 fv lt1 hbF hvp hk
    go_enter Try.func12, Try.ntmps12
    go_wp2_with (fail)
    refine Calls.mono HS.out ?_
    rintro e w' ⟨rfl, rfl⟩
    go_wp2_with (fail)
    refine Calls.mono HC.out ?_
    rintro e w2 ⟨rfl, hO, hu⟩
    obtain ⟨b1, fp, fv, lt1, hu1, hvp⟩ := HH.out
    have hb2 := b1.upd hu fun e => hvp _ e rfl
    obtain ⟨d0, d1⟩ := box2 hb2
    have f1 := hb2.free 1
    have HE : Hid (Ta (w2.setCell ⟨p, 1, none⟩ (.slice A (strike x k).length c)) F p room (strike x k) ∧ Upd F w (w2.setCell ⟨p, 1, none⟩ (.slice A (strike x k).length c))) := hid ⟨⟨.slice A (strike x k).length c, by simpa using hb2.put 1 (.slice A (strike x k).length c), Sl.upd hO ((Upd.refl _ _).set1 1 _) (fun g hg => hvp g (by rw [← hg]; exact ownb _ _ _ _ _)), fp, fun k' hk' => fv k' (by rw [← hk']; exact ownb _ _ _ _ _), fun k' hk' => by
      have := lt1 k' hk'
      have := hu.size
      simp only [World.setCell, Array.size_modify]
      omega⟩, (((hu1.mono fun _ _ h => h.elim).next (hu.mono fun k' _ h => fv k' h)).set (p := ⟨p, 1, none⟩) (.inl fp) _)⟩
    have HO := hid (And.intro hO hu)
    clear hO hu fv lt1 hvp hu1
    go_wp2
    go_ret
    exact ⟨rfl, HE.out.1, HE.out.2⟩
def TouchOut (w : World) (F : Nat → Prop) (p : Nat) (room : Int) (r : List ByteArray × ByteArray × Bool) (e : Ending) (w' : World) : Prop :=
  e = .returned (.tuple #[.string r.2.1, .bool r.2.2]) ∧ ∃ F', Ta w' F' p room r.1 ∧ Mv F F' w w'
theorem TouchOut.of {w : World} {F : Nat → Prop} {p : Nat} {room : Int} {r : List ByteArray × ByteArray × Bool} {e : Ending} {w' : World}
    (h : e = .returned (.tuple #[.string r.2.1, .bool r.2.2]) ∧ ∃ F', Ta w' F' p room r.1 ∧ Mv F F' w w') : TouchOut w F p room r e w' := h
theorem first_cell {w : World} {t : TypeId} {A : Option Addr} {n c : Nat} {u : Value} {r : List Value} (h : Sl w 0 t 1 (.slice A (n + 1) c) (n + 1) (u :: r)) : ∃ g off, A = some ⟨g, off, none⟩ ∧ w.cell? ⟨g, off, none⟩ = some u ∧ g < w.heap.size := by
  rcases h.2 with ⟨_, h⟩ | ⟨g, off, cap, cur, hv, _, hh, _, _, _, hc⟩
  · omega
  · simp only [Value.slice.injEq, true_and] at hv
    obtain ⟨rfl, rfl⟩ := hv
    exact ⟨g, off, rfl, by rw [hh.cell]; exact hc 0 u rfl, hh.lt⟩
theorem Sl.cap {w : World} {base e size n c : Nat} {A : Option Addr} {xs : List Value} (h : Sl w base e size (.slice A n c) n xs) : n ≤ c ∧ c ≤ maxLen := by
  obtain ⟨_, _, he, h1, h2⟩ := B.Sl.shape h
  simp only [Value.slice.injEq, true_and] at he
  obtain ⟨_, rfl⟩ := he
  exact ⟨h1, h2⟩
set_option maxHeartbeats 2000000 in
theorem touch {w : World} {F : Nat → Prop} {p : Nat} {room : Int} {x : List ByteArray} (k : ByteArray) (h : Ta w F p room x) (hl : x.length ≤ 10000) :
    Calls Try.prog 10 #[.pointer (some ⟨p, 0, none⟩), .string k] w fun e w' => TouchOut w F p room (touchX x (mst room) k) e w' := by
  have HD := hid (drop k h)
  have hlt := h.lt
  have hle := strike_le x k
  have hxl : ∃ n, n = (strike x k).length := ⟨_, rfl⟩
  obtain ⟨n, hn⟩ := hxl
  have HX : Hid (touchX x (mst room) k = if ((n : Int) + 1 ≤ mst room) then (laidk x k, ⟨#[]⟩, false) else ((laidk x k).drop 1, (laidk x k).headD ⟨#[]⟩, true)) := hid (by
    unfold touchX
    rw [show ((laidk x k).length : Int) = (n : Int) + 1 from by rw [hn]; simp [laidk]])
  have hn1 : n ≤ 10000 := by omega
  have HN := hid hn
  clear hle h hn
  obtain ⟨mm, hmm⟩ : ∃ mm, mm = mst room := ⟨_, rfl⟩
  have HM := hid hmm
  rw [← hmm] at HX ⊢
  clear hmm
  by_cases hm : (n : Int) + 1 ≤ mm
  · rw [if_pos hm] at HX
    rw [HX.out]
    have hm' : decide ((n : Int) + 1 ≤ mm) = true := decide_eq_true hm
    clear hm
    go_enter Try.func10, Try.ntmps10
    go_wp2_with (fail)
    refine Calls.mono HD.out ?_
    rintro e w1 ⟨rfl, ⟨v, b1, s1, fp, fv, lt1⟩, hu1⟩
    rw [← HN.out] at s1
    obtain ⟨A, c, rfl, hc1, hc2⟩ := s1.shape
    have hvp : ∀ k', (Value.slice A n c).ownBlock = some k' → k' ≠ p := fun k' hk' e => s1.ne b1 (by decide) (by rw [hk', e])
    have HH := hid (And.intro b1 (And.intro s1 (And.intro fp (And.intro fv (And.intro lt1 (And.intro hu1 hvp))))))
    obtain ⟨d0, d1⟩ := box2 b1
    clear fv lt1 hu1 hvp
    go_wp2_with (at_builtin; go_must (refine ap_sl 0 rfl (.tmp 16) (.tmp 18) 28 9 (.string ⟨#[]⟩) 1 16 rfl Try.underlying28 s_info rfl (by omega) (.slice A n c) n (strs (strike x k)) (some ⟨w1.heap.size, 0, none⟩) 1 1 [.string k] rfl rfl (Sl.alloc s1 _) (Rd_lit w1 _ 1 1 [.string k] rfl) (by intro u hu; obtain rfl := List.mem_singleton.1 hu; rfl) (by omega) (by omega) (Nat.zero_le _) ?_); intro A2 c2 w2 ho2 hu2 hat2; have b2 := (HH.out.1.alloc (.cells #[.string k] 9)).upd hu2 (fun e => HH.out.2.2.2.2.2.2 _ e rfl); obtain ⟨e0, e1⟩ := box2 b2; have f1 := b2.free 1)
    have hB3 : Hid (Blk (w2.setCell ⟨p, 1, none⟩ (.slice A2 (n + 1) c2)) p 30 #[.int .i64 room, .slice A2 (n + 1) c2]) := hid (by simpa using b2.put 1 (.slice A2 (n + 1) c2))
    have hne : ∀ k', (Value.slice A2 (n + 1) c2).ownBlock = some k' → k' ≠ p := fun k' hk' => (hat2 k' hk').elim (fun h => HH.out.2.2.2.2.2.2 k' h) fun h => by
      have h3 := HH.out.2.2.2.2.1 p HH.out.2.2.1
      simp at h
      omega
    have HE : Hid (∃ F', Ta (w2.setCell ⟨p, 1, none⟩ (.slice A2 (n + 1) c2)) F' p room (laidk x k) ∧ Mv F F' w (w2.setCell ⟨p, 1, none⟩ (.slice A2 (n + 1) c2))) := by
      obtain ⟨b1, s1, fp, fv, lt1, hu1, hvp⟩ := HH.out
      have hll : (laidk x k).length = n + 1 := by rw [HN.out]; simp [laidk]
      have hz := hu2.size
      simp at hz
      refine hid ⟨fun k' => F k' ∨ (Value.slice A2 (n + 1) c2).ownBlock = some k', ⟨_, hB3.out, ?_, .inl fp, fun k' hk' => .inr hk', fun k' hk' => ?_⟩, ⟨?_, fun k' hk' => ?_⟩⟩
      · rw [hll, show strs (laidk x k) = strs (strike x k) ++ [.string k] from by simp [laidk, strs]]
        exact ho2.upd ((Upd.refl _ _).set1 1 _) fun g hg e => hne g hg e
      · rcases hk' with hk' | hk'
        · have := lt1 k' hk'
          simp only [World.setCell, Array.size_modify]
          omega
        · have := (ho2.lt k' hk').2
          simp only [World.setCell, Array.size_modify]
          omega
      · exact ((hu1.alloc _).next (hu2.mono fun k' _ h => fv k' h)).set (p := ⟨p, 1, none⟩) (.inl fp) _
      · rcases hk' with hk' | hk'
        · exact .inl hk'
        · rcases hat2 k' hk' with h | h
          · exact .inl (fv k' h)
          · have := hu1.size
            simp at h
            exact .inr (by omega)
    have HO := hid (And.intro ho2 (And.intro hu2 hat2))
    clear ho2 hu2 hat2 hne
    generalize w2.setCell ⟨p, 1, none⟩ (.slice A2 (n + 1) c2) = w3 at *
    obtain ⟨q0, q1⟩ := box2 hB3.out
    refine wp_region_held_drew (S := fun W => Blk W p 30 #[.int .i64 room, .slice A2 (n + 1) c2] ∧ Upd No w3 W) (by kernel_rfl) ⟨hB3.out.drew, (Upd.refl _ _).drew⟩ (fun hS => ?_)
    refine rg_at 0 (by decide) (fun oi hoi => ?_)
    have ho2 := hoi; simp only [List.getElem?_toArray, List.getElem?_cons_succ, List.getElem?_cons_zero, Option.some.injEq] at ho2; subst ho2
    refine rg_take (v := ?_) 0 hoi (by kernel_rfl) (by kernel_rfl) (by kernel_rfl) (fun _ _ _ h => h) (by rfl) ?_ hS ?_
    rotate_left
    · intro w _; go_simp; try with_reducible rfl
    clear hoi; try simp only [Act.put, List.setIfInBounds_toArray, List.set_cons_zero, List.set_cons_succ]
    refine rg_at 1 (by decide) (fun oi hoi => ?_)
    have ho2 := hoi; simp only [List.getElem?_toArray, List.getElem?_cons_succ, List.getElem?_cons_zero, Option.some.injEq] at ho2; subst ho2
    refine rg_take (v := ?_) 1 hoi (by kernel_rfl) (by kernel_rfl) (by kernel_rfl) (fun _ _ _ h => h) (by rfl) ?_ hS ?_
    rotate_left
    · intro w _; go_simp; try with_reducible rfl
    clear hoi; try simp only [Act.put, List.setIfInBounds_toArray, List.set_cons_zero, List.set_cons_succ]
    refine rg_at 2 (by decide) (fun oi hoi => ?_)
    have ho2 := hoi; simp only [List.getElem?_toArray, List.getElem?_cons_succ, List.getElem?_cons_zero, Option.some.injEq] at ho2; subst ho2
    refine rg_take (v := ?_) 2 hoi (by kernel_rfl) (by kernel_rfl) (by kernel_rfl) (fun _ _ _ h => h) (by rfl) ?_ hS ?_
    rotate_left
    · intro w _; go_simp; try with_reducible rfl
    clear hoi; try simp only [Act.put, List.setIfInBounds_toArray, List.set_cons_zero, List.set_cons_succ]
    refine rg_at 3 (by decide) (fun oi hoi => ?_)
    have ho2 := hoi; simp only [List.getElem?_toArray, List.getElem?_cons_succ, List.getElem?_cons_zero, Option.some.injEq] at ho2; subst ho2
    refine rg_take (v := ?_) 3 hoi (by kernel_rfl) (by kernel_rfl) (by kernel_rfl) (fun _ _ _ h => h) (by rfl) ?_ hS ?_
    rotate_left
    · intro w hw; have hf := (box2 hw.1).2; clear hw; go_simp; try with_reducible rfl
    clear hoi; try simp only [Act.put, List.setIfInBounds_toArray, List.set_cons_zero, List.set_cons_succ]
    refine rg_at 4 (by decide) (fun oi hoi => ?_)
    have ho2 := hoi; simp only [List.getElem?_toArray, List.getElem?_cons_succ, List.getElem?_cons_zero, Option.some.injEq] at ho2; subst ho2
    refine rg_take (v := ?_) 4 hoi (by kernel_rfl) (by kernel_rfl) (by kernel_rfl) (fun _ _ _ h => h) (by rfl) ?_ hS ?_
    rotate_left
    · intro w _; go_simp; try with_reducible rfl
    clear hoi; try simp only [Act.put, List.setIfInBounds_toArray, List.set_cons_zero, List.set_cons_succ]
    refine rg_at 5 (by decide) (fun oi hoi => ?_)
    have ho2 := hoi; simp only [List.getElem?_toArray, List.getElem?_cons_succ, List.getElem?_cons_zero, Option.some.injEq] at ho2; subst ho2
    refine rg_take (v := ?_) 5 hoi (by kernel_rfl) (by kernel_rfl) (by kernel_rfl) (fun _ _ _ h => h) (by rfl) ?_ hS ?_
    rotate_left
    · intro w _; go_simp; try with_reducible rfl
    clear hoi; try simp only [Act.put, List.setIfInBounds_toArray, List.set_cons_zero, List.set_cons_succ]
    refine rg_at 6 (by decide) (fun oi hoi => ?_)
    have ho2 := hoi; simp only [List.getElem?_toArray, List.getElem?_cons_succ, List.getElem?_cons_zero, Option.some.injEq] at ho2; subst ho2
    refine rg_call 6 (by kernel_rfl) hoi (by rfl) (fun K hK => ?_)
    clear hoi
    go_simp
    refine Calls.mono (most_ hS.1) ?_
    rintro e w' ⟨rfl, rfl⟩
    rw [← HM.out]
    go_wp2_with (fail)
    refine hK.out _ _ (hS) (fun hS => ?_)
    clear hK K
    try simp only [Act.put, List.setIfInBounds_toArray, List.set_cons_zero, List.set_cons_succ]
    refine rg_at 7 (by decide) (fun oi hoi => ?_)
    have ho2 := hoi; simp only [List.getElem?_toArray, List.getElem?_cons_succ, List.getElem?_cons_zero, Option.some.injEq] at ho2; subst ho2
    refine rg_take (v := ?_) 7 hoi (by kernel_rfl) (by kernel_rfl) (by kernel_rfl) (fun _ _ _ h => h) (by rfl) ?_ hS ?_
    rotate_left
    · intro w _; go_simp; try with_reducible rfl
    clear hoi; try simp only [Act.put, List.setIfInBounds_toArray, List.set_cons_zero, List.set_cons_succ]
    refine wpAnyH_done (by kernel_rfl) ?_ _
    have HS := hid hS.2
    clear hS
    go_wp2
    go_ret2
    obtain ⟨F', h1, h2⟩ := HE.out
    exact .of ⟨rfl, F', h1.upd HS.out fun _ _ => no_ _, h2.trans ⟨HS.out.mono fun _ _ h => h.elim, fun k' hk' => .inl hk'⟩⟩
  · rw [if_neg hm] at HX
    rw [HX.out]
    have hm' : decide ((n : Int) + 1 ≤ mm) = false := decide_eq_false hm
    clear hm
    obtain ⟨k0, r0, hkr⟩ : ∃ k0 r0, laidk x k = k0 :: r0 := by
      rcases hl : laidk x k with _ | ⟨k0, r0⟩
      · simp [laidk] at hl
      · exact ⟨k0, r0, rfl⟩
    have hr0 : r0.length = n := by
      have : (laidk x k).length = n + 1 := by rw [HN.out]; simp [laidk]
      rw [hkr] at this
      simpa using this
    rw [hkr]
    have HKR := hid (And.intro hkr hr0)
    clear hkr hr0
    go_enter Try.func10, Try.ntmps10
    go_wp2_with (fail)
    refine Calls.mono HD.out ?_
    rintro e w1 ⟨rfl, ⟨v, b1, s1, fp, fv, lt1⟩, hu1⟩
    rw [← HN.out] at s1
    obtain ⟨A, c, rfl, hc1, hc2⟩ := s1.shape
    have hvp : ∀ k', (Value.slice A n c).ownBlock = some k' → k' ≠ p := fun k' hk' e => s1.ne b1 (by decide) (by rw [hk', e])
    have HH := hid (And.intro b1 (And.intro s1 (And.intro fp (And.intro fv (And.intro lt1 (And.intro hu1 hvp))))))
    obtain ⟨d0, d1⟩ := box2 b1
    clear fv lt1 hu1 hvp
    go_wp2_with (at_builtin; go_must (refine ap_sl 0 rfl (.tmp 16) (.tmp 18) 28 9 (.string ⟨#[]⟩) 1 16 rfl Try.underlying28 s_info rfl (by omega) (.slice A n c) n (strs (strike x k)) (some ⟨w1.heap.size, 0, none⟩) 1 1 [.string k] rfl rfl (Sl.alloc s1 _) (Rd_lit w1 _ 1 1 [.string k] rfl) (by intro u hu; obtain rfl := List.mem_singleton.1 hu; rfl) (by omega) (by omega) (Nat.zero_le _) ?_); intro A2 c2 w2 ho2 hu2 hat2; have b2 := (HH.out.1.alloc (.cells #[.string k] 9)).upd hu2 (fun e => HH.out.2.2.2.2.2.2 _ e rfl); obtain ⟨e0, e1⟩ := box2 b2; have f1 := b2.free 1)
    have hB3 : Hid (Blk (w2.setCell ⟨p, 1, none⟩ (.slice A2 (n + 1) c2)) p 30 #[.int .i64 room, .slice A2 (n + 1) c2]) := hid (by simpa using b2.put 1 (.slice A2 (n + 1) c2))
    have hne : ∀ k', (Value.slice A2 (n + 1) c2).ownBlock = some k' → k' ≠ p := fun k' hk' => (hat2 k' hk').elim (fun h => HH.out.2.2.2.2.2.2 k' h) fun h => by
      have h3 := HH.out.2.2.2.2.1 p HH.out.2.2.1
      simp at h
      omega
    have HE : Hid (∃ F', Ta (w2.setCell ⟨p, 1, none⟩ (.slice A2 (n + 1) c2)) F' p room (laidk x k) ∧ Mv F F' w (w2.setCell ⟨p, 1, none⟩ (.slice A2 (n + 1) c2))) := by
      obtain ⟨b1, s1, fp, fv, lt1, hu1, hvp⟩ := HH.out
      have hll : (laidk x k).length = n + 1 := by rw [HN.out]; simp [laidk]
      have hz := hu2.size
      simp at hz
      refine hid ⟨fun k' => F k' ∨ (Value.slice A2 (n + 1) c2).ownBlock = some k', ⟨_, hB3.out, ?_, .inl fp, fun k' hk' => .inr hk', fun k' hk' => ?_⟩, ⟨?_, fun k' hk' => ?_⟩⟩
      · rw [hll, show strs (laidk x k) = strs (strike x k) ++ [.string k] from by simp [laidk, strs]]
        exact ho2.upd ((Upd.refl _ _).set1 1 _) fun g hg e => hne g hg e
      · rcases hk' with hk' | hk'
        · have := lt1 k' hk'
          simp only [World.setCell, Array.size_modify]
          omega
        · have := (ho2.lt k' hk').2
          simp only [World.setCell, Array.size_modify]
          omega
      · exact ((hu1.alloc _).next (hu2.mono fun k' _ h => fv k' h)).set (p := ⟨p, 1, none⟩) (.inl fp) _
      · rcases hk' with hk' | hk'
        · exact .inl hk'
        · rcases hat2 k' hk' with h | h
          · exact .inl (fv k' h)
          · have := hu1.size
            simp at h
            exact .inr (by omega)
    have HO := hid (And.intro ho2 (And.intro hu2 hat2))
    clear ho2 hu2 hat2 hne
    generalize w2.setCell ⟨p, 1, none⟩ (.slice A2 (n + 1) c2) = w3 at *
    obtain ⟨q0, q1⟩ := box2 hB3.out
    refine wp_region_held_drew (S := fun W => Blk W p 30 #[.int .i64 room, .slice A2 (n + 1) c2] ∧ Upd No w3 W) (by kernel_rfl) ⟨hB3.out.drew, (Upd.refl _ _).drew⟩ (fun hS => ?_)
    refine rg_at 0 (by decide) (fun oi hoi => ?_)
    have ho2 := hoi; simp only [List.getElem?_toArray, List.getElem?_cons_succ, List.getElem?_cons_zero, Option.some.injEq] at ho2; subst ho2
    refine rg_take (v := ?_) 0 hoi (by kernel_rfl) (by kernel_rfl) (by kernel_rfl) (fun _ _ _ h => h) (by rfl) ?_ hS ?_
    rotate_left
    · intro w _; go_simp; try with_reducible rfl
    clear hoi; try simp only [Act.put, List.setIfInBounds_toArray, List.set_cons_zero, List.set_cons_succ]
    refine rg_at 1 (by decide) (fun oi hoi => ?_)
    have ho2 := hoi; simp only [List.getElem?_toArray, List.getElem?_cons_succ, List.getElem?_cons_zero, Option.some.injEq] at ho2; subst ho2
    refine rg_take (v := ?_) 1 hoi (by kernel_rfl) (by kernel_rfl) (by kernel_rfl) (fun _ _ _ h => h) (by rfl) ?_ hS ?_
    rotate_left
    · intro w _; go_simp; try with_reducible rfl
    clear hoi; try simp only [Act.put, List.setIfInBounds_toArray, List.set_cons_zero, List.set_cons_succ]
    refine rg_at 2 (by decide) (fun oi hoi => ?_)
    have ho2 := hoi; simp only [List.getElem?_toArray, List.getElem?_cons_succ, List.getElem?_cons_zero, Option.some.injEq] at ho2; subst ho2
    refine rg_take (v := ?_) 2 hoi (by kernel_rfl) (by kernel_rfl) (by kernel_rfl) (fun _ _ _ h => h) (by rfl) ?_ hS ?_
    rotate_left
    · intro w _; go_simp; try with_reducible rfl
    clear hoi; try simp only [Act.put, List.setIfInBounds_toArray, List.set_cons_zero, List.set_cons_succ]
    refine rg_at 3 (by decide) (fun oi hoi => ?_)
    have ho2 := hoi; simp only [List.getElem?_toArray, List.getElem?_cons_succ, List.getElem?_cons_zero, Option.some.injEq] at ho2; subst ho2
    refine rg_take (v := ?_) 3 hoi (by kernel_rfl) (by kernel_rfl) (by kernel_rfl) (fun _ _ _ h => h) (by rfl) ?_ hS ?_
    rotate_left
    · intro w hw; have hf := (box2 hw.1).2; clear hw; go_simp; try with_reducible rfl
    clear hoi; try simp only [Act.put, List.setIfInBounds_toArray, List.set_cons_zero, List.set_cons_succ]
    refine rg_at 4 (by decide) (fun oi hoi => ?_)
    have ho2 := hoi; simp only [List.getElem?_toArray, List.getElem?_cons_succ, List.getElem?_cons_zero, Option.some.injEq] at ho2; subst ho2
    refine rg_take (v := ?_) 4 hoi (by kernel_rfl) (by kernel_rfl) (by kernel_rfl) (fun _ _ _ h => h) (by rfl) ?_ hS ?_
    rotate_left
    · intro w _; go_simp; try with_reducible rfl
    clear hoi; try simp only [Act.put, List.setIfInBounds_toArray, List.set_cons_zero, List.set_cons_succ]
    refine rg_at 5 (by decide) (fun oi hoi => ?_)
    have ho2 := hoi; simp only [List.getElem?_toArray, List.getElem?_cons_succ, List.getElem?_cons_zero, Option.some.injEq] at ho2; subst ho2
    refine rg_take (v := ?_) 5 hoi (by kernel_rfl) (by kernel_rfl) (by kernel_rfl) (fun _ _ _ h => h) (by rfl) ?_ hS ?_
    rotate_left
    · intro w _; go_simp; try with_reducible rfl
    clear hoi; try simp only [Act.put, List.setIfInBounds_toArray, List.set_cons_zero, List.set_cons_succ]
    refine rg_at 6 (by decide) (fun oi hoi => ?_)
    have ho2 := hoi; simp only [List.getElem?_toArray, List.getElem?_cons_succ, List.getElem?_cons_zero, Option.some.injEq] at ho2; subst ho2
    refine rg_call 6 (by kernel_rfl) hoi (by rfl) (fun K hK => ?_)
    clear hoi
    go_simp
    refine Calls.mono (most_ hS.1) ?_
    rintro e w' ⟨rfl, rfl⟩
    rw [← HM.out]
    go_wp2_with (fail)
    refine hK.out _ _ (hS) (fun hS => ?_)
    clear hK K
    try simp only [Act.put, List.setIfInBounds_toArray, List.set_cons_zero, List.set_cons_succ]
    refine rg_at 7 (by decide) (fun oi hoi => ?_)
    have ho2 := hoi; simp only [List.getElem?_toArray, List.getElem?_cons_succ, List.getElem?_cons_zero, Option.some.injEq] at ho2; subst ho2
    refine rg_take (v := ?_) 7 hoi (by kernel_rfl) (by kernel_rfl) (by kernel_rfl) (fun _ _ _ h => h) (by rfl) ?_ hS ?_
    rotate_left
    · intro w _; go_simp; try with_reducible rfl
    clear hoi; try simp only [Act.put, List.setIfInBounds_toArray, List.set_cons_zero, List.set_cons_succ]
    refine wpAnyH_done (by kernel_rfl) ?_ _
    have HS := hid hS.2
    have hB4 := hid hS.1
    clear hS
    obtain ⟨F', hE1, hE2⟩ := HE.out
    have hT4 := hE1.upd HS.out fun _ _ => no_ _
    have hM4 := hE2.trans (⟨HS.out.mono fun _ _ h => h.elim, fun k' hk' => .inl hk'⟩ : Mv F' F' w3 w3.drew)
    generalize w3.drew = w4 at *
    obtain ⟨v4, b4, s4, fp4, fv4, lt4⟩ := hT4
    have hv4 : v4 = .slice A2 (n + 1) c2 := by
      have h1 := (box2 b4).2
      rw [(box2 hB4.out).2] at h1
      simpa using h1.symm
    subst hv4
    rw [HKR.out.1] at s4
    have hs4 : Sl w4 0 9 1 (.slice A2 (n + 1) c2) (n + 1) (.string k0 :: strs r0) := by
      have e : (k0 :: r0).length = n + 1 := by simp [HKR.out.2]
      rw [e] at s4
      exact s4
    obtain ⟨g9, o9, rfl, q9, hg9⟩ := first_cell hs4
    have hcc := Sl.cap hs4
    obtain ⟨A5, hA5, hcut⟩ := cut_from (P := Try.prog) 28 9 .i64 Try.underlying28 (by kernel_rfl) (some ⟨g9, o9, none⟩) (n + 1) c2 1 1 rfl (by omega)
    have hr5 : Rd w4 1 A5 n (strs r0) := by
      rw [hA5]
      exact Rd.drop (k := 1) (Sl.rd hs4) (by omega) hcc.1
    have HC := hid (clone A5 n (c2 - 1) (strs r0) w4 hr5 (strs_one _) (by omega))
    obtain ⟨z0, z1⟩ := box2 b4
    have HH4 := hid (And.intro b4 (And.intro fp4 (And.intro fv4 (And.intro lt4 (And.intro hM4 hA5)))))
    clear s4 hs4 hcc hr5 fv4 lt4 hM4 hA5 hE1 hE2 HE hB4 HO q0 q1 d0 d1 e0 e1 f1
    go_wp2_with (fail)
    refine Calls.mono HC.out ?_
    rintro e w5 ⟨A6, c6, rfl, ho6, hu6, _⟩
    have b5 := HH4.out.1.upd hu6 (no_ _)
    obtain ⟨y0, y1⟩ := box2 b5
    have y2 := b5.free 1
    have HE : Hid (∃ F', Ta (w5.setCell ⟨p, 1, none⟩ (.slice A6 n c6)) F' p room r0 ∧ Mv F F' w (w5.setCell ⟨p, 1, none⟩ (.slice A6 n c6))) := by
      obtain ⟨b4, fp4, fv4, lt4, hM4, hA5⟩ := HH4.out
      have h1 := hu6.size
      have h2 := hM4.upd.size
      have hpl := lt4 p fp4
      have hB6 : Blk (w5.setCell ⟨p, 1, none⟩ (.slice A6 n c6)) p 30 #[.int .i64 room, .slice A6 n c6] := by simpa using b5.put 1 (.slice A6 n c6)
      refine hid ⟨fun k' => F' k' ∨ (Value.slice A6 n c6).ownBlock = some k', ⟨.slice A6 n c6, hB6, ?_, .inl fp4, fun k' hk' => .inr hk', fun k' hk' => ?_⟩, ⟨?_, fun k' hk' => ?_⟩⟩
      · rw [HKR.out.2]
        refine (Sl.of_own (own_base ho6 (Nat.zero_le _))).upd ((Upd.refl _ _).set1 1 _) fun g hg e => ?_
        have := (ho6.lt g hg).1
        omega
      · rcases hk' with hk' | hk'
        · have := lt4 k' hk'
          simp only [World.setCell, Array.size_modify]
          omega
        · have := (ho6.lt k' hk').2
          simp only [World.setCell, Array.size_modify]
          omega
      · refine hM4.upd.trans ((hu6.mono fun _ _ h => h.elim : Upd (fun k' => k' = p) w4 w5).set1 1 _) ?_
        rintro i hi rfl
        exact (hM4.sub _ fp4).elim id fun h => by omega
      · rcases hk' with hk' | hk'
        · exact hM4.sub k' hk'
        · have := (ho6.lt k' hk').1
          exact .inr (by omega)
    have HO6 := hid (And.intro ho6 hu6)
    clear ho6 hu6
    go_wp2
    go_ret2
    exact .of ⟨rfl, HE.out⟩
end Go.Proofs.Ytdhgeakdfbckeaa.At
