/-
  The walks of package window: New, Seen, Serials, Clients, Add.
-/
import Derived.Test.YtogijfgfcdmbnaaWs
import Derived.Test.YtogijfgfcdmbnaaMp
import Derived.Test.YtogijfgfcdmbnaaWp
set_option linter.unusedVariables false
set_option linter.unusedSimpArgs false
namespace Go.Proofs.Ytogijfgfcdmbnaa.Ww
open Go.RowKit Go.Proofs.Ytogijfgfcdmbnaa.B Go.Proofs.Ytogijfgfcdmbnaa.Df Go.Proofs.Ytogijfgfcdmbnaa.Ws Go.Proofs.Ytogijfgfcdmbnaa.Mp Go.Proofs.Ytogijfgfcdmbnaa.Wp
theorem clone_info : (Try.prog.info? 22).map (fun i => (i.zero, i.size, i.bytes)) = some (some (.int .u64 0), 1, 8) := by kernel_rfl
set_option maxHeartbeats 1000000 in
/-- slices.Clone. -/
theorem clone (A : Option Addr) (n c : Nat) (xs : List Value) (w : World) (hr : Rd w 1 A n xs) (h1 : ∀ u ∈ xs, u.oneCell' = true) (hn : n * 8 ≤ 140737488355328) :
    Calls Try.prog 26 #[.slice A n c] w fun e w' => ∃ A' c', e = .returned (.slice A' n c') ∧ w'.ownsRow w.heap.size 22 1 (.slice A' n c') n xs ∧ Upd No w w' ∧ (A = none → A' = none) := by
  have q : ∀ (w : World) (a : Option Addr) (n c n' c' : Nat), (binOp .eql 27 (.slice a n c) (.slice none n' c')).run Try.prog w = .ok (.bool a.isNone) w := fun w a n c n' c' => Go.Lib.run_eql_slice_nil w _ _ a n c n' c' Try.underlying27
  rcases A with _ | ad
  · obtain rfl : n = 0 := by
      rcases Nat.eq_zero_or_pos n with h0 | h0
      · exact h0
      · obtain ⟨ad, h, _⟩ := hr.2 h0
        cases h
    obtain rfl : xs = [] := List.eq_nil_of_length_eq_zero (by simpa using hr.1)
    go_enter Try.func26, Try.ntmps26
    go_wp2
    go_ret
    exact ⟨none, 0, rfl, ⟨by simp, .inl ⟨rfl, rfl⟩⟩, Upd.refl _ _, fun _ => rfl⟩
  · go_enter Try.func26, Try.ntmps26
    go_wp2_with (at_builtin; refine ap_row w.heap.size rfl _ _ 27 22 (.int .u64 0) 1 8 rfl Try.underlying27 clone_info rfl (by omega) (.slice (some ⟨w.heap.size, 0, none⟩) 0 0) 0 [] (some ad) n c xs rfl rfl (World.ownsRow_made w #[] 0 (Nat.le_refl _) (Nat.zero_le _) rfl) (Rd.alloc hr (by omega) _) h1 (by omega) (by omega) (by simp) ?_; intro A1 c1 w1 ho hg hat; rw [Nat.zero_add, List.nil_append] at ho; rw [Nat.zero_add])
    go_wp2
    go_ret
    refine ⟨A1, c1, rfl, ho, ?_, fun h => by cases h⟩
    have h5 : Upd No w (w.alloc (.cells #[] 22)) := (Upd.refl _ _).alloc _
    exact h5.grown hg fun k hk => by
      have : w.heap.size = k := by simpa [Value.ownBlock] using hk
      exact .inr (by omega)
def ks (x : St) : List Int := x.map (·.1)
theorem ks_length (x : St) : (ks x).length = x.length := by simp [ks]
/-- The value v holds the numbers l, in a block of G. -/
def Vl (w : World) (G : Nat → Prop) (v : Value) (l : List Int) : Prop := ∃ A c, v = .slice A l.length c ∧ l.length ≤ c ∧ c ≤ maxLen ∧ Rn w .u64 A l ∧ ∀ ad, A = some ad → G ad.block
/-- The window at p. -/
structure Wx (w : World) (F : Nat → Prop) (p : Nat) (x : St) (n : Nat) (mo : Option Nat) (v : Value) (m : Int → Value) (G : Nat → Prop) : Prop where
  blk : Blk w p 41 #[.map mo, v]
  ord : Sl w 0 22 1 v (ks x).length (nums .u64 (ks x))
  map : ∀ b, mo = some b → Mp.Mp Try.prog w 22 b n m
  non : mo = none → x = [] ∧ ∀ c, m c = nl
  val : ∀ c, Wp.Key c → Vl w G (m c) (sr x c)
  fp : F p
  fb : ∀ b, mo = some b → F b ∧ b ≠ p
  fv : ∀ k, v.ownBlock = some k → F k ∧ k ≠ p ∧ mo ≠ some k
  fg : ∀ k, G k → F k ∧ k ≠ p ∧ v.ownBlock ≠ some k ∧ mo ≠ some k
  lt : ∀ k, F k → k < w.heap.size
def Wd (w : World) (F : Nat → Prop) (p : Nat) (x : St) (n : Nat) : Prop := ∃ mo v m G, Wx w F p x n mo v m G
section
variable {w w' : World} {F H G : Nat → Prop} {p n : Nat} {x : St} {mo : Option Nat} {v : Value} {m : Int → Value}
theorem Vl.upd {l : List Int} (h : Vl w G v l) (hu : Upd H w w') (hn : ∀ k, G k → ¬ H k) : Vl w' G v l := by
  obtain ⟨A, c, h1, h2, h3, h4, h5⟩ := h
  exact ⟨A, c, h1, h2, h3, h4.upd (by omega) hu fun ad e => hn _ (h5 ad e), h5⟩
theorem Wx.upd (h : Wx w F p x n mo v m G) (hu : Upd H w w') (hn : ∀ k, F k → ¬ H k) : Wx w' F p x n mo v m G where
  blk := h.blk.upd hu (hn _ h.fp)
  ord := h.ord.upd hu fun g hg => hn _ (h.fv g hg).1
  map := fun b hb => (h.map b hb).upd hu (hn _ (h.fb b hb).1)
  non := h.non
  val := fun c hc => (h.val c hc).upd hu fun k hk => hn _ (h.fg k hk).1
  fp := h.fp
  fb := h.fb
  fv := h.fv
  fg := h.fg
  lt := fun k hk => Nat.lt_of_lt_of_le (h.lt k hk) hu.size
theorem Wd.upd (h : Wd w F p x n) (hu : Upd H w w') (hn : ∀ k, F k → ¬ H k) : Wd w' F p x n := by
  obtain ⟨mo, v, m, G, h⟩ := h
  exact ⟨mo, v, m, G, h.upd hu hn⟩
theorem Wd.lt (h : Wd w F p x n) : ∀ k, F k → k < w.heap.size := by
  obtain ⟨mo, v, m, G, h⟩ := h
  exact h.lt
theorem u_zeroS (w : World) : (zeroValue 27).run Try.prog w = .ok nl w := by kernel_rfl
theorem Wx.look (h : Wx w F p x n mo v m G) {c : Int} (hc : Wp.Key c) : (Instr.lookup 39 (.map mo) (.int .u64 c) false).run Try.prog w = .ok (m c) w := by
  rcases mo with _ | b
  · rw [look_none Try.underlying22 Try.underlying39 u_zeroS hc, (h.non rfl).2]
  · exact (h.map b rfl).look Try.underlying22 Try.underlying39 u_zeroS hc
end
set_option maxHeartbeats 400000 in
theorem new_ (w : World) : Calls Try.prog 10 #[] w fun e w' => e = .returned (.pointer (some ⟨w.heap.size, 0, none⟩)) ∧ w' = w.alloc (.cells #[.map none, .slice none 0 0] 41) := by
  go_enter Try.func10, Try.ntmps10
  go_wp2
  go_ret
  exact ⟨rfl, rfl⟩
theorem Wx.new {w : World} {o : Obj} (ho : o = .cells #[.map none, .slice none 0 0] 41) : Wx (w.alloc o) (fun k => k = w.heap.size) w.heap.size [] 0 none (.slice none 0 0) (fun _ => nl) No := by
  subst ho
  refine ⟨Blk.fresh _ _ _, Sl.nil _ _ _ _, fun b hb => (by cases hb), fun _ => ⟨rfl, fun _ => rfl⟩, fun c _ => ⟨none, 0, rfl, by simp [sr], by simp, Rd.nil_ _ _ _, fun ad h => (by cases h)⟩, rfl, fun b hb => (by cases hb), fun k hk => by simp [Value.ownBlock] at hk, fun k hk => hk.elim, fun k hk => by subst hk; simp⟩
set_option maxHeartbeats 1000000 in
/-- Seen. -/
theorem seen {w : World} {F : Nat → Prop} {p n : Nat} {x : St} (c s : Int) (h : Wd w F p x n) (hc : Wp.Key c) :
    Calls Try.prog 12 #[.pointer (some ⟨p, 0, none⟩), .int .u64 c, .int .u64 s] w fun e w' => e = .returned (.bool (decide (s ∈ sr x c))) ∧ w = w' := by
  obtain ⟨mo, v, m, G, h⟩ := h
  have hL := h.look hc
  obtain ⟨A, k, hv, hk1, hk2, hR, _⟩ := h.val c hc
  rw [hv] at hL
  simp only [maxLen] at hk2
  have HC := hid (u_has (c := k) s hR (by omega))
  have c0 := h.blk.cell 0
  simp at c0
  clear hv hR
  generalize sr x c = l at *
  go_enter Try.func12, Try.ntmps12
  go_wp2_with (fail)
  refine Calls.mono HC.out ?_
  rintro e w' ⟨rfl, rfl⟩
  go_wp2
  go_ret
  exact ⟨rfl, rfl⟩
def RowOut (w : World) (l : List Int) (e : Ending) (w' : World) : Prop := ∃ A c, e = .returned (.slice A l.length c) ∧ w'.ownsRow w.heap.size 22 1 (.slice A l.length c) l.length (nums .u64 l) ∧ Upd No w w'
theorem RowOut.of {w : World} {l : List Int} {e : Ending} {w' : World} (h : ∃ A c, e = .returned (.slice A l.length c) ∧ w'.ownsRow w.heap.size 22 1 (.slice A l.length c) l.length (nums .u64 l) ∧ Upd No w w') : RowOut w l e w' := h
set_option maxHeartbeats 1000000 in
/-- Serials. -/
theorem serials {w : World} {F : Nat → Prop} {p n : Nat} {x : St} (c : Int) (h : Wd w F p x n) (hc : Wp.Key c) (hl : (sr x c).length ≤ 4) :
    Calls Try.prog 13 #[.pointer (some ⟨p, 0, none⟩), .int .u64 c] w fun e w' => RowOut w (sr x c) e w' := by
  obtain ⟨mo, v, m, G, h⟩ := h
  have hL := h.look hc
  obtain ⟨A, k, hv, hk1, hk2, hR, _⟩ := h.val c hc
  rw [hv] at hL
  have HC := hid (clone A _ k _ w hR (nums_one _ _) (by omega))
  have c0 := h.blk.cell 0
  simp at c0
  clear hv hR
  generalize sr x c = l at *
  go_enter Try.func13, Try.ntmps13
  go_wp2_with (fail)
  refine Calls.mono HC.out ?_
  rintro e w' ⟨A', c', rfl, ho, hu, _⟩
  have HO := hid (And.intro ho hu)
  clear ho hu
  go_wp2
  go_ret
  exact .of ⟨A', c', rfl, HO.out.1, HO.out.2⟩
set_option maxHeartbeats 1000000 in
/-- Clients. -/
theorem clients {w : World} {F : Nat → Prop} {p n : Nat} {x : St} (h : Wd w F p x n) (hl : x.length ≤ 65) :
    Calls Try.prog 19 #[.pointer (some ⟨p, 0, none⟩)] w fun e w' => RowOut w (ks x) e w' := by
  obtain ⟨mo, v, m, G, h⟩ := h
  obtain ⟨A, k, rfl, hk1, hk2⟩ := h.ord.shape
  have hlk := ks_length x
  have HC := hid (clone A _ k _ w (Sl.rd h.ord) (nums_one _ _) (by omega))
  have c1 := h.blk.cell 1
  simp at c1
  clear hlk
  generalize ks x = l at *
  go_enter Try.func19, Try.ntmps19
  go_wp2_with (fail)
  refine Calls.mono HC.out ?_
  rintro e w' ⟨A', c', rfl, ho, hu, _⟩
  have HO := hid (And.intro ho hu)
  clear ho hu
  go_wp2
  go_ret
  exact .of ⟨A', c', rfl, HO.out.1, HO.out.2⟩
set_option maxHeartbeats 400000 in
/-- The closure of Add. -/
theorem add1 (b : Nat) (c y : Int) (w : World) (hb : w.cell? ⟨b, 0, none⟩ = some (.int .u64 c)) :
    Calls Try.prog 25 #[.int .u64 y, .pointer (some ⟨b, 0, none⟩)] w fun e w' => e = .returned (.bool (decide (y = c))) ∧ w = w' := by
  by_cases h : y = c
  · subst h
    have hT : Hid (decide (y = y) = true) := hid (by simp)
    go_enter Try.func25, Try.ntmps25
    go_wp2
    go_ret
    exact ⟨congrArg (fun z => Ending.returned (.bool z)) (by simp), rfl⟩
  · have hT : Hid (decide (y = c) = false) := hid (by simpa using h)
    have hE : (y == c) = false := by simp [h]
    clear h
    go_enter Try.func25, Try.ntmps25
    go_wp2
    go_ret
    exact ⟨congrArg (fun z => Ending.returned (.bool z)) hT.out.symm, rfl⟩
end Go.Proofs.Ytogijfgfcdmbnaa.Ww
