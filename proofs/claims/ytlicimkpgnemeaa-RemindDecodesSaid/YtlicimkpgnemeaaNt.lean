/-
  Queues of the call's own; All; reevelaw15.awake; RemindSeries.
-/
import Derived.Test.YtlicimkpgnemeaaNs
set_option linter.unusedVariables false
set_option linter.unusedSimpArgs false
namespace Go.Proofs.Ytlicimkpgnemeaa.Nd
open Go.RowKit Go.Proofs.Ytlicimkpgnemeaa.B Go.Proofs.Ytlicimkpgnemeaa.Op
theorem serve_ (q : Nat) (F : Nat → Prop) (l : List Rm) (now : Int) (w : World) (h : Qo w F q l) (hi : Inv l) :
    Calls Try.prog 13 #[.pointer (some ⟨q, 0, none⟩), .int .i64 now] w fun e w' => ServeOut q F (serveR l now) w e w' := by
  cases hd : dueR l now with
  | none =>
    have e : serveR l now = (none, l) := by unfold serveR; rw [hd]
    rw [e]
    refine (serve_none q F l now w h (by have := hi.len; omega) hd).mono ?_
    rintro e w' ⟨rfl, hu⟩
    exact .of ⟨rfl, F, h.quiet hu, Mv.quiet (hu.old (Nat.le_refl _))⟩
  | some r =>
    have e : serveR l now = (some r, nextR l r) := by unfold serveR; rw [hd]
    rw [e]
    obtain ⟨t, rfl, _⟩ := due_mem hd
    exact serve_some q F r t now w h hi hd
set_option maxHeartbeats 1000000 in
theorem serve_nil (now : Int) (w : World) : Calls Try.prog 13 #[.pointer none, .int .i64 now] w fun e w' => e = .returned (tell none) ∧ Upd No w w' := by
  have hu1 : Upd No w (w.alloc (.cells #[.string ⟨#[]⟩, .string ⟨#[]⟩, .int .i64 0, .int .i64 0, .int .i64 0] 30)) := (Upd.refl _ _).alloc _
  have hb1 := Blk.fresh w 30 #[.string ⟨#[]⟩, .string ⟨#[]⟩, .int .i64 0, .int .i64 0, .int .i64 0]
  have hdu := due_none (.pointer none) now (w.alloc (.cells #[.string ⟨#[]⟩, .string ⟨#[]⟩, .int .i64 0, .int .i64 0, .int .i64 0] 30)) (.inl rfl)
  simp only [tell, rv, zr, Option.getD_none, Option.isSome_none] at hdu
  have HD := hid hdu
  have HU1 := hid hu1
  have HB1 := hid hb1
  clear hdu hu1 hb1
  go_enter Try.func13, Try.ntmps13
  go_wp2_with (fail)
  refine HD.out.mono ?_
  rintro e w2 ⟨rfl, hu2⟩
  have HU3 : Hid (Upd No w (w2.alloc (.cells #[.string ⟨#[]⟩, .string ⟨#[]⟩, .int .i64 0, .int .i64 0, .int .i64 0] 30))) := hid ((HU1.out.next hu2).alloc _)
  have hb3 : Blk (w2.alloc (.cells #[.string ⟨#[]⟩, .string ⟨#[]⟩, .int .i64 0, .int .i64 0, .int .i64 0] 30)) w.heap.size 30 #[.string ⟨#[]⟩, .string ⟨#[]⟩, .int .i64 0, .int .i64 0, .int .i64 0] := (HB1.out.upd hu2 (no_ _)).alloc _
  obtain ⟨y0, y1, y2, y3, y4⟩ := box5 hb3
  have g0 := hb3.free 0
  have g1 := hb3.free 1
  have g2 := hb3.free 2
  have g3 := hb3.free 3
  have g4 := hb3.free 4
  have HB5 := hid (put5_blk hb3 zr)
  have HU5 := hid (put5_new HU3.out (Nat.le_refl _) zr)
  clear hu2 hb3
  go_wp2
  simp only [put5, zr] at HB5 HU5
  obtain ⟨q0, q1, q2, q3, q4⟩ := box5 HB5.out
  exact bodyPost_ret (v := tell none) (by simp [results, go_sem, q0, q1, q2, q3, q4, tell, rv, zr]) rfl ⟨rfl, HU5.out⟩
theorem clone5_info : (Try.prog.info? 30).map (fun i => (i.zero, i.size, i.bytes)) = some (some (.agg #[.string ⟨#[]⟩, .string ⟨#[]⟩, .int .i64 0, .int .i64 0, .int .i64 0]), 5, 56) := by kernel_rfl
set_option maxHeartbeats 1000000 in
/-- slices.Clone. -/
theorem clone5 (A : Option Addr) (n c : Nat) (xs : List Value) (w : World) (hr : Rd w 5 A n xs) (h1 : ∀ u ∈ xs, u.oneCell' = true) (hn : n * 56 ≤ 140737488355328) :
    Calls Try.prog 34 #[.slice A n c] w fun e w' => ∃ A' c', e = .returned (.slice A' n c') ∧ w'.ownsRow w.heap.size 30 5 (.slice A' n c') n xs ∧ Upd No w w' ∧ (A = none → A' = none) := by
  have q : ∀ (w : World) (a : Option Addr) (n c n' c' : Nat), (binOp .eql 42 (.slice a n c) (.slice none n' c')).run Try.prog w = .ok (.bool a.isNone) w := fun w a n c n' c' => Go.Lib.run_eql_slice_nil w _ _ a n c n' c' Try.underlying42
  rcases A with _ | ad
  · obtain rfl : n = 0 := by
      rcases Nat.eq_zero_or_pos n with h0 | h0
      · exact h0
      · obtain ⟨ad, h, _⟩ := hr.2 h0
        cases h
    obtain rfl : xs = [] := List.eq_nil_of_length_eq_zero (by simpa using hr.1)
    go_enter Try.func34, Try.ntmps34
    go_wp2
    go_ret
    exact ⟨none, 0, rfl, ⟨by simp, .inl ⟨rfl, rfl⟩⟩, Upd.refl _ _, fun _ => rfl⟩
  · go_enter Try.func34, Try.ntmps34
    go_wp2_with (at_builtin; refine ap_row w.heap.size rfl _ _ 42 30 (.agg #[.string ⟨#[]⟩, .string ⟨#[]⟩, .int .i64 0, .int .i64 0, .int .i64 0]) 5 56 rfl Try.underlying42 clone5_info rfl (by omega) (.slice (some ⟨w.heap.size, 0, none⟩) 0 0) 0 [] (some ad) n c xs rfl rfl (World.ownsRow_made w #[] 0 (Nat.le_refl _) (Nat.zero_le _) rfl) (Rd.alloc hr (by omega) _) h1 (by omega) (by omega) (by simp) ?_; intro A1 c1 w1 ho hg hat; rw [Nat.zero_add, List.nil_append] at ho; rw [Nat.zero_add])
    go_wp2
    go_ret
    refine ⟨A1, c1, rfl, ho, ?_, fun h => by cases h⟩
    have h5 : Upd No w (w.alloc (.cells #[] 30)) := (Upd.refl _ _).alloc _
    exact h5.grown hg fun k hk => by
      have : w.heap.size = k := by simpa [Value.ownBlock] using hk
      exact .inr (by omega)
/-- A new slice of reminders. -/
def NewR (w : World) (l : List Rm) (e : Ending) (w' : World) : Prop := ∃ A c, e = .returned (.slice A l.length c) ∧ w'.ownsRow w.heap.size 30 5 (.slice A l.length c) l.length (l.flatMap rc) ∧ Upd No w w'
theorem NewR.of {w : World} {l : List Rm} {e : Ending} {w' : World} (h : ∃ A c, e = .returned (.slice A l.length c) ∧ w'.ownsRow w.heap.size 30 5 (.slice A l.length c) l.length (l.flatMap rc) ∧ Upd No w w') : NewR w l e w' := h
set_option maxHeartbeats 400000 in
theorem all_nil (w : World) : Calls Try.prog 17 #[.pointer none] w fun e w' => e = .returned (.slice none 0 0) ∧ w = w' := by
  go_enter Try.func17, Try.ntmps17
  go_wp2
  go_ret
  exact ⟨rfl, rfl⟩
set_option maxHeartbeats 400000 in
theorem all_ (q : Nat) (F : Nat → Prop) (l : List Rm) (w : World) (h : Qo w F q l) (hl : l.length ≤ 1000) : Calls Try.prog 17 #[.pointer (some ⟨q, 0, none⟩)] w fun e w' => NewR w l e w' := by
  obtain ⟨A, c, hc, hrd, _, _⟩ := h.cell
  have HC := hid (clone5 A l.length c (l.flatMap rc) w hrd (flat_one l) (by omega))
  clear h hrd
  go_enter Try.func17, Try.ntmps17
  go_wp2_with (fail)
  refine Calls.mono HC.out ?_
  rintro e w' ⟨A', c', rfl, ho', hu', _⟩
  have HE := hid (And.intro ho' hu')
  clear ho' hu'
  go_wp2
  go_ret
  exact .of ⟨A', c', rfl, HE.out.1, HE.out.2⟩
/-! ### a queue of the call's own -/
structure Pq (w W : World) (F : Nat → Prop) (q : Nat) (l : List Rm) : Prop where
  qo : Qo W F q l
  inv : Inv l
  own : ∀ k, F k → w.heap.size ≤ k
  bel : Below w.heap.size w W
section
variable {w W W' : World} {F F' : Nat → Prop} {q : Nat} {l l' : List Rm}
theorem Pq.quiet (h : Pq w W F q l) (hu : Upd No W W') : Pq w W' F q l := ⟨h.qo.quiet hu, h.inv, h.own, h.bel.trans (hu.old h.bel.size)⟩
theorem Pq.moved (h : Pq w W F q l) (hq : Qo W' F' q l') (hm : Mv F F' W W') (hi : Inv l') : Pq w W' F' q l' :=
  ⟨hq, hi, fun k hk => (hm.sub k hk).elim (h.own k) fun h1 => Nat.le_trans h.bel.size h1, h.bel.trans (hm.upd.below h.bel.size h.own)⟩
theorem Pq.new (hb : Below w.heap.size w W) : Pq w (W.alloc (.cells #[.slice none 0 0] 47)) (fun k => k = W.heap.size) W.heap.size [] :=
  ⟨Qo.new W, Inv.nil, fun k hk => by have := hb.size; omega, hb.alloc hb.size _⟩
end
theorem set_pq {w W : World} {F : Nat → Prop} {q : Nat} {l : List Rm} (h : Pq w W F q l) (r : Rm) (hr : I64 r.due ∧ I64 r.per ∧ I64 r.kind) :
    Calls Try.prog 12 #[.pointer (some ⟨q, 0, none⟩), rv r] W fun e w' => e = .returned (.int .i64 (setR l r).1) ∧ ∃ F', Pq w w' F' q (setR l r).2 ∧ Mv F F' W w' :=
  (set_ q F l r W h.qo h.inv).mono fun e w' ⟨h1, F', h2, h3⟩ => ⟨h1, F', h.moved h2 h3 (h.inv.set hr), h3⟩
theorem serve_pq {w W : World} {F : Nat → Prop} {q : Nat} {l : List Rm} (h : Pq w W F q l) (now : Int) :
    Calls Try.prog 13 #[.pointer (some ⟨q, 0, none⟩), .int .i64 now] W fun e w' => e = .returned (tell (serveR l now).1) ∧ ∃ F', Pq w w' F' q (serveR l now).2 ∧ Mv F F' W w' :=
  (serve_ q F l now W h.qo h.inv).mono fun e w' ⟨h1, F', h2, h3⟩ => ⟨h1, F', h.moved h2 h3 (h.inv.serve now), h3⟩
theorem cancel_pq {w W : World} {F : Nat → Prop} {q : Nat} {l : List Rm} (h : Pq w W F q l) (a n : ByteArray) :
    Calls Try.prog 15 #[.pointer (some ⟨q, 0, none⟩), .string a, .string n] W fun e w' => e = .returned (.bool (has a n l)) ∧ ∃ F', Pq w w' F' q (del a n l) ∧ Mv F F' W w' :=
  (cancel_ q F l a n W h.qo h.inv).mono fun e w' ⟨h1, F', h2, h3⟩ => ⟨h1, F', h.moved h2 h3 (h.inv.del a n), h3⟩
/-- "a". -/
def sa : ByteArray := ⟨#[97]⟩
def sn : ByteArray := ⟨#[110]⟩
def se : ByteArray := ⟨#[]⟩
theorem wrong_a (n : ByteArray) (d p k : Int) (hn : n.size ≤ 40) : wrongR ⟨sa, n, d, p, k⟩ = if d < 0 ∨ p < 1 then 3 else 0 := by
  unfold wrongR
  have h1 : keyB sa = true := by decide
  rw [if_neg (by rw [h1]; simp; omega)]
theorem set_first {r : Rm} (h : wrongR r = 0) : setR [] r = (0, [r]) := by
  unfold setR
  rw [if_neg (by rw [h]; simp), if_neg (by simp)]
  rfl
set_option maxHeartbeats 2000000 in
set_option maxRecDepth 100000 in
theorem awake (w : World) : Calls Try.prog 10 #[] w fun e w' => e = .returned (.bool true) ∧ Below w.heap.size w w' := by
  have HP0 := hid (Pq.new (Below.refl w.heap.size w))
  have hw : wrongR ⟨sa, se, 5, 10, 0⟩ = 0 := wrong_a se 5 10 0 (by decide)
  have HS := hid (set_pq HP0.out ⟨sa, se, 5, 10, 0⟩ ⟨by unfold I64; simp, by unfold I64; simp, by unfold I64; simp⟩)
  rw [set_first hw] at HS
  have hs : serveR [⟨sa, se, 5, 10, 0⟩] 5 = (some ⟨sa, se, 5, 10, 0⟩, nextR [⟨sa, se, 5, 10, 0⟩] ⟨sa, se, 5, 10, 0⟩) := rfl
  have HSv := hid hs
  clear hw hs
  unfold rv at HS
  go_enter Try.func10, Try.ntmps10
  go_wp2_with (fail)
  refine (new_ w).mono ?_
  rintro e w1 ⟨rfl, rfl⟩
  go_wp2_with (fail)
  refine HS.out.mono ?_
  rintro e w2 ⟨rfl, F2, hp2, _⟩
  have hsv := serve_pq hp2 5
  rw [HSv.out] at hsv
  simp only [tell, rv, Option.getD_some, Option.isSome_some] at hsv
  have HV := hid hsv
  clear hp2 hsv HS HP0
  go_wp2_with (fail)
  refine HV.out.mono ?_
  rintro e w3 ⟨rfl, F3, hp3, _⟩
  have HB : Hid (∀ o, Below w.heap.size w (w3.alloc o)) := hid fun o => hp3.bel.alloc hp3.bel.size o
  clear hp3 HV
  go_wp2
  go_ret
  exact ⟨rfl, HB.out _⟩
end Go.Proofs.Ytlicimkpgnemeaa.Nd
