/-
  inbox.Encode, inbox.Decode, the reference's Box.
-/
import Derived.Test.YtgbdpplnfcfhmaaIp
import Derived.Test.YtgbdpplnfcfhmaaPr
import Derived.Test.YtgbdpplnfcfhmaaPw
import Derived.Test.YtgbdpplnfcfhmaaBk
set_option linter.unusedVariables false
set_option linter.unusedSimpArgs false
namespace Go.Proofs.Ytgbdpplnfcfhmaa.Iw
open Go.ChangeShapes Go.WideShapes Go.ChangeAt Go.RowKit Go.Proofs.Ytgbdpplnfcfhmaa Go.Proofs.Ytgbdpplnfcfhmaa.B Go.Proofs.Ytgbdpplnfcfhmaa.Op Go.Proofs.Ytgbdpplnfcfhmaa.Lt Go.Proofs.Ytgbdpplnfcfhmaa.Ib Go.Proofs.Ytgbdpplnfcfhmaa.Ls Go.Proofs.Ytgbdpplnfcfhmaa.La Go.Proofs.Ytgbdpplnfcfhmaa.If Go.Proofs.Ytgbdpplnfcfhmaa.Im Go.Proofs.Ytgbdpplnfcfhmaa.Ir Go.Proofs.Ytgbdpplnfcfhmaa.Io Go.Proofs.Ytgbdpplnfcfhmaa.Pk
open Go.Proofs.Ytgbdpplnfcfhmaa.Lc (lb Wf)
open Go.Proofs.Ytgbdpplnfcfhmaa.Cr (Byte)
theorem open_ops2 {H : Type} {enc : TypeId × Value → H} {W : World} {base : Nat} {v : Value} {d : DataW H} {p : List MemPlace}
    (hv : Value.okWide Try.prog W .any base 35 v) (h : DataW.Trod enc Try.prog W 0 (fun _ => true) true 35 v d p) :
    ∃ (xs : List Oi) (A : Option Addr) (c : Nat), v = .slice A xs.length c ∧ Rd W 5 A xs.length (xs.flatMap ocells) ∧ (xs.length ≤ c ∧ c ≤ maxLen) ∧ ∀ x ∈ xs, In W x.2.1 x.2.2 ∧ x.2.1.1.size ≤ maxLen ∧ Wf x.2.1 := by
  obtain ⟨xs, A, c, h1, h2, h3, h4, h5, h6, h7, h8⟩ := open_rows (α := Oi) 5 ocells (fun x _ => In W x.2.1 x.2.2 ∧ x.2.1.1.size ≤ maxLen ∧ Wf x.2.1) Try.underlying35 (by kernel_rfl) (by omega)
    (fun n cs x hx hl => by
      obtain ⟨ys, k, hk, hxy, _, hxl, hf⟩ := DataW.trod_struct Try.underlying44 hx
      match ys, hxl, cs, hl with
      | [y0, y1], _, [v0, v1, v2, v3, v4], _ =>
        have g0 := hf 0 _ rfl
        have g1 := hf 1 _ rfl
        have e1 : Try.prog.cellsOf 30 = 4 := by kernel_rfl
        have e0 : Try.prog.cellsOf 3 = 1 := by kernel_rfl
        simp [e0, e1] at g0 g1
        obtain ⟨x0, z0, _, _⟩ := DataW.trod_int Try.underlying3 g0
        obtain ⟨y, hy, hiy⟩ := Ly.read_letter Try.underlying30 rfl rfl rfl rfl (by kernel_rfl) (by kernel_rfl) (by kernel_rfl) (by kernel_rfl) Try.underlying9 Try.underlying28 Try.underlying2 Try.underlying22 Try.underlying2 (by kernel_rfl) g1 rfl
        simp only [List.cons.injEq, and_true] at z0
        subst z0
        exact ⟨(x0, y), by rw [ocells, ← hy], hiy⟩) hv h
  exact ⟨xs, A, c, h1, h2, ⟨h4, h5⟩, fun x hx => (h7 x hx).elim fun _ h => h⟩
theorem readL_formed : ∀ (n : Nat) (l r : List Int) (xs : List L), Byte l → readL n l = some (xs, r) → ∀ x ∈ xs, formed x = true ∧ Wf x := by
  intro n
  induction n with
  | zero =>
    intro l r xs _ h
    simp only [readL, Option.some.injEq, Prod.mk.injEq] at h
    obtain ⟨rfl, _⟩ := h
    intro x hx
    cases hx
  | succ n ih =>
    intro l r xs hb h
    obtain ⟨x, r1, b1, o1, e⟩ : ∃ x r1 b1 o1, Lk.takeL l false = (x, r1, b1, o1) := ⟨_, _, _, _, rfl⟩
    rw [readL, e] at h
    simp only at h
    rcases o1 with _ | _
    · simp at h
    · obtain rfl := (takeL_len e).2
      obtain ⟨hl, hf, hw⟩ := takeL_only hb e
      simp only [if_true] at h
      rcases hq : readL n r1 with _ | ⟨ys, r2⟩
      · rw [hq] at h; simp at h
      · rw [hq] at h
        simp only [Option.map_some, Option.some.injEq, Prod.mk.injEq] at h
        obtain ⟨rfl, _⟩ := h
        intro z hz
        rcases List.mem_cons.1 hz with rfl | hz
        · exact ⟨hf, hw⟩
        · exact ih r1 r2 ys (fun c hc => hb c (by rw [hl]; exact List.mem_append_right _ hc)) hq z hz
theorem unpL_formed {l : List Int} {xs : List L} (hb : Byte l) (h : unpL l = (xs, 0)) : ∀ x ∈ xs, formed x = true ∧ Wf x := by
  obtain ⟨n, r0, b0, hs⟩ : ∃ n r0 b0, Cm.stN l false = (n, r0, b0) := ⟨_, _, _, rfl⟩
  have hbr := Cr.stN_byte l false hb
  rw [hs] at hbr
  rw [unpL_eq hs] at h
  rcases b0 with _ | _
  · simp only [Bool.false_eq_true, if_false] at h
    rcases hq : readL n.toNat r0 with _ | ⟨ys, r2⟩
    · rw [hq] at h; simp [endL] at h
    · rw [hq] at h
      rcases r2 with _ | ⟨z, r2⟩
      · simp only [endL, Prod.mk.injEq, and_true] at h
        subst h
        exact readL_formed _ _ _ _ hbr hq
      · simp [endL] at h
  · simp at h
theorem unpL_cases (l : List Int) : (unpL l).2 = 0 ∨ unpL l = ([], 2) := by
  obtain ⟨n, r0, b0, hs⟩ : ∃ n r0 b0, Cm.stN l false = (n, r0, b0) := ⟨_, _, _, rfl⟩
  rw [unpL_eq hs]
  rcases b0 with _ | _
  · simp only [Bool.false_eq_true, if_false]
    rcases readL n.toNat r0 with _ | ⟨ys, r2⟩
    · exact .inr rfl
    · rcases r2 with _ | ⟨z, r2⟩
      · exact .inl rfl
      · exact .inr rfl
  · exact .inr rfl
theorem Row.tight {w : World} {F : Nat → Prop} {v : Value} {xs : List L} (h : Row w F v xs) : Row w (fun k => F k ∧ k < w.heap.size) v xs := by
  obtain ⟨ps, h1, h2, h3, h4⟩ := h
  exact ⟨ps, h1, h2, fun x hx => ⟨(h3 x hx).1, fun k hk => ⟨⟨((h3 x hx).2 k hk).1, ((h3 x hx).2 k hk).2.elim fun cs hB => hB.lt⟩, ((h3 x hx).2 k hk).2⟩⟩, fun k hk => ⟨h4 k hk, (h2.lt k hk).2⟩⟩
def EnOut (w : World) (l : List Int) (e : Ending) (w' : World) : Prop := ∃ A c, e = .returned (.slice A l.length c) ∧ l.length ≤ c ∧ c ≤ 9223372036854775807 ∧ Rn w' .u8 A l ∧ Upd No w w'
theorem EnOut.of {w : World} {l : List Int} {e : Ending} {w' : World} (h : ∃ A c, e = .returned (.slice A l.length c) ∧ l.length ≤ c ∧ c ≤ 9223372036854775807 ∧ Rn w' .u8 A l ∧ Upd No w w') : EnOut w l e w' := h
theorem sm_of {x : L} (h : formed x = true ∧ Wf x) : Sm x := by
  have := Lc.formed_le h.1
  exact ⟨by omega, by omega, h.2⟩
/-- The row of an inbox, to be packed. -/
theorem row_rd {w : World} {F : Nat → Prop} {v : Value} {xs : List L} (h : Row w F v xs) : ∃ (ps : List Lv) (A : Option Addr) (c : Nat), ps.map (·.1) = xs ∧ v = .slice A ps.length c ∧ Rd w 4 A ps.length (pcells ps) ∧ ∀ x ∈ ps, In w x.1 x.2 := by
  obtain ⟨ps, h1, h2, h3, h4⟩ := h
  obtain ⟨A, c, rfl, _, _⟩ := h2.shape
  exact ⟨ps, A, c, h1, rfl, Sl.rd h2, fun x hx => (h3 x hx).1⟩
set_option maxHeartbeats 1000000 in
theorem encode (p : Nat) (xs : List L) (F : Nat → Prop) (w : World) (h : Ib w F p xs) (hok : ∀ x ∈ xs, formed x = true ∧ Wf x) (hl : xs.length ≤ 8) :
    Calls Try.prog 22 #[.pointer (some ⟨p, 0, none⟩)] w fun e w' => EnOut w (packL xs) e w' := by
  obtain ⟨v, h1, h2, h3, h4⟩ := h
  obtain ⟨ps, A, c, hx, rfl, hr, hin⟩ := row_rd h2
  have hpl : ps.length = xs.length := by rw [← hx]; simp
  have hP := pack A c ps w hr hin (fun y hy => sm_of (hok y.1 (by rw [← hx]; exact List.mem_map_of_mem hy))) (by omega)
  rw [hx] at hP
  unfold PkOut at hP
  have HP := hid hP
  have c0 := h1.cell 0
  simp at c0
  clear hP hr hin h1 h2 h3 h4 hx hpl hok
  generalize packL xs = l at *
  generalize packC xs = cd at *
  go_enter Try.func22, Try.ntmps22
  go_wp2_with (fail)
  refine HP.out.mono ?_
  rintro e w1 ⟨A1, c1, rfl, hc1, hc2, hr1, hu1⟩
  have HE := hid (And.intro hc1 (And.intro hc2 (And.intro hr1 hu1)))
  clear hc1 hc2 hr1 hu1
  go_wp2
  go_ret
  exact .of ⟨A1, c1, rfl, HE.out⟩
/-- What Decode leaves. -/
def decI (l : List Int) : Option (List L) := if (unpL l).2 = 0 ∧ (unpL l).1.length ≤ 8 then some (unpL l).1 else none
def DiOut (w : World) (r : Option (List L)) (e : Ending) (w' : World) : Prop :=
  match r with
  | none => e = .returned (.tuple #[.pointer none, .int .i64 2]) ∧ Upd No w w'
  | some xs => ∃ p F, e = .returned (.tuple #[.pointer (some ⟨p, 0, none⟩), .int .i64 0]) ∧ Ib w' F p xs ∧ (∀ k, F k → w.heap.size ≤ k) ∧ Upd No w w'
theorem DiOut.none_ {w : World} {r : Option (List L)} {e : Ending} {w' : World} (hr : r = none) (h : e = .returned (.tuple #[.pointer none, .int .i64 2]) ∧ Upd No w w') : DiOut w r e w' := by
  subst hr
  exact h
theorem DiOut.some_ {w : World} {r : Option (List L)} {xs : List L} {e : Ending} {w' : World} (hr : r = some xs) (h : ∃ p F, e = .returned (.tuple #[.pointer (some ⟨p, 0, none⟩), .int .i64 0]) ∧ Ib w' F p xs ∧ (∀ k, F k → w.heap.size ≤ k) ∧ Upd No w w') : DiOut w r e w' := by
  subst hr
  exact h
def DbOut (w : World) (r : Option (List L)) (e : Ending) (w' : World) : Prop :=
  match r with
  | none => e = .returned (.tuple #[.pointer none, .int .i64 2]) ∧ Upd No w w'
  | some xs => ∃ p F, e = .returned (.tuple #[.pointer (some ⟨p, 0, none⟩), .int .i64 0]) ∧ Ir w' F p xs ∧ (∀ k, F k → w.heap.size ≤ k) ∧ Upd No w w'
theorem DbOut.none_ {w : World} {r : Option (List L)} {e : Ending} {w' : World} (hr : r = none) (h : e = .returned (.tuple #[.pointer none, .int .i64 2]) ∧ Upd No w w') : DbOut w r e w' := by
  subst hr
  exact h
theorem DbOut.some_ {w : World} {r : Option (List L)} {xs : List L} {e : Ending} {w' : World} (hr : r = some xs) (h : ∃ p F, e = .returned (.tuple #[.pointer (some ⟨p, 0, none⟩), .int .i64 0]) ∧ Ir w' F p xs ∧ (∀ k, F k → w.heap.size ≤ k) ∧ Upd No w w') : DbOut w r e w' := by
  subst hr
  exact h
set_option maxHeartbeats 1000000 in
theorem decode {w : World} {A : Option Addr} {c : Nat} {l : List Int} (hr : Rn w .u8 A l) (hc : l.length ≤ c) (hl : l.length ≤ 2000000000000) (hm : c ≤ 9223372036854775807) (hb : Byte l) :
    Calls Try.prog 24 #[.slice A l.length c] w fun e w' => DiOut w (decI l) e w' := by
  have hU := unpack_ hr hc hl hm hb
  have hcs := unpL_cases l
  have HD : Hid (decI l = if (unpL l).2 = 0 ∧ (unpL l).1.length ≤ 8 then some (unpL l).1 else none) := hid rfl
  unfold UpOw at hU
  generalize unpL l = q at *
  obtain ⟨xs, cd⟩ := q
  simp only at hU hcs HD
  have HU := hid hU
  clear hU hr hb
  go_enter Try.func24, Try.ntmps24
  go_wp2_with (fail)
  refine HU.out.mono ?_
  rintro e w1 ⟨A1, c1, rfl, ⟨F, hrow, hF⟩, hu1⟩
  have HR := hid (And.intro hrow (And.intro hF hu1))
  have hlen : xs.length ≤ 9223372036854775807 := by
    obtain ⟨_, _, e, h1, h2⟩ := hrow.len
    simp only [maxLen] at h2
    omega
  clear hrow hF hu1
  rcases hcs with rfl | hcs
  · by_cases h8 : 8 < xs.length
    · have h8' : (8 : Int) < (xs.length : Int) := by omega
      have hout : Hid (decI l = none) := hid (by rw [HD.out, if_neg (by omega)])
      go_wp2
      go_ret2
      exact .none_ hout.out ⟨rfl, HR.out.2.2⟩
    · have h8' : ¬ (8 : Int) < (xs.length : Int) := by omega
      have hout : Hid (decI l = some xs) := hid (by rw [HD.out, if_pos ⟨rfl, by omega⟩])
      have HE : Hid (Ib (w1.alloc (.cells #[.slice A1 xs.length c1] 42)) (fun k => (F k ∧ k < w1.heap.size) ∨ k = w1.heap.size) w1.heap.size xs) := hid
        ⟨_, Blk.fresh _ _ _, ((Row.tight HR.out.1).upd ((Upd.refl No w1).alloc _) fun _ _ => no_ _).mono fun k hk => .inl hk, .inr rfl, fun k hk => by
          rcases hk with hk | rfl
          · have := hk.2; simp; omega
          · simp⟩
      go_wp2
      go_ret2
      exact .some_ hout.out ⟨_, _, rfl, HE.out, fun k hk => by
        have := HR.out.2.2.size
        rcases hk with hk | rfl
        · exact HR.out.2.1 k hk.1
        · exact this, HR.out.2.2.alloc _⟩
  · simp only [Prod.mk.injEq] at hcs
    obtain ⟨rfl, rfl⟩ := hcs
    have hout : Hid (decI l = none) := hid (by rw [HD.out, if_neg (by omega)])
    go_wp2
    go_ret2
    exact .none_ hout.out ⟨rfl, HR.out.2.2⟩
set_option maxHeartbeats 1000000 in
theorem rbox {w : World} {A : Option Addr} {c : Nat} {l : List Int} (hr : Rn w .u8 A l) (hc : l.length ≤ c) (hl : l.length ≤ 2000000000000) (hm : c ≤ 9223372036854775807) (hb : Byte l) :
    Calls Try.prog 25 #[.slice A l.length c] w fun e w' => DbOut w (decI l) e w' := by
  have hU := runpack_ hr hc hl hm hb
  have hcs := unpL_cases l
  have HD : Hid (decI l = if (unpL l).2 = 0 ∧ (unpL l).1.length ≤ 8 then some (unpL l).1 else none) := hid rfl
  unfold UpOw at hU
  generalize unpL l = q at *
  obtain ⟨xs, cd⟩ := q
  simp only at hU hcs HD
  have HU := hid hU
  clear hU hr hb
  go_enter Try.func25, Try.ntmps25
  go_wp2_with (fail)
  refine HU.out.mono ?_
  rintro e w1 ⟨A1, c1, rfl, ⟨F, hrow, hF⟩, hu1⟩
  have HR := hid (And.intro hrow (And.intro hF hu1))
  have hlen : xs.length ≤ 9223372036854775807 := by
    obtain ⟨_, _, e, h1, h2⟩ := hrow.len
    simp only [maxLen] at h2
    omega
  clear hrow hF hu1
  rcases hcs with rfl | hcs
  · by_cases h8 : 8 < xs.length
    · have h8' : (8 : Int) < (xs.length : Int) := by omega
      have hout : Hid (decI l = none) := hid (by rw [HD.out, if_neg (by omega)])
      go_wp2
      go_ret2
      exact .none_ hout.out ⟨rfl, HR.out.2.2⟩
    · have h8' : ¬ (8 : Int) < (xs.length : Int) := by omega
      have hout : Hid (decI l = some xs) := hid (by rw [HD.out, if_pos ⟨rfl, by omega⟩])
      have HE : Hid (Ir (w1.alloc (.cells #[.slice A1 xs.length c1] 40)) (fun k => (F k ∧ k < w1.heap.size) ∨ k = w1.heap.size) w1.heap.size xs) := hid
        ⟨_, Blk.fresh _ _ _, ((Row.tight HR.out.1).upd ((Upd.refl No w1).alloc _) fun _ _ => no_ _).mono fun k hk => .inl hk, .inr rfl, fun k hk => by
          rcases hk with hk | rfl
          · have := hk.2; simp; omega
          · simp⟩
      go_wp2
      go_ret2
      exact .some_ hout.out ⟨_, _, rfl, HE.out, fun k hk => by
        have := HR.out.2.2.size
        rcases hk with hk | rfl
        · exact HR.out.2.1 k hk.1
        · exact this, HR.out.2.2.alloc _⟩
  · simp only [Prod.mk.injEq] at hcs
    obtain ⟨rfl, rfl⟩ := hcs
    have hout : Hid (decI l = none) := hid (by rw [HD.out, if_neg (by omega)])
    go_wp2
    go_ret2
    exact .none_ hout.out ⟨rfl, HR.out.2.2⟩
end Go.Proofs.Ytgbdpplnfcfhmaa.Iw
