/-
  Lists of lists of events as arguments; reevelaw16.few; the walk of JournalPlays.
-/
import Derived.Test.YtjhmmffejfomkaaJt
set_option linter.unusedVariables false
set_option linter.unusedSimpArgs false
namespace Go.Proofs.Ytjhmmffejfomkaa.Jn
open Go.ChangeShapes Go.WideShapes Go.ChangeAt Go.RowKit Go.Proofs.Ytjhmmffejfomkaa Go.Proofs.Ytjhmmffejfomkaa.B Go.Proofs.Ytjhmmffejfomkaa.Op
/-- A slice of records, out of its cells. -/
theorem read_rows {α H : Type} [Inhabited α] {enc : TypeId × Value → H} {P : Program} {W : World} {t e fuel : Nat} {cs : List Value} {x : DataW H × List MemPlace} (k : Nat) (f : α → List Value) (rel : α → Prop)
    (ht : P.underlying t = some (.slice e)) (hk : P.cellsOf e = k) (hk0 : 0 < k)
    (rd : ∀ n cs x, DataW.trod enc P W 0 (fun _ => true) true n e cs = some x → cs.length = k → ∃ a, cs = f a ∧ rel a)
    (hf : DataW.trod enc P W 0 (fun _ => true) true fuel t cs = some x) :
    ∃ (xs : List α) (A : Option Addr) (c : Nat), cs = [.slice A xs.length c] ∧ Rd W k A xs.length (xs.flatMap f) ∧ xs.length ≤ c ∧ c ≤ maxLen ∧ ∀ x ∈ xs, rel x := by
  rcases Deep.open_slice ht hf with ⟨hcs, hx⟩ | ⟨a, len, cap, m, n, D, Pl, hcs, _, hl, hm, hmm, hx, hcell⟩
  · exact ⟨[], none, 0, hcs, Rd.nil_ _ _ _, Nat.le_refl _, Nat.zero_le _, fun x hx => (by cases hx)⟩
  · have hlm : len ≤ m := by rw [hmm]; split <;> omega
    have each : ∀ i, i < len → ∃ q : α, (∀ r, r < k → W.cell? (a.add (i * k + r)) = (f q)[r]?) ∧ (f q).length = k ∧ rel q := by
      intro i hi
      obtain ⟨cs', h1, h2⟩ := hcell i (by omega)
      rw [hk] at h1
      obtain ⟨_, hlen, hc⟩ := World.cells?_some h1
      obtain ⟨q, hq, hr⟩ := rd _ _ _ h2 hlen
      refine ⟨q, fun r hr => ?_, by rw [← hq]; exact hlen, hr⟩
      have := hc r hr
      rw [Deep.add_add] at this
      rw [this, hq]
    obtain ⟨q, hq⟩ := Deep.choose_lt each
    have hlen : ((List.range len).map q).length = len := by simp
    have hk1 : ∀ x ∈ (List.range len).map q, (f x).length = k := by
      intro x hx
      obtain ⟨i, hi, rfl⟩ := List.mem_map.1 hx
      exact (hq i (List.mem_range.1 hi)).2.1
    refine ⟨(List.range len).map q, some a, cap, by rw [hlen]; exact hcs, ⟨by rw [flat_length f k _ hk1], fun h0 => ⟨a, rfl, fun j u hu => ?_⟩⟩, by omega, hm, ?_⟩
    · have hj : j < (((List.range len).map q).flatMap f).length := (List.getElem?_eq_some_iff.1 hu).1
      rw [flat_length f k _ hk1, hlen] at hj
      have hjr : j = j / k * k + j % k := by rw [Nat.mul_comm]; exact (Nat.div_add_mod j k).symm
      have hi : j / k < len := Nat.div_lt_of_lt_mul (by rw [Nat.mul_comm]; exact hj)
      have hr := Nat.mod_lt j hk0
      rw [hjr] at hu ⊢
      rw [flat_get f k _ hk1 _ _ hr, List.getElem?_map, List.getElem?_range hi] at hu
      rw [(hq _ hi).1 _ hr]
      exact hu
    · intro x hx
      obtain ⟨i, hi, rfl⟩ := List.mem_map.1 hx
      exact (hq i (List.mem_range.1 hi)).2.2
abbrev Lv := List Ev × Value
def InE (W : World) (x : Lv) : Prop := ∃ A c, x.2 = .slice A x.1.length c ∧ Rd W 2 A x.1.length (ecs x.1)
theorem open_lists {H : Type} {enc : TypeId × Value → H} {W : World} {base : Nat} {v : Value} {d : DataW H} {p : List MemPlace}
    (hv : Value.okWide Try.prog W .any base 40 v) (h : DataW.Trod enc Try.prog W 0 (fun _ => true) true 40 v d p) :
    ∃ (xs : List Lv) (A : Option Addr) (c : Nat), v = .slice A xs.length c ∧ Rd W 1 A xs.length (xs.map (·.2)) ∧ (xs.length ≤ maxLen ∧ ∀ x ∈ xs, InE W x) := by
  obtain ⟨xs, A, c, h1, h2, h3, h4, h5, h6, h7, h8⟩ := open_rows (α := Lv) 1 (fun x => [x.2]) (fun x _ => InE W x) Try.underlying40 (by kernel_rfl) (by omega)
    (fun n cs x hx hl => by
      obtain ⟨ys, A, c, hcs, hr, h1, h2, _⟩ := read_rows (α := Ev) 2 ec (fun _ => True) Try.underlying22 (by kernel_rfl) (by omega)
        (fun n cs x hx hl => by
          obtain ⟨ys, k, hk, hxy, _, hxl, hf⟩ := DataW.trod_struct Try.underlying29 hx
          match ys, hxl, cs, hl with
          | [y0, y1], _, [v0, v1], _ =>
            have g0 := hf 0 _ rfl
            have g1 := hf 1 _ rfl
            have e0 : Try.prog.cellsOf 3 = 1 := by kernel_rfl
            have e1 : Try.prog.cellsOf 2 = 1 := by kernel_rfl
            simp [e0, e1] at g0 g1
            obtain ⟨x0, z0, _, w0⟩ := DataW.trod_int Try.underlying3 g0
            obtain ⟨x1, z1, _, w1⟩ := DataW.trod_int Try.underlying2 g1
            simp only [List.cons.injEq, and_true] at z0 z1
            subst z0 z1
            exact ⟨(x0, x1), rfl, trivial⟩) hx
      exact ⟨(ys, .slice A ys.length c), hcs, A, c, rfl, hr⟩) hv h
  exact ⟨xs, A, c, h1, by rw [List.map_eq_flatMap]; exact h2, Nat.le_trans h4 h5, fun x hx => (h7 x hx).elim fun _ h => h⟩
theorem row_lv {W : World} {A : Option Addr} {xs : List Lv} (hr : Rd W 1 A xs.length (xs.map (·.2))) (hx : ∀ x ∈ xs, InE W x) {j : Nat} (hj : j < xs.length) :
    ∃ ad A2 c2, A = some ad ∧ W.cell? (ad.add j) = some (.slice A2 xs[j].1.length c2) ∧ Rd W 2 A2 xs[j].1.length (ecs xs[j].1) := by
  obtain ⟨ad, u, rfl, hu, hc⟩ := hr.at_ hj
  obtain ⟨A2, c2, e, h2⟩ := hx _ (List.getElem_mem hj)
  rw [List.getElem?_map, List.getElem?_eq_getElem hj] at hu
  simp only [Option.map_some, Option.some.injEq] at hu
  subst hu
  exact ⟨ad, A2, c2, rfl, by rw [hc, e], h2⟩
def FewOut (w : World) (xs : List Lv) (e : Ending) (w' : World) : Prop := ∃ b : Bool, e = .returned (.bool b) ∧ w = w' ∧ (b = true → xs.length ≤ 61 ∧ ∀ x ∈ xs, x.1.length ≤ 500)
theorem FewOut.of {w : World} {xs : List Lv} {e : Ending} {w' : World} (h : ∃ b : Bool, e = .returned (.bool b) ∧ w = w' ∧ (b = true → xs.length ≤ 61 ∧ ∀ x ∈ xs, x.1.length ≤ 500)) : FewOut w xs e w' := h
set_option maxHeartbeats 1000000 in
theorem few {w : World} {A : Option Addr} {c : Nat} {xs : List Lv} (hr : Rd w 1 A xs.length (xs.map (·.2))) (hx : ∀ x ∈ xs, InE w x) (hl : xs.length ≤ maxLen) :
    Calls Try.prog 15 #[.slice A xs.length c] w fun e w' => FewOut w xs e w' := by
  simp only [maxLen] at hl
  go_enter Try.func15, Try.ntmps15
  go_wp2_with (fail)
  go_loop [6] (fun v6 => ∃ j : Nat, j ≤ xs.length ∧ v6 = .int .i64 j ∧ Hid (∀ i (hi : i < xs.length), i < j → i ≤ 60 ∧ xs[i].1.length ≤ 500)) (fun v6 => xs.length - (intOf v6).toNat)
  case atStart => exact ⟨0, by omega, rfl, hid fun i _ h => by omega⟩
  case round =>
    obtain ⟨j, hj, rfl, hH⟩ := hrel
    by_cases hlt : j < xs.length
    · obtain ⟨ad, A2, c2, rfl, hc, _⟩ := row_lv hr hx hlt
      have HN : Hid (xs[j].1.length ≤ 500 → j ≤ 60 → ∀ i (hi : i < xs.length), i < j + 1 → i ≤ 60 ∧ xs[i].1.length ≤ 500) := hid fun h h2 i hi hij => by
        by_cases h' : i < j
        · exact hH.out i hi h'
        · obtain rfl : i = j := by omega
          exact ⟨h2, h⟩
      have hj2 : (j : Int) < (xs.length : Int) := by omega
      generalize xs[j].1.length = n at *
      by_cases h5 : 500 < n
      · have h5' : (500 : Int) < (n : Int) := by omega
        go_wp2
        go_ret
        exact .of ⟨false, rfl, rfl, fun h => by cases h⟩
      · have h5' : ¬ (500 : Int) < (n : Int) := by omega
        by_cases h6 : 60 < j
        · have h6' : (60 : Int) < (j : Int) := by omega
          go_wp2
          go_ret
          exact .of ⟨false, rfl, rfl, fun h => by cases h⟩
        · have h6' : ¬ (60 : Int) < (j : Int) := by omega
          have HN2 := hid (HN.out (by omega) (by omega))
          clear HN
          go_wp2
          go_roundw
          case rel => exact ⟨j + 1, by omega, by go_num, HN2⟩
          case measure => simp [intOf]; omega
    · obtain rfl : j = xs.length := by omega
      go_wp2
      go_ret
      exact .of ⟨true, rfl, rfl, fun _ => ⟨by
        by_cases h : xs.length ≤ 61
        · exact h
        · have := hH.out 61 (by omega) (by omega); omega, fun x hx => by
        obtain ⟨i, hi, rfl⟩ := List.getElem_of_mem hx
        exact (hH.out i hi hi).2⟩⟩
end Go.Proofs.Ytjhmmffejfomkaa.Jn
