/-
  The reach of what lies inside an argument that is a slice of records.
-/
import Derived.Test.YtlicimkpgnemeaaOp
import Derived.Test.YtlicimkpgnemeaaLaw
import Derived.SizedLaws
set_option linter.unusedVariables false
set_option linter.unusedSimpArgs false
namespace Go.Proofs.Ytlicimkpgnemeaa.Op
open Go.ChangeShapes Go.WideShapes Go.ChangeAt Go.RowKit Go.Proofs.Ytlicimkpgnemeaa Go.Proofs.Ytlicimkpgnemeaa.B
theorem weightsAll_mem {H : Type} {P : Program} {e : TypeId} : ∀ {l : List (DataW H)} {d : DataW H}, d ∈ l → ∀ n ∈ d.weights P e, n ∈ DataW.weightsAll P e l
  | [], _, h, _, _ => by cases h
  | x :: r, d, h, n, hn => by
    simp only [DataW.weightsAll, List.mem_append]
    rcases List.mem_cons.1 h with h | h
    · subst h
      exact .inl hn
    · exact .inr (weightsAll_mem h n hn)
theorem inner_le {H : Type} {P : Program} {ts : List TypeId} {ds : List (DataW H)} {t e : TypeId} {d y : DataW H} {es sp : List (DataW H)} (hsz : (DataW.weightsEach P ts ds).all (· ≤ reachBytes) = true) {j : Nat} (htj : ts[j]? = some t) (hdj : ds[j]? = some d)
    (ht : P.underlying t = some (.slice e)) (hd : d = .slice es sp) (hy : y ∈ es) : ∀ n ∈ y.weights P e, n ≤ 140737488351232 := by
  intro n hn
  subst hd
  have h1 : n ∈ (DataW.slice es sp).weights P t := by
    simp only [DataW.weights, ht, List.mem_cons, List.mem_append]
    exact .inr (.inl (weightsAll_mem hy n hn))
  have h2 := List.all_eq_true.1 hsz n (DataW.weights_mem_each htj hdj n h1)
  have h3 : n ≤ reachBytes := of_decide_eq_true h2
  exact h3
theorem field_mem {H : Type} {P : Program} {e tf : TypeId} {fs : Array Field} {parts : List (DataW H)} {dk : DataW H} (he : P.underlying e = some (.struct fs)) {k : Nat} (hk : (fs.toList.map (·.type))[k]? = some tf) (hp : parts[k]? = some dk) :
    ∀ n ∈ dk.weights P tf, n ∈ (DataW.agg parts).weights P e := by
  intro n hn
  simp only [DataW.weights, he]
  exact DataW.weights_mem_each hk hp n hn
theorem slice_mem {H : Type} {P : Program} {t e : TypeId} {es sp : List (DataW H)} (ht : P.underlying t = some (.slice e)) : (es.length + sp.length) * P.bytesOf e ∈ (DataW.slice es sp).weights P t := by
  simp only [DataW.weights, ht]
  exact List.mem_cons_self
/-- A slice of whole numbers inside a record: what it reads as, and its datum's size. -/
theorem read_nums {H : Type} {enc : TypeId × Value → H} {P : Program} {W : World} {t e fuel : Nat} {k : IntKind} {cs : List Value} {x : DataW H × List MemPlace}
    (ht : P.underlying t = some (.slice e)) (he : P.underlying e = some (.int k)) (hC : P.cellsOf e = 1) (hf : DataW.trod enc P W 0 (fun _ => true) true fuel t cs = some x) :
    ∃ (l : List Int) (A : Option Addr) (c : Nat), cs = [.slice A l.length c] ∧ Rn W k A l ∧ l.length ≤ c ∧ c ≤ maxLen ∧ (∀ n ∈ l, (Lit.int k n).wf = true) ∧ ((x.1 = .nil ∧ c = 0) ∨ ∃ es sp, x.1 = .slice es sp ∧ es.length + sp.length = c) := by
  rcases open_ints ht he hC hf with ⟨hcs, hx⟩ | ⟨a, len, cap, zs, hcs, _, hl, hm, hz, hx, hcell, hwz⟩
  · exact ⟨[], none, 0, by simpa using hcs, Rd.nil_ _ _ _, Nat.le_refl _, Nat.zero_le _, fun n hn => (by cases hn), .inl ⟨congrArg Prod.fst hx, rfl⟩⟩
  · have hz' : zs.length = cap := by simpa using hz
    have hlt : (zs.take len).length = len := by rw [List.length_take]; omega
    have hd : x.1 = .slice (lits k (zs.take len)) (lits k (zs.drop len)) := congrArg Prod.fst hx
    refine ⟨zs.take len, some a, cap, by rw [hlt]; exact hcs, ⟨by simp [nums], fun hn => ⟨a, rfl, fun i u hu => ?_⟩⟩, by omega, hm, fun n hn => hwz n (List.mem_of_mem_take hn), .inr ⟨_, _, hd, by simp [lits]; omega⟩⟩
    have hil : i < (zs.take len).length := by
      rcases Nat.lt_or_ge i (zs.take len).length with h1 | h1
      · exact h1
      · rw [List.getElem?_eq_none (by rw [nums_length]; exact h1)] at hu
        cases hu
    rw [nums_get k _ i hil, gi_take _ _ _ (by omega)] at hu
    rw [hcell i (by omega)]
    exact hu
end Go.Proofs.Ytlicimkpgnemeaa.Op
