/-
  Memory laws for rows of several cells: copy, clear, append, each by the equation of its run; slices.Delete at reminders.
-/
import Derived.Test.YtlicimkpgnemeaaNp
import Derived.Test.YtlicimkpgnemeaaRg
import Derived.Test.YtlicimkpgnemeaaProg
import Derived.Lib.SliceRun
import Derived.Lib.AppendZerosOnto
import Derived.Lib.Overlaps
import Derived.Laws.CopyRow
import Derived.Laws.AppendOwn
import Derived.Laws.Externs
import Derived.Deep.RegionHeld3
import Derived.Deep.RegionLaw
import Derived.Deep.DrawnRows
set_option linter.unusedVariables false
set_option linter.unusedSimpArgs false
namespace Go.Proofs.Ytlicimkpgnemeaa.Nd
open Go.RowKit Go.Proofs.Ytlicimkpgnemeaa.B
/-- l with xs laid from place o on. -/
def lay (l : List Value) (o : Nat) (xs : List Value) : Array Value := (l.take o ++ xs ++ l.drop (o + xs.length)).toArray
theorem lay_size {l : List Value} {o : Nat} {xs : List Value} (h : o + xs.length ≤ l.length) : (lay l o xs).size = l.length := by
  unfold lay
  simp only [List.size_toArray, List.length_append, List.length_take, List.length_drop]
  omega
theorem lay_take {l : List Value} {o k : Nat} {xs : List Value} (h : o + xs.length ≤ l.length) (hk : o + xs.length ≤ k) : (lay l o xs).toList.take k = l.take o ++ xs ++ (l.take k).drop (o + xs.length) := by
  unfold lay
  simp only
  apply List.ext_getElem?
  intro j
  rw [List.getElem?_take]
  simp only [List.getElem?_append, List.length_append, List.length_take, List.getElem?_drop, List.getElem?_take, Nat.min_eq_left (show o ≤ l.length by omega)]
  by_cases hj : j < k
  · rw [if_pos hj]
    split
    · rfl
    · rename_i h2
      rw [show o + xs.length + (j - (o + xs.length)) = j from by omega, if_pos hj]
  · rw [if_neg hj, if_neg (by omega), if_neg (by omega)]
theorem lay_low {l : List Value} {o k : Nat} {xs : List Value} (h : o + xs.length ≤ l.length) (hk : k ≤ o) : (lay l o xs).toList.take k = l.take k := by
  unfold lay
  simp only
  rw [List.append_assoc, List.take_append_of_le_length (by rw [List.length_take]; omega), List.take_take, Nat.min_eq_left hk]
theorem Upd.setRow {w : World} (g : Nat) (cur : Array Value) : Upd (fun k => k = g) w (w.setRow g cur) :=
  ⟨rfl, rfl, rfl, by simp, fun k _ hk => setRow_other w g k _ fun e => hk e⟩
theorem Blk.row {w : World} {g : Nat} {t : TypeId} {cs : Array Value} (h : Blk w g t cs) (cur : Array Value) : Blk (w.setRow g cur) g t cur := setRow_heap w g _ cur t (0, 0) h
section
variable {P : Program}
theorem run_copy_rows (w : World) (dT sT ty elem : TypeId) (size g o dLen dCap : Nat) (a : Addr) (sLen sCap m : Nat) (cur : Array Value) (t : TypeId) (cs : List Value)
    (hu : P.underlying dT = some (.slice elem)) (hs : (P.info? elem).map (·.size) = some size)
    (hg : w.heap[g]? = some (.cells cur t (0, 0))) (hm : m = Nat.min sLen dLen) (hn : cs.length = m * size)
    (hsrc : ∀ j v, cs[j]? = some v → w.cell? (a.add j) = some v) (hfit : o + cs.length ≤ cur.size) (h1 : ∀ v ∈ cs, v.oneCell' = true) :
    (Builtin.copy_ #[dT, sT] ty #[.slice (some ⟨g, o, none⟩) dLen dCap, .slice (some a) sLen sCap]).run P w = .ok (goInt m) (w.setRow g (lay cur.toList o cs)) := by
  have hf := run_firstCells_some (P := P) w size m a sLen sCap cs hn hsrc
  have hst := run_storeCells_at P g o t cs 0 cur w hg (by simpa using hfit) h1
  simp only [Nat.add_zero] at hst
  cases hq : P.info? elem with
  | none => simp [hq] at hs
  | some i =>
    have hi : i.size = size := by simpa [hq] using hs
    simp [Builtin.copy_, run_underlying hu, Builtin.lenOf, sizeOf, typeInfo, hq, hi, ← hm, hf, hst, lay]
theorem run_clear_rows (w : World) (t e ty : TypeId) (z : Value) (zs : List Value) (ht : P.underlying t = some (.slice e)) (hv : ∀ w, (zeroValue e).run P w = .ok z w) (n : Nat) (hz : (Builtin.zeroCells z.cells n).toList = zs) (h1 : ∀ u ∈ zs, u.oneCell' = true) (g o c : Nat) (cur : Array Value) (tt : TypeId)
    (hg : w.heap[g]? = some (.cells cur tt (0, 0))) (hn : 0 < n) (hfit : o + zs.length ≤ cur.size) :
    (Builtin.clear_ #[t] ty #[.slice (some ⟨g, o, none⟩) n c]).run P w = .ok (.tuple #[]) (w.setRow g (lay cur.toList o zs)) := by
  have hst := run_storeCells_at P g o tt zs 0 cur w hg (by simpa using hfit) h1
  simp only [Nat.add_zero] at hst
  obtain ⟨m, rfl⟩ : ∃ m, n = m + 1 := ⟨n - 1, by omega⟩
  simp [Builtin.clear_, run_underlying ht, hv, hz, hst, lay]
section
variable {ops : Array Oper} {rest : List Oper} {o : Oper} {a : Act} {Q : Exit → Act → World → Prop} {K : Act → World → Prop} {E : Prop}
theorem wp_copy_eq {w : World} (d s : Operand) (t t' : TypeId) (ho : o.op = .call { callee := .builtin .copy, args := #[d, s], argTypes := #[t, t'] }) (v u : Value) (hd : a.eval d = v) (hs : a.eval s = u) {v' : Value} {w' : World}
    (hr : (Builtin.copy_ #[t, t'] o.type #[v, u]).run P w = .ok v' w') (h : K (a.put o.dst v') w') : o.wp P a w K Q := by
  unfold Oper.wp execOp
  simp only [ho, resolve, invoke, builtin, Sem.run_bind, Sem.run_pure, Result.andThen_ok, List.map_toArray, List.map_cons, List.map_nil, hd, hs, hr]
  exact h
theorem wpList_copy_eq {w : World} (hgd : o.guard = none) (d s : Operand) (t t' : TypeId) (ho : o.op = .call { callee := .builtin .copy, args := #[d, s], argTypes := #[t, t'] }) (v u : Value) (hd : a.eval d = v) (hs : a.eval s = u) {v' : Value} {w' : World}
    (hr : (Builtin.copy_ #[t, t'] o.type #[v, u]).run P w = .ok v' w') (h : wpList P ops Q rest (a.put o.dst v') w') : wpList P ops Q (o :: rest) a w :=
  wpList_plain hgd fun _ hK => wp_copy_eq d s t t' ho v u hd hs hr (hK _ _ h)
theorem step_copy_eq {w : World} (hg : o.guard = none) (d s : Operand) (t t' : TypeId) (ho : o.op = .call { callee := .builtin .copy, args := #[d, s], argTypes := #[t, t'] }) (v u : Value) (hd : a.eval d = v) (hs : a.eval s = u) {v' : Value} {w' : World}
    (hr : (Builtin.copy_ #[t, t'] o.type #[v, u]).run P w = .ok v' w') (h : K (a.put o.dst v') w') : if Region.wanted o (yielded ops a.tmps) = true then Oper.wp P o a w K Q else E := by
  have hw : Region.wanted o (yielded ops a.tmps) = true := by simp [Region.wanted, hg]
  rw [if_pos hw]
  exact wp_copy_eq d s t t' ho v u hd hs hr h
theorem wp_append_eq {w : World} (d s : Operand) (t t' : TypeId) (ho : o.op = .call { callee := .builtin .append, args := #[d, s], argTypes := #[t, t'] }) (v u : Value) (hd : a.eval d = v) (hs : a.eval s = u) {v' : Value} {w' : World}
    (hr : (Builtin.append_ #[t, t'] o.type #[v, u]).run P w = .ok v' w') (h : K (a.put o.dst v') w') : o.wp P a w K Q := by
  unfold Oper.wp execOp
  simp only [ho, resolve, invoke, builtin, Sem.run_bind, Sem.run_pure, Result.andThen_ok, List.map_toArray, List.map_cons, List.map_nil, hd, hs, hr]
  exact h
theorem wpList_append_eq {w : World} (hgd : o.guard = none) (d s : Operand) (t t' : TypeId) (ho : o.op = .call { callee := .builtin .append, args := #[d, s], argTypes := #[t, t'] }) (v u : Value) (hd : a.eval d = v) (hs : a.eval s = u) {v' : Value} {w' : World}
    (hr : (Builtin.append_ #[t, t'] o.type #[v, u]).run P w = .ok v' w') (h : wpList P ops Q rest (a.put o.dst v') w') : wpList P ops Q (o :: rest) a w :=
  wpList_plain hgd fun _ hK => wp_append_eq d s t t' ho v u hd hs hr (hK _ _ h)
theorem step_append_eq {w : World} (hg : o.guard = none) (d s : Operand) (t t' : TypeId) (ho : o.op = .call { callee := .builtin .append, args := #[d, s], argTypes := #[t, t'] }) (v u : Value) (hd : a.eval d = v) (hs : a.eval s = u) {v' : Value} {w' : World}
    (hr : (Builtin.append_ #[t, t'] o.type #[v, u]).run P w = .ok v' w') (h : K (a.put o.dst v') w') : if Region.wanted o (yielded ops a.tmps) = true then Oper.wp P o a w K Q else E := by
  have hw : Region.wanted o (yielded ops a.tmps) = true := by simp [Region.wanted, hg]
  rw [if_pos hw]
  exact wp_append_eq d s t t' ho v u hd hs hr h
end
/-- 's[l:h]' and its like, each value under one name. -/
theorem cut_lhm (t e : TypeId) (s : Nat) (ht : P.underlying t = some (.slice e)) (hi : (P.info? e).map (·.size) = some s) (A : Option Addr) (n c l h m : Nat) (h1 : l ≤ h) (h2 : h ≤ m) (h3 : m ≤ c) :
    ∃ v : Value, ∀ W : World, (Instr.slice t (.slice A n c) (some (.int .i64 l)) (some (.int .i64 h)) (some (.int .i64 m))).run P W = .ok v W := by
  obtain ⟨i, hi1, hi2⟩ := Option.map_eq_some_iff.1 hi
  have hel : P.elem t = e := by simp [Program.elem, ht]
  have hu : P.underlying t = some (.slice (P.elem t)) := by rw [hel]; exact ht
  refine ⟨.slice (if m = l then A else A.map (·.add (l * s))) (h - l) (m - l), fun W => ?_⟩
  rw [run_slice_lhm W t A n c hu .i64 .i64 .i64 (l : Int) (h : Int) (m : Int) (Int.natCast_nonneg _) (by omega) (by omega) (by omega), hel]
  simp [sizeOf, typeInfo, hi1, hi2, sliced, Result.andThen]
theorem cut_lo (t e : TypeId) (s : Nat) (ht : P.underlying t = some (.slice e)) (hi : (P.info? e).map (·.size) = some s) (A : Option Addr) (n c l n' c' : Nat) (hl : l ≤ n) (hn : n' = n - l) (hc : c' = c - l) :
    ∃ A' : Option Addr, A' = (if c = l then A else A.map (·.add (l * s))) ∧ ∀ W : World, (Instr.slice t (.slice A n c) (some (.int .i64 l)) none none).run P W = .ok (.slice A' n' c') W := by
  subst hn hc
  refine ⟨_, rfl, fun W => ?_⟩
  obtain ⟨i, hi1, hi2⟩ := Option.map_eq_some_iff.1 hi
  have hel : P.elem t = e := by simp [Program.elem, ht]
  have hu : P.underlying t = some (.slice (P.elem t)) := by rw [hel]; exact ht
  rw [run_slice_l W t A n c hu .i64 (l : Int) (Int.natCast_nonneg _) (by omega), hel]
  simp [sizeOf, typeInfo, hi1, hi2, sliced, Result.andThen]
theorem cut_hi (t e : TypeId) (s : Nat) (ht : P.underlying t = some (.slice e)) (hi : (P.info? e).map (·.size) = some s) (A : Option Addr) (n c h : Nat) (hh : h ≤ c) :
    ∀ W : World, (Instr.slice t (.slice A n c) none (some (.int .i64 h)) none).run P W = .ok (.slice A h c) W := by
  intro W
  obtain ⟨i, hi1, hi2⟩ := Option.map_eq_some_iff.1 hi
  have hel : P.elem t = e := by simp [Program.elem, ht]
  have hu : P.underlying t = some (.slice (P.elem t)) := by rw [hel]; exact ht
  rw [run_slice_h W t A n c hu .i64 (h : Int) (Int.natCast_nonneg _) (by omega), hel]
  have e0 : (A.map fun x => x.add 0) = A := by cases A <;> rfl
  simp [sizeOf, typeInfo, hi1, sliced, Result.andThen, e0]
theorem cut_lh (t e : TypeId) (s : Nat) (ht : P.underlying t = some (.slice e)) (hi : (P.info? e).map (·.size) = some s) (A : Option Addr) (n c l h n' c' : Nat) (hl : l ≤ h) (hh : h ≤ c) (hn : n' = h - l) (hc : c' = c - l) :
    ∃ A' : Option Addr, A' = (if c = l then A else A.map (·.add (l * s))) ∧ ∀ W : World, (Instr.slice t (.slice A n c) (some (.int .i64 l)) (some (.int .i64 h)) none).run P W = .ok (.slice A' n' c') W := by
  subst hn hc
  refine ⟨_, rfl, fun W => ?_⟩
  obtain ⟨i, hi1, hi2⟩ := Option.map_eq_some_iff.1 hi
  have hel : P.elem t = e := by simp [Program.elem, ht]
  have hu : P.underlying t = some (.slice (P.elem t)) := by rw [hel]; exact ht
  rw [run_slice_lh W t A n c hu .i64 .i64 (l : Int) (h : Int) (Int.natCast_nonneg _) (by omega) (by omega), hel]
  simp [sizeOf, typeInfo, hi1, hi2, sliced, Result.andThen]
end
theorem rm_info : (Try.prog.info? 30).map (fun i => (i.zero, i.size, i.bytes)) = some (some (.agg #[.string ⟨#[]⟩, .string ⟨#[]⟩, .int .i64 0, .int .i64 0, .int .i64 0]), 5, 56) := by kernel_rfl
theorem rm_size : (Try.prog.info? 30).map (·.size) = some 5 := by kernel_rfl
theorem rm_zero (w : World) : (zeroValue 30).run Try.prog w = .ok (.agg #[.string ⟨#[]⟩, .string ⟨#[]⟩, .int .i64 0, .int .i64 0, .int .i64 0]) w := by
  obtain ⟨i0, hi, hzz⟩ := Option.map_eq_some_iff.1 rm_info
  simp only [Prod.mk.injEq] at hzz
  simp [zeroValue, typeInfo, hi, hzz.1]
def zc : List Value := [.string ⟨#[]⟩, .string ⟨#[]⟩, .int .i64 0, .int .i64 0, .int .i64 0]
theorem zc_eq : (Builtin.zeroCells (Value.agg #[.string ⟨#[]⟩, .string ⟨#[]⟩, .int .i64 0, .int .i64 0, .int .i64 0]).cells 1).toList = zc := by
  simp [Builtin.zeroCells, Value.cells, zc]
  try rfl
theorem add_at (g o j : Nat) : (⟨g, o, none⟩ : Addr).add j = ⟨g, o + j, none⟩ := by unfold Addr.add; split <;> simp_all
set_option maxHeartbeats 4000000 in
set_option maxRecDepth 100000 in
/-- slices.Delete, of one element. -/
theorem delete (base g c i j N N1 : Nat) (cs : List Value) (w : World) (h : w.ownsRow base 30 5 (.slice (some ⟨g, 0, none⟩) N c) N cs) (h1 : ∀ u ∈ cs, u.oneCell' = true) (hj : j = i + 1) (hN : N = N1 + 1) (hi : i < N) :
    Calls Try.prog 27 #[.slice (some ⟨g, 0, none⟩) N c, .int .i64 i, .int .i64 j] w fun e w' => e = .returned (.slice (some ⟨g, 0, none⟩) N1 c) ∧ w'.ownsRow base 30 5 (.slice (some ⟨g, 0, none⟩) N1 c) N1 (cs.take (i * 5) ++ cs.drop (j * 5)) ∧ Upd (fun k => k = g) w w' := by
  obtain ⟨hlen, h2⟩ := h
  obtain ⟨g', cap, cur, hv, hbg, hg, hnc, hcm, hcs, htake⟩ : ∃ g' cap cur, Value.slice (some ⟨g, 0, none⟩) N c = .slice (some ⟨g', 0, none⟩) N cap ∧ base ≤ g' ∧ Blk w g' 30 cur ∧ N ≤ cap ∧ cap ≤ maxLen ∧ cur.size = cap * 5 ∧ cur.toList.take (N * 5) = cs := by
    rcases h2 with ⟨h3, h4⟩ | ⟨g', cap, cur, h3, h4, h5, h6, h7, h8, h9⟩
    · omega
    · exact ⟨g', cap, cur, h3, h4, h5, h6, h7, h8, h9⟩
  injection hv with hv1 hv2 hv3
  injection hv1 with hv1
  injection hv1 with hv1
  subst hv1 hv3
  simp only [maxLen] at hcm
  obtain ⟨i0, hi0, hzz⟩ := Option.map_eq_some_iff.1 rm_info
  simp only [Prod.mk.injEq] at hzz
  obtain ⟨z0, z1, z2⟩ := hzz
  obtain ⟨v0, hS0⟩ := cut_lhm (P := Try.prog) 42 30 5 Try.underlying42 rm_size (some ⟨g, 0, none⟩) N c i j N (by omega) (by omega) hnc
  have hS1 := cut_hi (P := Try.prog) 42 30 5 Try.underlying42 rm_size (some ⟨g, 0, none⟩) N c i (by omega)
  obtain ⟨m, hm⟩ : ∃ m, m = N - j := ⟨_, rfl⟩
  obtain ⟨c2, hc2⟩ : ∃ c2, c2 = c - j := ⟨_, rfl⟩
  obtain ⟨A2, hA2, hS2⟩ := cut_lo (P := Try.prog) 42 30 5 Try.underlying42 rm_size (some ⟨g, 0, none⟩) N c j m c2 (by omega) hm hc2
  obtain ⟨c3, hc3⟩ : ∃ c3, c3 = c - N1 := ⟨_, rfl⟩
  obtain ⟨A3, hA3, hS3⟩ := cut_lh (P := Try.prog) 42 30 5 Try.underlying42 rm_size (some ⟨g, 0, none⟩) N1 c N1 N 1 c3 (by omega) hnc (by omega) hc3
  rw [if_neg (by omega)] at hA3
  have hA3' : A3 = some ⟨g, N1 * 5, none⟩ := by rw [hA3]; simp [add_at]
  subst hA3'
  clear hA3
  obtain ⟨ad2, hA2', hsrc⟩ : ∃ ad2, A2 = some ad2 ∧ ∀ k u, (cs.drop (j * 5))[k]? = some u → w.drew.cell? (ad2.add k) = some u := by
    rw [hA2]
    by_cases hcj : c = j
    · rw [if_pos hcj]
      refine ⟨_, rfl, fun k u hu => ?_⟩
      rw [List.drop_of_length_le (by rw [hlen]; omega)] at hu
      simp at hu
    · rw [if_neg hcj]
      refine ⟨_, rfl, fun k u hu => ?_⟩
      show w.cell? (((⟨g, 0, none⟩ : Addr).add (j * 5)).add k) = some u
      rw [add_at, Nat.zero_add, add_at, hg.cell]
      rw [List.getElem?_drop, ← htake, List.getElem?_take] at hu
      split at hu
      · rw [Array.getElem?_toList] at hu
        exact hu
      · cases hu
  subst hA2'
  clear hA2
  have hnl : (cs.drop (j * 5)).length = m * 5 := by rw [List.length_drop, hlen, hm, Nat.sub_mul]
  have hcl5 : cur.toList.length = c * 5 := by rw [Array.length_toList, hcs]
  have him : i + m = N1 := by omega
  have hap : ∀ ty, (Builtin.append_ #[42, 42] ty #[.slice (some ⟨g, 0, none⟩) i c, .slice (some ad2) m c2]).run Try.prog w.drew = .ok (.slice (some ⟨g, 0, none⟩) N1 c) (w.drew.setRow g (lay cur.toList (i * 5) (cs.drop (j * 5)))) := fun ty => by
    have hr := run_append_room (P := Try.prog) w.drew 42 ty 30 i0 Try.underlying42 hi0 g i c cur hg ad2 m c2 (cs.drop (j * 5)) (by rw [z1]; exact hnl) hsrc (fun u hu => h1 u (List.mem_of_mem_drop hu)) (by omega) (by rw [z1, hnl, hcs]; omega)
    rw [z1, him] at hr
    exact hr
  obtain ⟨cur1, hcur1⟩ : ∃ cur1, cur1 = lay cur.toList (i * 5) (cs.drop (j * 5)) := ⟨_, rfl⟩
  rw [← hcur1] at hap
  have hs1 : cur1.size = c * 5 := by rw [hcur1, lay_size (by rw [hnl, hcl5]; omega), hcl5]
  obtain ⟨w1, hw1⟩ : ∃ w1, w1 = w.drew.setRow g cur1 := ⟨_, rfl⟩
  rw [← hw1] at hap
  have hb1 : Blk w1 g 30 cur1 := by rw [hw1]; exact Blk.row (Blk.drew hg) cur1
  have hu1 : Upd (fun k => k = g) w w1 := by
    rw [hw1]
    exact ((Upd.refl (fun k => k = g) w).drew).trans (Upd.setRow g cur1) fun _ _ h => h
  have hcl : ∀ ty, (Builtin.clear_ #[42] ty #[.slice (some ⟨g, N1 * 5, none⟩) 1 c3]).run Try.prog w1 = .ok (.tuple #[]) (w1.setRow g (lay cur1.toList (N1 * 5) zc)) := fun ty =>
    run_clear_rows (P := Try.prog) w1 42 30 ty _ zc Try.underlying42 rm_zero 1 zc_eq (by intro u hu; simp only [zc, List.mem_cons, List.not_mem_nil, or_false] at hu; rcases hu with rfl | rfl | rfl | rfl | rfl <;> rfl) g (N1 * 5) c3 cur1 30 hb1 (by omega) (by rw [hs1]; simp only [zc, List.length_cons, List.length_nil]; omega)
  have HE : Hid ((w1.setRow g (lay cur1.toList (N1 * 5) zc)).ownsRow base 30 5 (.slice (some ⟨g, 0, none⟩) N1 c) N1 (cs.take (i * 5) ++ cs.drop (j * 5)) ∧ Upd (fun k => k = g) w (w1.setRow g (lay cur1.toList (N1 * 5) zc))) := hid (by
    have hl1 : cur1.toList.length = c * 5 := by rw [Array.length_toList, hs1]
    refine ⟨⟨?_, .inr ⟨g, c, _, rfl, hbg, Blk.row hb1 _, by omega, by simp only [maxLen]; omega, ?_, ?_⟩⟩, hu1.trans (Upd.setRow g _) fun _ _ h => h⟩
    · rw [List.length_append, hnl, List.length_take, hlen]; omega
    · rw [lay_size (by rw [hl1]; simp only [zc, List.length_cons, List.length_nil]; omega), hl1]
    · rw [lay_low (by rw [hl1]; simp only [zc, List.length_cons, List.length_nil]; omega) (Nat.le_refl _), hcur1, lay_take (by rw [hnl, hcl5]; omega) (by rw [hnl]; omega)]
      have e1 : (cur.toList.take (N1 * 5)).drop (i * 5 + (cs.drop (j * 5)).length) = [] := List.drop_of_length_le (by rw [hnl, List.length_take]; omega)
      rw [e1, List.append_nil]
      congr 1
      rw [← htake, List.take_take, Nat.min_eq_left (by omega)])
  have hne : ((i : Int) == (j : Int)) = false := by
    rw [beq_eq_false_iff_ne]
    omega
  have HN := hid hN
  clear hsrc hnl hcl5 him hcur1 hs1 hw1 hb1 hu1 htake hg hlen h1 h2 hm hc2 hc3 hj hN
  go_enter Try.func27, Try.ntmps27
  go_wp2
  go_region_law ((refine step_append_eq (by rfl) (.tmp 22) (.tmp 25) 42 42 (by rfl) (.slice (some ⟨g, 0, none⟩) i c) (.slice (some ad2) m c2) (by rfl) (by rfl) (hap _) ?_))
  all_goals
    go_wp2
    go_ret
    exact ⟨rfl, HE.out.1, HE.out.2⟩
end Go.Proofs.Ytlicimkpgnemeaa.Nd
