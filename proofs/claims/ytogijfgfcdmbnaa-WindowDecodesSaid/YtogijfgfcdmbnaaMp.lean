/-
  Maps whose keys are numbers of 64 bits, told by the value at each key.
-/
import Derived.Test.YtogijfgfcdmbnaaBase
import Derived.Maps.OwnSet
set_option linter.unusedVariables false
set_option linter.unusedSimpArgs false
namespace Go.Proofs.Ytogijfgfcdmbnaa.Mp
open Go.RowKit Go.Maps Go.Proofs.Ytogijfgfcdmbnaa.B
def vR (v : Value) : Option (DataW Value × List MemPlace) := some (.held v, [])
def nl : Value := .slice none 0 0
def Key (c : Int) : Prop := 0 ≤ c ∧ c ≤ 18446744073709551615
theorem Key.wf {c : Int} (h : Key c) : (Lit.int .u64 c).wf = true := by
  have := h.1
  have := h.2
  simp [Lit.wf, IntKind.min, IntKind.max, IntKind.signed, IntKind.bits]
  omega
/-- Block b is a map of at most n entries; at key c stands m c, nil where there is none. -/
def Mp (P : Program) (w : World) (kt : TypeId) (b n : Nat) (m : Int → Value) : Prop :=
  ∃ D, w.ownsMap P kt vR b n D ∧ ∀ c, Key c → D.atKey (.int .u64 c) (.held nl) = .held (m c)
def put (m : Int → Value) (c : Int) (v : Value) : Int → Value := fun c' => if c' = c then v else m c'
section
variable {P : Program} {w w' : World} {kt t e : TypeId} {b n : Nat} {m : Int → Value}
theorem Mp.made (P : Program) (w : World) (kt : TypeId) : Mp P (w.alloc (.map #[] 0)) kt w.heap.size 0 fun _ => nl :=
  ⟨_, World.ownsMap_made w P kt vR, fun c _ => by simp [DataW.atKey]⟩
theorem Mp.lt (h : Mp P w kt b n m) : b < w.heap.size := by
  obtain ⟨D, h1, _⟩ := h
  exact h1.lt
theorem Mp.upd {F : Nat → Prop} (h : Mp P w kt b n m) (hu : Upd F w w') (hn : ¬ F b) : Mp P w' kt b n m := by
  have hlt := h.lt
  obtain ⟨D, ⟨es, clock, hb, r⟩, h2⟩ := h
  exact ⟨D, ⟨es, clock, (hu.block b hlt hn).trans hb, r⟩, h2⟩
theorem Mp.drew (h : Mp P w kt b n m) : Mp P w.drew kt b n m := h
theorem Mp.mono (h : Mp P w kt b n m) {n' : Nat} (hn : n ≤ n') : Mp P w kt b n' m := by
  obtain ⟨D, h1, h2⟩ := h
  exact ⟨D, h1.mono hn, h2⟩
/-- 'm[c]'. -/
theorem Mp.look (h : Mp P w kt b n m) (hk : P.underlying kt = some (.int .u64)) (ht : P.underlying t = some (.map kt e)) (hz : ∀ w, (zeroValue e).run P w = .ok nl w) {c : Int} (hc : Key c) :
    (Instr.lookup t (.map (some b)) (.int .u64 c) false).run P w = .ok (m c) w := by
  obtain ⟨D, h1, h2⟩ := h
  obtain ⟨v, ps, hr, hv⟩ := h1.lookup (int_keyed hk) ht (hz w) (zd := .held nl) (zp := []) rfl (keyOf_int_mk hk hc.wf)
  rw [h2 c hc] at hv
  simp only [vR, Option.some.injEq, Prod.mk.injEq, DataW.held.injEq] at hv
  rw [hr, hv.1]
theorem look_none (hk : P.underlying kt = some (.int .u64)) (ht : P.underlying t = some (.map kt e)) (hz : ∀ w, (zeroValue e).run P w = .ok nl w) {c : Int} (hc : Key c) (w : World) :
    (Instr.lookup t (.map none) (.int .u64 c) false).run P w = .ok nl w :=
  Maps.look_nil false (int_keyed hk) ht (hz w) (keyOf_int_mk hk hc.wf)
theorem int_ne {c c' : Int} (h : c' ≠ c) : Lit.int .u64 c' ≠ Lit.int .u64 c := fun h' => h (by injection h')
theorem isKeyLit (c : Int) : WideAt.IsKeyLit (Lit.int .u64 c) := by simp [WideAt.IsKeyLit]
/-- 'm[c] = v'. -/
theorem Mp.store (h : Mp P w kt b n m) (hk : P.underlying kt = some (.int .u64)) (ht : P.underlying t = some (.map kt e)) (hn : n < maxLen) {c : Int} (hc : Key c) (v : Value) :
    ∃ w', (Instr.mapUpdate t (.map (some b)) (.int .u64 c) v).run P w = .ok () w' ∧ Mp P w' kt b (n + 1) (put m c v) ∧ Upd (fun k => k = b) w w' := by
  obtain ⟨D, h1, h2⟩ := h
  obtain ⟨w', hr, ho, hg⟩ := h1.store (int_keyed hk) ht hn (keyOf_int_mk hk hc.wf) (val := v) (d := .held v) (ps := []) rfl
  refine ⟨w', hr, ⟨_, ho, fun c' hc' => ?_⟩, (Upd.refl _ _).grown hg.grown fun k hk => .inl (by injection hk with hk; exact hk.symm)⟩
  unfold put
  split
  · rename_i he
    subst he
    exact atKey_put_same h1.isMap (isKeyLit _) _ _
  · rename_i he
    rw [atKey_put_other (int_ne he)]
    exact h2 c' hc'
/-- 'delete(m, c)'. -/
theorem Mp.drop (h : Mp P w kt b n m) (hk : P.underlying kt = some (.int .u64)) (ht : P.underlying t = some (.map kt e)) {c : Int} (hc : Key c) (ty : TypeId) :
    ∃ w', (Builtin.delete_ #[t, kt] ty #[.map (some b), .int .u64 c]).run P w = .ok (.tuple #[]) w' ∧ Mp P w' kt b n (put m c nl) ∧ Upd (fun k => k = b) w w' := by
  obtain ⟨D, h1, h2⟩ := h
  obtain ⟨w', hr, ho, hg⟩ := h1.drop (int_keyed hk) ht (keyOf_int_mk hk hc.wf) ty
  refine ⟨w', hr, ⟨_, ho, fun c' hc' => ?_⟩, (Upd.refl _ _).grown hg.grown fun k hk => .inl (by injection hk with hk; exact hk.symm)⟩
  unfold put
  split
  · rename_i he
    subst he
    exact atKey_del_same _
  · rename_i he
    rw [atKey_del_other (int_ne he)]
    exact h2 c' hc'
variable {ops : Array Oper} {o : Oper} {a : Act} {Q : Exit → Act → World → Prop} {K : Act → World → Prop}
theorem wp_store (mo x v : Operand) (t kt e : TypeId) (ho : o.op = Op.mapUpdate t mo x v) (hk : P.underlying kt = some (.int .u64)) (ht : P.underlying t = some (.map kt e)) (b n : Nat) (m : Int → Value) (c : Int) (val : Value)
    (hm : a.eval mo = .map (some b)) (hx : a.eval x = .int .u64 c) (hv : a.eval v = val) (h : Mp P w kt b n m) (hn : n < maxLen) (hc : Key c)
    (hK : ∀ w', Mp P w' kt b (n + 1) (put m c val) → Upd (fun k => k = b) w w' → K (a.put o.dst undef) w') : o.wp P a w K Q := by
  obtain ⟨w', hr, h1, h2⟩ := h.store hk ht hn hc val
  unfold Oper.wp
  simp [execOp, ho, hm, hx, hv, hr, Result.andThen]
  exact hK w' h1 h2
theorem wp_drop (mo x : Operand) (t kt e : TypeId) (ho : o.op = Op.call { callee := Callee.builtin Builtin.delete, args := #[mo, x], argTypes := #[t, kt] }) (hk : P.underlying kt = some (.int .u64)) (ht : P.underlying t = some (.map kt e)) (b n : Nat) (m : Int → Value) (c : Int)
    (hm : a.eval mo = .map (some b)) (hx : a.eval x = .int .u64 c) (h : Mp P w kt b n m) (hc : Key c)
    (hK : ∀ w', Mp P w' kt b n (put m c nl) → Upd (fun k => k = b) w w' → K (a.put o.dst (.tuple #[])) w') : o.wp P a w K Q := by
  obtain ⟨w', hr, h1, h2⟩ := h.drop hk ht hc o.type
  unfold Oper.wp
  simp [execOp, ho, resolve, invoke, builtin, hm, hx, hr, Result.andThen]
  exact hK w' h1 h2
end
end Go.Proofs.Ytogijfgfcdmbnaa.Mp
