/-
  Two queues of the call's own, ours and the reference's; plain laws of cancelling.
-/
import Derived.Test.YtlicimkpgnemeaaRd
set_option linter.unusedVariables false
set_option linter.unusedSimpArgs false
namespace Go.Proofs.Ytlicimkpgnemeaa.Nd
open Go.RowKit Go.Proofs.Ytlicimkpgnemeaa.B Go.Proofs.Ytlicimkpgnemeaa.Op
theorem del_comm (a n b k : ByteArray) (l : List Rm) : del a n (del b k l) = del b k (del a n l) := by
  unfold del
  rw [List.filter_filter, List.filter_filter]
  congr 1
  funext x
  exact Bool.and_comm _ _
theorem del_del (a n : ByteArray) (l : List Rm) : del a n (del a n l) = del a n l := by
  unfold del
  rw [List.filter_filter]
  congr 1
  funext x
  exact Bool.and_self _
theorem del_ins_same {l : List Rm} {r : Rm} {a n : ByteArray} (h : ke a n r = true) : del a n (ins l r) = del a n l := by
  unfold del ins
  rw [List.filter_append, List.filter_cons_of_neg (by simp [h]), ← List.filter_append, List.takeWhile_append_dropWhile]
theorem ins_cons_lt {x r : Rm} {t : List Rm} (h : less x r = true) : ins (x :: t) r = x :: ins t r := by
  unfold ins
  rw [List.takeWhile_cons, List.dropWhile_cons, h]
  simp
theorem ins_first {l : List Rm} {r : Rm} (h : ∀ x ∈ l, less x r = false) : ins l r = r :: l := by
  cases l with
  | nil => rfl
  | cons x t =>
    unfold ins
    rw [List.takeWhile_cons, List.dropWhile_cons, h x List.mem_cons_self]
    simp
theorem del_cons_ {x : Rm} {t : List Rm} {a n : ByteArray} : del a n (x :: t) = if ke a n x then del a n t else x :: del a n t := by
  unfold del
  rw [List.filter_cons]
  cases ke a n x <;> rfl
theorem del_ins_other {l : List Rm} {r : Rm} {a n : ByteArray} (hs : l.Pairwise fun a b => less a b = true) (h : ke a n r = false) : del a n (ins l r) = ins (del a n l) r := by
  induction l with
  | nil => simp [ins, del, h]
  | cons x t ih =>
    have hst := List.pairwise_cons.1 hs
    cases hx : less x r with
    | true =>
      rw [ins_cons_lt hx, del_cons_, del_cons_, ih hst.2]
      cases ke a n x
      · simp only [Bool.false_eq_true, if_false]
        rw [ins_cons_lt hx]
      · simp
    | false =>
      have hall : ∀ y ∈ x :: t, less y r = false := fun y hy => by
        rcases List.mem_cons.1 hy with rfl | hy
        · exact hx
        · cases hyr : less y r with
          | false => rfl
          | true =>
            have := less_trans (hst.1 y hy) hyr
            rw [this] at hx
            cases hx
      rw [ins_first hall, ins_first (l := del a n (x :: t)) fun y hy => hall y (List.mem_filter.1 hy).1]
      rw [del_cons_ (x := r), h]
      simp
theorem set_len (l : List Rm) (r : Rm) : (setR l r).2.length ≤ l.length + 1 := by
  unfold setR
  split
  · exact Nat.le_succ _
  · split
    · exact Nat.le_succ _
    · rw [ins_length]
      have := del_le l r.actor r.name
      omega
theorem ke_del {r : Rm} {a n : ByteArray} (h : ke a n r = true) (l : List Rm) : del r.actor r.name l = del a n l := by
  obtain ⟨rfl, rfl⟩ := ke_iff.1 h
  rfl
theorem step_same {l : List Rm} {r : Rm} {a n : ByteArray} (hk : ke a n r = true) : del a n (setR l r).2 = del a n l := by
  unfold setR
  split
  · rfl
  · split
    · rfl
    · rw [del_ins_same hk, ke_del hk, del_del]
theorem step_other {l : List Rm} {r : Rm} {a n : ByteArray} (hi : Inv l) (hl : l.length < 64) (hk : ke a n r = false) : del a n (setR l r).2 = (setR (del a n l) r).2 := by
  have hd := del_le l a n
  unfold setR
  by_cases hw : wrongR r = 0
  · rw [if_neg (by simpa using hw), if_neg (by omega), if_neg (by simpa using hw), if_neg (by omega), del_ins_other (hi.del _ _).srt hk, del_comm]
  · rw [if_pos hw, if_pos hw]
theorem has_false {l : List Rm} {a n : ByteArray} (h : has a n l = false) {x : Rm} (hx : x ∈ l) : ke a n x = false := by
  have := List.any_eq_false.1 h x hx
  simpa using this
theorem has_serve {l : List Rm} {a n : ByteArray} {now : Int} (h : has a n l = false) : has a n (serveR l now).2 = false := by
  unfold serveR
  cases hd : dueR l now with
  | none => exact h
  | some r =>
    obtain ⟨t, rfl, _⟩ := due_mem hd
    have hr := has_false h List.mem_cons_self
    have hdel : ∀ x ∈ del r.actor r.name (r :: t), ke a n x = false := fun x hx => has_false h (List.mem_filter.1 hx).1
    simp only
    unfold nextR has
    rw [List.any_eq_false]
    intro x hx
    split at hx
    · rcases mem_ins.1 hx with hx | rfl
      · rw [hdel x hx]; simp
      · have : ke a n { r with due := r.due + r.per } = ke a n r := rfl
        rw [this, hr]
        simp
    · rw [hdel x hx]; simp
theorem serve_mem {l : List Rm} {now : Int} {r : Rm} (h : (serveR l now).1 = some r) : r ∈ l := by
  unfold serveR at h
  cases hd : dueR l now with
  | none => rw [hd] at h; cases h
  | some r' =>
    rw [hd] at h
    injection h with h
    subst h
    obtain ⟨t, rfl, _⟩ := due_mem hd
    exact List.mem_cons_self
structure Tw (w W : World) (F G : Nat → Prop) (q p : Nat) (l m : List Rm) : Prop where
  a : Qo W F q l
  b : Wq W G p m
  ia : Inv l
  ib : Inv m
  dis : ∀ k, F k → ¬ G k
  oa : ∀ k, F k → w.heap.size ≤ k
  ob : ∀ k, G k → w.heap.size ≤ k
  bel : Below w.heap.size w W
section
variable {w W W' : World} {F F' G G' : Nat → Prop} {q p : Nat} {l l' m m' : List Rm}
theorem Tw.quiet (h : Tw w W F G q p l m) (hu : Upd No W W') : Tw w W' F G q p l m :=
  ⟨h.a.quiet hu, h.b.quiet hu, h.ia, h.ib, h.dis, h.oa, h.ob, h.bel.trans (hu.old h.bel.size)⟩
theorem Tw.left (h : Tw w W F G q p l m) (hq : Qo W' F' q l') (hm : Mv F F' W W') (hi : Inv l') : Tw w W' F' G q p l' m :=
  ⟨hq, h.b.upd hm.upd fun k hg hf => h.dis k hf hg, hi, h.ib, fun k hk hg => (hm.sub k hk).elim (fun hf => h.dis k hf hg) (fun h1 => by have := h.b.lt k hg; omega),
    fun k hk => (hm.sub k hk).elim (h.oa k) fun h1 => Nat.le_trans h.bel.size h1, h.ob, h.bel.trans (hm.upd.below h.bel.size h.oa)⟩
theorem Tw.right (h : Tw w W F G q p l m) (hq : Wq W' G' p m') (hm : Mv G G' W W') (hi : Inv m') : Tw w W' F G' q p l m' :=
  ⟨h.a.upd hm.upd fun k hf hg => h.dis k hf hg, hq, h.ia, hi, fun k hf hk => (hm.sub k hk).elim (fun hg => h.dis k hf hg) (fun h1 => by have := h.a.lt k hf; omega),
    h.oa, fun k hk => (hm.sub k hk).elim (h.ob k) fun h1 => Nat.le_trans h.bel.size h1, h.bel.trans (hm.upd.below h.bel.size h.ob)⟩
theorem Tw.set_l (h : Tw w W F G q p l m) (r : Rm) (hr : I64 r.due ∧ I64 r.per ∧ I64 r.kind) :
    Calls Try.prog 12 #[.pointer (some ⟨q, 0, none⟩), rv r] W fun e w' => e = .returned (.int .i64 (setR l r).1) ∧ ∃ F', Tw w w' F' G q p (setR l r).2 m ∧ Mv F F' W w' :=
  (set_ q F l r W h.a h.ia).mono fun e w' ⟨h1, F', h2, h3⟩ => ⟨h1, F', h.left h2 h3 (h.ia.set hr), h3⟩
theorem Tw.set_r (h : Tw w W F G q p l m) (r : Rm) (hr : I64 r.due ∧ I64 r.per ∧ I64 r.kind) :
    Calls Try.prog 14 #[.pointer (some ⟨p, 0, none⟩), rv r] W fun e w' => e = .returned (.int .i64 (setR m r).1) ∧ ∃ G', Tw w w' F G' q p l (setR m r).2 ∧ Mv G G' W w' :=
  (rset_ p G m r W h.b (by have := h.ib.len; omega)).mono fun e w' ⟨h1, F', h2, h3⟩ => ⟨h1, F', h.right h2 h3 (h.ib.set hr), h3⟩
theorem Tw.cancel_l (h : Tw w W F G q p l m) (a n : ByteArray) :
    Calls Try.prog 15 #[.pointer (some ⟨q, 0, none⟩), .string a, .string n] W fun e w' => e = .returned (.bool (has a n l)) ∧ ∃ F', Tw w w' F' G q p (del a n l) m ∧ Mv F F' W w' :=
  (cancel_ q F l a n W h.a h.ia).mono fun e w' ⟨h1, F', h2, h3⟩ => ⟨h1, F', h.left h2 h3 (h.ia.del a n), h3⟩
theorem Tw.cancel_r (h : Tw w W F G q p l m) (a n : ByteArray) :
    Calls Try.prog 31 #[.pointer (some ⟨p, 0, none⟩), .string a, .string n] W fun e w' => e = .returned (.bool (has a n m)) ∧ ∃ G', Tw w w' F G' q p l (del a n m) ∧ Mv G G' W w' :=
  (rcancel_ p G m a n W h.b (by have := h.ib.len; omega)).mono fun e w' ⟨h1, F', h2, h3⟩ => ⟨h1, F', h.right h2 h3 (h.ib.del a n), h3⟩
theorem Tw.serve_l (h : Tw w W F G q p l m) (now : Int) :
    Calls Try.prog 13 #[.pointer (some ⟨q, 0, none⟩), .int .i64 now] W fun e w' => e = .returned (tell (serveR l now).1) ∧ ∃ F', Tw w w' F' G q p (serveR l now).2 m ∧ Mv F F' W w' :=
  (serve_ q F l now W h.a h.ia).mono fun e w' ⟨h1, F', h2, h3⟩ => ⟨h1, F', h.left h2 h3 (h.ia.serve now), h3⟩
theorem Tw.serve_r (h : Tw w W F G q p l m) (now : Int) :
    Calls Try.prog 16 #[.pointer (some ⟨p, 0, none⟩), .int .i64 now] W fun e w' => e = .returned (tell (serveR m now).1) ∧ ∃ G', Tw w w' F G' q p l (serveR m now).2 ∧ Mv G G' W w' :=
  (rserve_ p G m now W h.b h.ib).mono fun e w' ⟨h1, F', h2, h3⟩ => ⟨h1, F', h.right h2 h3 (h.ib.serve now), h3⟩
theorem Tw.due_l (h : Tw w W F G q p l m) (now : Int) :
    Calls Try.prog 19 #[.pointer (some ⟨q, 0, none⟩), .int .i64 now] W fun e w' => e = .returned (tell (dueR l now)) ∧ Upd No W w' :=
  due_ q F l now W h.a (by have := h.ia.len; omega)
theorem Tw.due_r (h : Tw w W F G q p l m) (now : Int) :
    Calls Try.prog 33 #[.pointer (some ⟨p, 0, none⟩), .int .i64 now] W fun e w' => e = .returned (tell (dueR m now)) ∧ Upd No W w' :=
  rdue_ p G m now W h.b (by have := h.ib.len; omega)
theorem Tw.same (h : Tw w W F G q p l l) :
    Calls Try.prog 24 #[.pointer (some ⟨q, 0, none⟩), .pointer (some ⟨p, 0, none⟩)] W fun e w' => e = .returned (.bool true) ∧ Upd No W w' :=
  same_ h.a h.b (by have := h.ia.len; omega)
theorem Tw.new (h : Pq w W F q l) : Tw w (W.alloc (.cells #[.slice none 0 0] 36)) F (fun k => k = W.heap.size) q W.heap.size l [] := by
  have h1 := h.quiet ((Upd.refl No W).alloc (.cells #[.slice none 0 0] 36))
  have hs := h.bel.size
  exact ⟨h1.qo, Wq.new W, h1.inv, Inv.nil, fun k hk e => by have := h.qo.lt k hk; omega, h1.own, fun k hk => by omega, h1.bel⟩
end
end Go.Proofs.Ytlicimkpgnemeaa.Nd
