/-
  Plain laws of layer 21: who is in a table behind a row of touches.
-/
import Derived.Test.YtdhgeakdfbckeaaAl
set_option linter.unusedVariables false
set_option linter.unusedSimpArgs false
namespace Go.Proofs.Ytdhgeakdfbckeaa.At
theorem hasK_iff (x : List ByteArray) (k : ByteArray) : hasK x k = true ↔ k ∈ x := by
  unfold hasK
  rw [List.any_eq_true]
  constructor
  · rintro ⟨y, hy, h⟩
    have : k = y := by simpa using h
    exact this ▸ hy
  · exact fun h => ⟨k, h, by simp⟩
def dstep (w : List ByteArray) (a : ByteArray) : List ByteArray := if hasK w a then w else w ++ [a]
/-- The different ones, in the order of their first places. -/
def dd (l : List ByteArray) : List ByteArray := l.foldl dstep []
theorem dd_snoc (l : List ByteArray) (a : ByteArray) : dd (l ++ [a]) = dstep (dd l) a := by simp [dd]
theorem dd_cons (a : ByteArray) : ∀ n (r : List ByteArray), r.length = n → dd (a :: r) = a :: strike (dd r) a
  | 0, r, h => by
    rw [List.eq_nil_of_length_eq_zero h]
    rfl
  | n + 1, r, h => by
    obtain ⟨b, hb⟩ : ∃ b, r.getLast? = some b := by
      rcases r with _ | ⟨x, y⟩
      · simp at h
      · exact ⟨_, List.getLast?_eq_some_getLast (by simp)⟩
    have hr : r = r.dropLast ++ [b] := by
      have hne : r ≠ [] := by rintro rfl; simp at h
      have := List.dropLast_concat_getLast hne
      rw [List.getLast?_eq_some_getLast hne] at hb
      injection hb with hb
      rw [hb] at this
      exact this.symm
    generalize r.dropLast = s at hr
    subst hr
    have hs : s.length = n := by simpa using h
    have ih := dd_cons a n s hs
    rw [show a :: (s ++ [b]) = (a :: s) ++ [b] from rfl, dd_snoc, dd_snoc, ih]
    unfold dstep
    by_cases hba : b = a
    · subst hba
      rw [if_pos ((hasK_iff _ _).2 (by simp))]
      split
      · rfl
      · simp [strike, List.filter_append]
    · by_cases hm : b ∈ dd s
      · rw [if_pos ((hasK_iff _ _).2 (by simp [strike, hm, hba])), if_pos ((hasK_iff _ _).2 hm)]
      · rw [if_neg (by rw [hasK_iff]; simp [strike, hm, hba]), if_neg (by rw [hasK_iff]; exact hm)]
        simp [strike, List.filter_append, hba]
theorem dd_nodup (l : List ByteArray) : (dd l).Nodup := by
  have key : ∀ (l w : List ByteArray), w.Nodup → (l.foldl dstep w).Nodup := by
    intro l
    induction l with
    | nil => exact fun w h => h
    | cons a r ih =>
      intro w h
      refine ih _ ?_
      unfold dstep
      split
      · exact h
      · rename_i hm
        rw [hasK_iff] at hm
        refine List.nodup_append.2 ⟨h, by simp, fun x hx y hy => ?_⟩
        obtain rfl := List.mem_singleton.1 hy
        exact fun e => hm (e ▸ hx)
  exact key l [] (by simp)
theorem dd_prefix (l m : List ByteArray) : dd l <+: dd (l ++ m) := by
  have key : ∀ (m w : List ByteArray), w <+: m.foldl dstep w := by
    intro m
    induction m with
    | nil => exact fun w => List.prefix_refl w
    | cons a r ih =>
      intro w
      refine List.IsPrefix.trans ?_ (ih _)
      unfold dstep
      split
      · exact List.prefix_refl w
      · exact List.prefix_append w [a]
  rw [dd, dd, List.foldl_append]
  exact key m _
theorem take_strike (k : ByteArray) : ∀ (l : List ByteArray) (M : Nat), l.Nodup → (strike (l.take (M + 1)) k).take M = (strike l k).take M
  | [], _, _ => by simp [strike]
  | a :: r, M, hn => by
    simp only [List.nodup_cons] at hn
    rw [List.take_succ_cons]
    by_cases ha : a = k
    · subst ha
      have e : ∀ s : List ByteArray, a ∉ s → strike (a :: s) a = s := fun s hs => by
        unfold strike
        rw [List.filter_cons, if_neg (by simp), List.filter_eq_self]
        intro y hy
        simp only [Bool.not_eq_true', decide_eq_false_iff_not]
        exact fun h => hs (h ▸ hy)
      rw [e _ fun h => hn.1 (List.mem_of_mem_take h), e _ hn.1, List.take_take, Nat.min_self]
    · have e : ∀ s : List ByteArray, strike (a :: s) k = a :: strike s k := fun s => by
        unfold strike
        rw [List.filter_cons, if_pos (by simpa using ha)]
      rw [e, e]
      match M with
      | 0 => rfl
      | M + 1 =>
        rw [List.take_succ_cons, List.take_succ_cons, take_strike k r M hn.2]
theorem strike_reverse (x : List ByteArray) (k : ByteArray) : (strike x k).reverse = strike x.reverse k := by simp [strike, List.filter_reverse]
/-- The table behind touches. -/
def stk (M : Nat) (l : List ByteArray) : List ByteArray := l.foldl (fun x k => (touchX x M k).1) []
theorem stk_snoc (M : Nat) (l : List ByteArray) (k : ByteArray) : stk M (l ++ [k]) = (touchX (stk M l) M k).1 := by simp [stk]
theorem touchX_rev (x : List ByteArray) (M : Nat) (k : ByteArray) (hx : x.length ≤ M) : (touchX x M k).1.reverse = (k :: strike x.reverse k).take M := by
  have hle := strike_le x k
  have hr : (laidk x k).reverse = k :: strike x.reverse k := by simp [laidk, strike_reverse]
  have hl : (laidk x k).length = (strike x k).length + 1 := by simp [laidk]
  unfold touchX
  split
  · rename_i h
    rw [← hr, List.take_of_length_le (by rw [List.length_reverse]; omega)]
  · rename_i h
    rw [← hr]
    simp only
    rw [List.reverse_drop, hl]
    congr 1
    omega
theorem stk_rev (M : Nat) (hM : 1 ≤ M) (l : List ByteArray) : (stk M l).reverse = (dd l.reverse).take M := by
  have key : ∀ n (l : List ByteArray), l.length = n → (stk M l).reverse = (dd l.reverse).take M := by
    intro n
    induction n with
    | zero =>
      intro l h
      rw [List.eq_nil_of_length_eq_zero h]
      simp [stk, dd]
    | succ n ih =>
      intro l h
      have hne : l ≠ [] := by rintro rfl; simp at h
      have hl := List.dropLast_concat_getLast hne
      generalize l.getLast hne = k at hl
      have hd : l.dropLast.length = n := by rw [List.length_dropLast]; omega
      generalize l.dropLast = s at hl hd
      subst hl
      have ihs := ih s hd
      have hlen : (stk M s).length ≤ M := by
        rw [← List.length_reverse, ihs, List.length_take]
        omega
      rw [stk_snoc, touchX_rev _ _ _ hlen, ihs, List.reverse_append, List.reverse_singleton, List.singleton_append, dd_cons k _ s.reverse rfl]
      obtain ⟨m, rfl⟩ : ∃ m, M = m + 1 := ⟨M - 1, by omega⟩
      rw [List.take_succ_cons, List.take_succ_cons, take_strike k _ m (dd_nodup _)]
  exact key _ l rfl
theorem stk_le (M : Nat) (hM : 1 ≤ M) (l : List ByteArray) : (stk M l).length ≤ M := by
  rw [← List.length_reverse, stk_rev M hM, List.length_take]
  omega
end Go.Proofs.Ytdhgeakdfbckeaa.At
