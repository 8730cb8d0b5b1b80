/- Part 02: lemmas, no conditions. -/
import Derived.Test.YtclfmpieapbfnaaGreatDoorZ01
import GoSem.Op.String
set_option linter.unusedVariables false
set_option linter.unusedSimpArgs false
section
namespace Go.Proofs.YtclfmpieapbfnaaGreatDoor.Cp
open Cm
theorem pow_pos (k:Nat):(0:Int) < 256 ^ k:=Int.pow_pos (by omega)
theorem val_be (n:Int) (k:Nat) (h0:0 ≤ n) (h1:n < 256 ^ k):∀ m,m ≤ k → val (be n k m) = n / 256 ^ (k - m):=by
 intro m
 induction m with
 | zero =>
  intro _
  simp [be,val]
  exact (Int.ediv_eq_zero_of_lt h0 h1).symm
 | succ m ih =>
  intro hm
  rw [be_succ,val_snoc,ih (by omega)]
  have e:k - m = (k - 1 - m) + 1:=by omega
  have e2:k - (m + 1) = k - 1 - m:=by omega
  rw [e,e2,Int.pow_succ,← Int.ediv_ediv_of_nonneg (Int.le_of_lt (pow_pos _))]
  omega
theorem val_be' (n:Int) (k:Nat) (h0:0 ≤ n) (h1:n < 256 ^ k):val (be n k k) = n:=by
 rw [val_be n k h0 h1 k (Nat.le_refl _)]
 simp
theorem be_byte (n:Int) (k m:Nat):∀ c ∈ be n k m,0 ≤ c ∧ c ≤ 255:=by
 intro c hc
 simp only [be,List.mem_map] at hc
 obtain ⟨j,_,rfl⟩:=hc
 omega
theorem pow_vals:(256:Int) ^ 1 = 256 ∧ (256:Int) ^ 2 = 65536 ∧ (256:Int) ^ 3 = 16777216 ∧ (256:Int) ^ 4 = 4294967296 ∧ (256:Int) ^ 5 = 1099511627776 ∧ (256:Int) ^ 6 = 281474976710656 ∧ (256:Int) ^ 7 = 72057594037927936 ∧ (256:Int) ^ 8 = 18446744073709551616:=by decide
theorem nb_lt (n:Int) (h0:0 ≤ n) (h1:n ≤ 18446744073709551615):n < 256 ^ nb n:=by
 obtain ⟨p1,p2,p3,p4,p5,p6,p7,p8⟩:=pow_vals
 unfold nb
 split
 · rw [p1]; omega
 · split
   · rw [p2]; omega
   · split
     · rw [p3]; omega
     · split
       · rw [p4]; omega
       · split
         · rw [p5]; omega
         · split
           · rw [p6]; omega
           · split
             · rw [p7]; omega
             · rw [p8]; omega
theorem nb_first (n:Int) (h0:248 ≤ n) (h1:n ≤ 18446744073709551615):n / 256 ^ (nb n - 1) % 256 ≠ 0:=by
 obtain ⟨p1,p2,p3,p4,p5,p6,p7,p8⟩:=pow_vals
 unfold nb
 repeat' split
 all_goals simp only [Nat.reduceSub,Int.pow_zero,p1,p2,p3,p4,p5,p6,p7]
 all_goals omega
theorem num_byte (n:Int) (h0:0 ≤ n):∀ c ∈ num n,0 ≤ c ∧ c ≤ 255:=by
 have:=nb_pos n
 intro c hc
 unfold num at hc
 split at hc
 · simp at hc; omega
 · simp at hc
   rcases hc with rfl | hc
   · omega
   · exact be_byte _ _ _ c hc
theorem rdNum_num (n:Int) (r:List Int) (h0:0 ≤ n) (h1:n ≤ 18446744073709551615):rdNum (num n ++ r) = some (n,r):=by
 unfold num
 split
 · rename_i h
   simp [rdNum,h]
 · rename_i h
   have hp:=nb_pos n
   have hlt:=nb_lt n h0 h1
   have e1:((247 + nb n:Int) - 247).toNat = nb n:=by omega
   have e2:(be n (nb n) (nb n) ++ r).take (nb n) = be n (nb n) (nb n):=by
    rw [List.take_append_of_le_length (by rw [be_length]; exact Nat.le_refl _),List.take_of_length_le (by rw [be_length]; exact Nat.le_refl _)]
   have e3:(be n (nb n) (nb n) ++ r).drop (nb n) = r:=by
    rw [List.drop_append_of_le_length (by rw [be_length]; exact Nat.le_refl _),List.drop_of_length_le (by rw [be_length]; exact Nat.le_refl _),List.nil_append]
   have e4:(be n (nb n) (nb n) ++ r).headD 0 = n / 256 ^ (nb n - 1) % 256:=by
    obtain ⟨k,hk⟩:∃ k,nb n = k + 1:=⟨nb n - 1,by omega⟩
    rw [hk]
    simp [be,List.range_succ_eq_map]
   rw [List.cons_append]
   simp only [rdNum]
   rw [e1,e2,e3,e4,val_be' n _ h0 hlt,if_neg (by omega),if_neg (by simp [be_length]; omega),if_neg (by
    intro hh
    rcases hh with hh | hh
    · omega
    · exact nb_first n (by omega) h1 hh)]
theorem fold_val:∀ (l:List Int) (a:Int),l.foldl (fun n c => n * 256 + c) a = a * 256 ^ l.length + val l
 | [],a => by simp [val]
 | d :: l,a => by
  have h1:=fold_val l (a * 256 + d)
  have h2:=fold_val l (0 * 256 + d)
  show l.foldl (fun n c => n * 256 + c) (a * 256 + d) = a * 256 ^ (l.length + 1) + l.foldl (fun n c => n * 256 + c) (0 * 256 + d)
  rw [h1,h2,Int.pow_succ,Int.add_mul,Int.add_mul,Int.zero_mul,Int.zero_mul,Int.mul_comm (256 ^ l.length) 256,← Int.mul_assoc]
  omega
theorem val_cons (c:Int) (l:List Int):val (c :: l) = c * 256 ^ l.length + val l:=by
 show l.foldl (fun n c => n * 256 + c) (0 * 256 + c) = _
 rw [fold_val]
 simp
theorem be_val (l:List Int) (h:∀ c ∈ l,0 ≤ c ∧ c ≤ 255):be (val l) l.length l.length = l:=by
 have hr:=val_range l h
 have h1:=val_be' (val l) l.length hr.1 hr.2
 have inj:∀ x y:List Int,x.length = y.length → (∀ c ∈ x,0 ≤ c ∧ c ≤ 255) → (∀ c ∈ y,0 ≤ c ∧ c ≤ 255) → val x = val y → x = y:=by
  intro x
  induction x with
  | nil => intro y hl _ _ _; cases y with
   | nil => rfl
   | cons b y => simp at hl
  | cons a x ih =>
   intro y hl hx hy hv
   cases y with
   | nil => simp at hl
   | cons b y =>
    have hl':x.length = y.length:=by simpa using hl
    have r1:=val_range x fun c hc => hx c (by simp [hc])
    have r2:=val_range y fun c hc => hy c (by simp [hc])
    have e1:=val_cons a x
    have e2:=val_cons b y
    rw [e1,e2,hl'] at hv
    rw [hl'] at r1
    have hp:=pow_pos y.length
    generalize (256:Int) ^ y.length = P at *
    have hab:a = b:=by
     rcases Int.lt_trichotomy a b with h | h | h
     · have hm:(a + 1) * P ≤ b * P:=Int.mul_le_mul_of_nonneg_right (by omega) (by omega)
       rw [Int.add_mul] at hm
       omega
     · exact h
     · have hm:(b + 1) * P ≤ a * P:=Int.mul_le_mul_of_nonneg_right (by omega) (by omega)
       rw [Int.add_mul] at hm
       omega
    subst hab
    rw [ih y hl' (fun c hc => hx c (by simp [hc])) (fun c hc => hy c (by simp [hc])) (by omega)]
 exact inj _ _ (by rw [be_length]) (be_byte _ _ _) h h1
theorem nb_of (n:Int) (k:Nat) (hk:1 ≤ k) (hk8:k ≤ 8) (h1:n < 256 ^ k) (h2:256 ^ (k - 1) ≤ n ∨ k = 1):nb n = k:=by
 obtain ⟨p1,p2,p3,p4,p5,p6,p7,p8⟩:=pow_vals
 have h0:k = 1 ∨ k = 2 ∨ k = 3 ∨ k = 4 ∨ k = 5 ∨ k = 6 ∨ k = 7 ∨ k = 8:=by omega
 unfold nb
 rcases h0 with rfl | rfl | rfl | rfl | rfl | rfl | rfl | rfl
 all_goals simp only [Nat.reduceSub,p1,p2,p3,p4,p5,p6,p7,p8] at h1 h2
 all_goals repeat' split
 all_goals omega
theorem rdNum_only (l:List Int) (n:Int) (r:List Int) (hb:∀ c ∈ l,0 ≤ c ∧ c ≤ 255) (h:rdNum l = some (n,r)):l = num n ++ r:=by
 match l with
 | [] => simp [rdNum] at h
 | f :: t =>
  have hf:=hb f (by simp)
  simp only [rdNum] at h
  by_cases c1:f < 248
  · rw [if_pos c1] at h
    simp only [Option.some.injEq,Prod.mk.injEq] at h
    obtain ⟨rfl,rfl⟩:=h
    simp [num,c1]
  · rw [if_neg c1] at h
    by_cases c2:(t.length:Int) < f - 247
    · rw [if_pos c2] at h; cases h
    · rw [if_neg c2] at h
      by_cases c3:val (t.take (f - 247).toNat) < 248 ∨ t.headD 0 = 0
      · rw [if_pos c3] at h; cases h
      · rw [if_neg c3] at h
        simp only [Option.some.injEq,Prod.mk.injEq] at h
        obtain ⟨rfl,rfl⟩:=h
        obtain ⟨k,hk⟩:∃ k,(f - 247).toNat = k:=⟨_,rfl⟩
        rw [hk] at c3 ⊢
        have hlen:(t.take k).length = k:=by rw [List.length_take]; omega
        have hbt:∀ c ∈ t.take k,0 ≤ c ∧ c ≤ 255:=fun c hc => hb c (by simp [List.mem_of_mem_take hc])
        have hr:=val_range (t.take k) hbt
        rw [hlen] at hr
        have hnb:nb (val (t.take k)) = k:=by
         refine nb_of _ k (by omega) (by omega) hr.2 ?_
         by_cases hk1:k = 1
         · exact .inr hk1
         · left
           cases t with
           | nil => simp at hlen; omega
           | cons a t =>
            obtain ⟨j,rfl⟩:∃ j,k = j + 1:=⟨k - 1,by omega⟩
            have ha:a ≠ 0:=fun e => c3 (.inr (by simp [e]))
            have ha0:=hb a (by simp)
            have hl2:(t.take j).length = j:=by simpa using hlen
            have e1:val ((a :: t).take (j + 1)) = a * 256 ^ j + val (t.take j):=by
             rw [List.take_succ_cons,val_cons,hl2]
            have hr2:=val_range (t.take j) fun c hc => hb c (by simp [List.mem_of_mem_take hc])
            have hp:=pow_pos j
            rw [e1,Nat.add_sub_cancel]
            have hm:1 * (256:Int) ^ j ≤ a * 256 ^ j:=Int.mul_le_mul_of_nonneg_right (by omega) (by omega)
            omega
        have hbe:=be_val (t.take k) hbt
        rw [hlen] at hbe
        unfold num
        rw [if_neg (by omega),hnb,hbe,List.cons_append,List.take_append_drop]
        congr 1
        omega
end Go.Proofs.YtclfmpieapbfnaaGreatDoor.Cp
end
