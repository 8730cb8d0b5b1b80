/- Part 28: lemmas, no conditions. -/
import Derived.Test.YtclfmpieapbfnaaGreatDoorZ25
import Derived.Test.YtclfmpieapbfnaaGreatDoorZ02
import Derived.Test.YtclfmpieapbfnaaGreatDoorZ07
namespace Go.Proofs.YtclfmpieapbfnaaGreatDoor
set_option linter.unusedVariables false
set_option linter.unusedSimpArgs false
section
namespace Cr
open Go.RowKit B Cm Cw
theorem uz_zz (n:Int):uz (zz n) = n:=by unfold uz zz; split <;> split <;> omega
theorem back_num (n:Int) (r:List Int) (h0:0 ≤ n) (h1:n ≤ 18446744073709551615):stN (num n ++ r) false = (n,r,false):=by
 unfold stN
 rw [Cp.rdNum_num n r h0 h1]
theorem rint_eq {F:Nat → Prop} {p c:Nat} {A:Option Addr} {l r:List Int} {n z:Int} {bad bd:Bool} {w:World} (h:Rr 223 w F p A c l bad) (hs:stN l bad = (n,r,bd)) (hz:uz n = z) :
 Calls Tryz.prog 32 #[.pointer (some ⟨p,0,none⟩)] w fun e w' => e = .returned (.int .i64 z) ∧ ∃ A' c',Rr 223 w' F p A' c' r bd ∧ Upd (fun k => k = p) w w':=Cd.rint_eq h hs hz
end Cr
end
section
namespace We
open Wp Cm
open Cr (Byte)
def SerNd (x:St):Prop:=∀ e ∈ x,e.2.Nodup
def encE (e:Int × List Int):List Int:=num e.1 ++ (num e.2.length ++ e.2.flatMap num)
def encX (x:St):List Int:=num x.length ++ x.flatMap encE
def rdS (c:Int):Nat → St → List Int → Option (St × List Int)
 | 0,x,l => some (x,l)
 | k + 1,x,l => match rdNum l with
  | none => none
  | some (s,r) => if (addX x c s).1 then rdS c k (addX x c s).2 r else none
def rdC:Nat → St → List Int → Option (St × List Int)
 | 0,x,l => some (x,l)
 | n + 1,x,l => match rdNum l with
  | none => none
  | some (c,r) => match rdNum r with
   | none => none
   | some (k,r2) => if 1 ≤ k ∧ k ≤ 4 ∧ c ∉ x.map (·.1) then (match rdS c k.toNat x r2 with
    | none => none
    | some (y,r3) => rdC n y r3) else none
def decX (l:List Int):Option St:=match rdNum l with
 | none => none
 | some (n,r) => if n ≤ 64 then (match rdC n.toNat [] r with
  | some (x,[]) => some x
  | _ => none) else none
theorem SerNd.nil:SerNd []:=fun e h => by cases h
theorem sr_nd {x:St} (h:SerNd x) (c:Int):(sr x c).Nodup:=by
 rcases sr_mem (x:=x) (c:=c) with h1 | ⟨e,he,_,h2⟩
 · rw [h1]; exact List.nodup_nil
 · rw [← h2]; exact h e he
theorem SerNd.add {x:St} (h:SerNd x) (c s:Int):SerNd (addX x c s).2:=by
 unfold addX
 by_cases hs:s ∈ sr x c
 · rw [if_pos hs]
   exact h
 · rw [if_neg hs]
   have hl:SerNd (laid x c s):=by
    intro e he
    unfold laid at he
    rcases List.mem_append.1 he with he | he
    · exact h e (List.mem_filter.1 he).1
    · obtain rfl:=List.mem_singleton.1 he
      refine List.Nodup.sublist (List.drop_sublist _ _) ?_
      rw [List.nodup_append]
      exact ⟨sr_nd h c,by simp,fun a ha b hb => by
       obtain rfl:b = s:=by simpa using hb
       rintro rfl
       exact hs ha⟩
   intro e he
   simp only [cut64] at he
   split at he
   · exact hl e (List.mem_of_mem_drop he)
   · exact hl e he
def st (y:St) (c:Int) (pre:List Int):St:=if pre = [] then y else y ++ [(c,pre)]
theorem sr_st {y:St} {c:Int} (hc:c ∉ y.map (·.1)) (pre:List Int):sr (st y c pre) c = pre:=by
 have hy:∀ e ∈ y,e.1 ≠ c:=fun e he h => hc (List.mem_map.2 ⟨e,he,h⟩)
 unfold st
 split
 · rename_i h
   rw [h,sr_none y c hy]
 · rw [sr_append y _ c hy]
   simp [sr]
theorem rest_st {y:St} {c:Int} (hc:c ∉ y.map (·.1)) (pre:List Int):rest (st y c pre) c = y:=by
 have hy:rest y c = y:=List.filter_eq_self.2 fun e he => by
  have:e.1 ≠ c:=fun h => hc (List.mem_map.2 ⟨e,he,h⟩)
  simpa using this
 unfold st
 split
 · exact hy
 · have:rest (y ++ [(c,pre)]) c = rest y c ++ rest [(c,pre)] c:=List.filter_append ..
   rw [this,hy]
   simp [rest]
theorem addX_st {y:St} {c s:Int} (hc:c ∉ y.map (·.1)) {pre:List Int} (hs:s ∉ pre) (hl:pre.length < 4) (hy:y.length < 64):addX (st y c pre) c s = (true,st y c (pre ++ [s])):=by
 unfold addX laid
 rw [sr_st hc,if_neg hs,rest_st hc]
 have h4:cut4 (pre ++ [s]) = pre ++ [s]:=by
  unfold cut4
  rw [show (pre ++ [s]).length - 4 = 0 from by simp; omega]
  rfl
 rw [h4]
 unfold cut64 st
 rw [if_neg (by simp; omega),if_neg (by simp)]
theorem rdS_put {y:St} {c:Int} (hc:c ∉ y.map (·.1)) (hy:y.length < 64) (r:List Int):∀ (post pre:List Int),(pre ++ post).Nodup → (pre ++ post).length ≤ 4 → (∀ s ∈ post,Key s) →
 rdS c post.length (st y c pre) (post.flatMap num ++ r) = some (st y c (pre ++ post),r):=by
 intro post
 induction post with
 | nil => intro pre _ _ _; simp [rdS]
 | cons s t ih =>
  intro pre hnd hl hk
  have hks:=hk s List.mem_cons_self
  have e:(s :: t).flatMap num ++ r = num s ++ (t.flatMap num ++ r):=by simp
  have hsp:s ∉ pre:=fun h => by
   rw [List.nodup_append] at hnd
   exact hnd.2.2 s h s List.mem_cons_self rfl
  have hlen:pre.length < 4:=by simp at hl; omega
  rw [e,List.length_cons,rdS,Cp.rdNum_num s _ hks.1 hks.2]
  simp only [addX_st hc hsp hlen hy,if_true]
  have:=ih (pre ++ [s]) (by simpa using hnd) (by simpa using hl) fun z hz => hk z (List.mem_cons_of_mem _ hz)
  rw [this]
  simp
theorem rdC_put (r:List Int):∀ (x y:St),Ok (y ++ x) → SerNd (y ++ x) → rdC x.length y (x.flatMap encE ++ r) = some (y ++ x,r):=by
 intro x
 induction x with
 | nil => intro y _ _; simp [rdC]
 | cons e t ih =>
  intro y ho hn
  obtain ⟨c,ss⟩:=e
  have hmem:((c,ss):Int × List Int) ∈ y ++ (c,ss) :: t:=by simp
  have hkc:=ho.key _ hmem
  have hle:=ho.le _ hmem
  have hser:=ho.ser _ hmem
  have hnd:=hn _ hmem
  have hlen:=ho.len
  simp only at hkc hle hser hnd
  have hcy:c ∉ y.map (·.1):=fun h => by
   have h2:=ho.nd
   rw [List.map_append,List.map_cons,List.nodup_append] at h2
   exact h2.2.2 c h c List.mem_cons_self rfl
  have e1:((c,ss) :: t).flatMap encE ++ r = num c ++ (num ss.length ++ (ss.flatMap num ++ (t.flatMap encE ++ r))):=by simp [encE]
  rw [e1,List.length_cons,rdC,Cp.rdNum_num c _ hkc.1 hkc.2]
  simp only
  rw [Cp.rdNum_num (ss.length:Int) _ (by omega) (by omega)]
  simp only [Int.toNat_natCast]
  rw [if_pos ⟨by omega,by omega,hcy⟩]
  have hp:=rdS_put hcy (by simp at hlen; omega) (t.flatMap encE ++ r) ss [] (by simpa using hnd) (by simpa using hle.2) hser
  have e2:st y c [] = y:=rfl
  have e3:st y c ([] ++ ss) = y ++ [(c,ss)]:=by
   unfold st
   rw [if_neg]
   · rfl
   · intro h
     rw [List.nil_append] at h
     rw [h] at hle
     simp at hle
  rw [e2,e3] at hp
  rw [hp]
  have:=ih (y ++ [(c,ss)]) (by simpa using ho) (by simpa using hn)
  simp only [this]
  simp
theorem dec_enc {x:St} (ho:Ok x) (hn:SerNd x):decX (encX x) = some x:=by
 have hl:=ho.len
 have h:=rdC_put [] x [] (by simpa using ho) (by simpa using hn)
 rw [List.append_nil,List.nil_append] at h
 unfold decX encX
 rw [Cp.rdNum_num (x.length:Int) _ (by omega) (by omega)]
 simp only [Int.toNat_natCast]
 rw [if_pos (by omega),h]
theorem encE_le (e:Int × List Int) (h:e.2.length ≤ 4):(encE e).length ≤ 54:=by
 have h1:=(num_length e.1).2
 have h2:=(num_length (e.2.length:Int)).2
 have h3:∀ l:List Int,(l.flatMap num).length ≤ 9 * l.length:=by
  intro l
  induction l with
  | nil => simp
  | cons a t ih =>
   have:=(num_length a).2
   simp only [List.flatMap_cons,List.length_append,List.length_cons]
   omega
 have:=h3 e.2
 simp only [encE,List.length_append]
 omega
theorem encX_take_le {x:St} (ho:Ok x) (j:Nat):((x.take j).flatMap encE).length ≤ 54 * 64:=by
 have h:∀ y:St,(∀ e ∈ y,e.2.length ≤ 4) → (y.flatMap encE).length ≤ 54 * y.length:=by
  intro y
  induction y with
  | nil => simp
  | cons a t ih =>
   intro hy
   have:=encE_le a (hy a List.mem_cons_self)
   have:=ih fun e he => hy e (List.mem_cons_of_mem _ he)
   simp only [List.flatMap_cons,List.length_append,List.length_cons]
   omega
 have h1:=h (x.take j) fun e he => (ho.le e (List.mem_of_mem_take he)).2
 have h2:(x.take j).length ≤ 64:=by
  have:=ho.len
  rw [List.length_take]
  omega
 omega
theorem encX_byte {x:St} (ho:Ok x):Byte (encX x):=by
 intro c hc
 unfold encX at hc
 rcases List.mem_append.1 hc with hc | hc
 · exact Cp.num_byte _ (by omega) c hc
 · obtain ⟨e,he,hc⟩:=List.mem_flatMap.1 hc
   unfold encE at hc
   rcases List.mem_append.1 hc with hc | hc
   · exact Cp.num_byte _ (ho.key e he).1 c hc
   · rcases List.mem_append.1 hc with hc | hc
     · exact Cp.num_byte _ (by omega) c hc
     · obtain ⟨s,hs,hc⟩:=List.mem_flatMap.1 hc
       exact Cp.num_byte _ (ho.ser e he s hs).1 c hc
end We
end
