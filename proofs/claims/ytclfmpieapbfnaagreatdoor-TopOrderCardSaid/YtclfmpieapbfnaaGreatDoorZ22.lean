/- Part 22: lemmas, no conditions. -/
import Derived.Test.YtclfmpieapbfnaaGreatDoorZ21
set_option linter.unusedVariables false
set_option linter.unusedSimpArgs false
section
namespace Go.Proofs.YtclfmpieapbfnaaGreatDoor.Gl
open Go.RowKit B Cm Sm Dk Gp
theorem last_wrs (log:List (Nat × List Int)) (base:Nat) (f:Nat → List Int) (x:Nat):∀ n:Nat,last (log ++ (List.range n).map fun i => (base + i,f i)) x = if base ≤ x ∧ x < base + n then some (f (x - base)) else last log x:=by
 intro n
 induction n with
 | zero =>
  rw [if_neg (by omega)]
  simp
 | succ n ih =>
  rw [List.range_succ,List.map_append,← List.append_assoc,List.map_cons,List.map_nil,last_snoc,ih]
  simp only
  by_cases h:base + n = x
  · rw [if_pos h,if_pos (by omega),show x - base = n from by omega]
  · rw [if_neg h]
    by_cases h2:base ≤ x ∧ x < base + n
    · rw [if_pos h2,if_pos (by omega)]
    · rw [if_neg h2,if_neg (by omega)]
theorem bsOf_wrs (d:Dm) (fr used:Nat) (ep:Int) (u:List Int) (n:Nat):bsOf (wrs d (fr + used) (blk ep used u) n) fr = put (bsOf d fr) ep used u n:=by
 funext k
 unfold bsOf put
 simp only [wrs]
 rw [last_wrs]
 by_cases h:used ≤ k ∧ k < used + n
 · rw [if_pos h,if_pos (by omega),Option.getD_some,show fr + k - (fr + used) = k - used from by omega]
 · rw [if_neg h,if_neg (by omega)]
theorem fit_wrs {d:Dm} (h:Fit d) (base used:Nat) (ep:Int) {u:List Int} (hb:Byte u) (n:Nat):Fit (wrs d base (blk ep used u) n):=by
 intro x hx
 simp only [wrs,List.mem_append,List.mem_map,List.mem_range] at hx
 rcases hx with hx | ⟨i,_,rfl⟩
 · exact h x hx
 · exact ⟨blk_length ep used u i,blk_bytes ep used u i hb⟩
theorem ok_wrs {d:Dm} (h:d.ok) (base:Nat) (f:Nat → List Int) (n:Nat) (hf:d.fuse < 0 ∨ (n:Int) ≤ d.fuse):(wrs d base f n).ok:=by
 unfold Dm.ok wrs at *
 refine ⟨?_,?_,h.2.2⟩
 · simp only
   split <;> omega
 · simp only
   split <;> omega
structure Snd (m:Lm) (d:Dm):Prop where
 ar:Ar m.ep (bsOf d m.fr) m.count m.us m.used
 fit:Fit d
 ok:m.ok
 dok:d.ok
 area:m.fr + m.count ≤ d.nb
 bytes:∀ u ∈ m.us,Byte u
 size:d.log.length ≤ 900000
def apC (m:Lm) (u:List Int):Int:=if u.length = 0 then 1 else if 60000 < u.length then 4 else if m.count - m.used < nbl u then 6 else 0
theorem apC_ok {m:Lm} {u:List Int} (hc:apC m u = 0):u ≠ [] ∧ u.length ≤ 60000 ∧ nbl u ≤ m.count - m.used:=by
 unfold apC at hc
 by_cases h0:u.length = 0
 · rw [if_pos h0] at hc; omega
 · rw [if_neg h0] at hc
   by_cases h6:60000 < u.length
   · rw [if_pos h6] at hc; omega
   · rw [if_neg h6] at hc
     by_cases hr:m.count - m.used < nbl u
     · rw [if_pos hr] at hc; omega
     · exact ⟨fun h => h0 (by rw [h]; rfl),by omega,by omega⟩
theorem ap_go {m:Lm} (hov:m.over = false) (d:Dm) {u:List Int} (hc:apC m u = 0):m.ap d u = if Dm.may d (nbl u) = nbl u then (0,wrs d (m.fr + m.used) (blk m.ep m.used u) (nbl u),{ m with us:=m.us ++ [u],used:=m.used + nbl u })
 else (9,{ wrs d (m.fr + m.used) (blk m.ep m.used u) (Dm.may d (nbl u)) with down:=true },{ m with over:=true }):=by
 obtain ⟨h1,h2,h3⟩:=apC_ok hc
 have h0:u.length ≠ 0:=fun h => h1 (List.eq_nil_of_length_eq_zero h)
 unfold Lm.ap
 rw [if_neg (by rw [hov]; simp),if_neg h0,if_neg (by omega),if_neg (by omega)]
def Lm.add (m:Lm) (u:List Int):Lm:={ m with us:=m.us ++ [u],used:=m.used + nbl u }
theorem Snd.add {m:Lm} {d:Dm} {u:List Int} (h:Snd m d) (hc:apC m u = 0) (hb:Byte u) (hf:d.fuse < 0 ∨ (nbl u:Int) ≤ d.fuse) (hs:d.log.length + nbl u ≤ 900000):Snd (m.add u) (wrs d (m.fr + m.used) (blk m.ep m.used u) (nbl u)):=by
 obtain ⟨h1,h2,h3⟩:=apC_ok hc
 have hle:=h.ok.le
 have hn1:=nbl_pos h1
 have hlu:∀ {us:List (List Int)} {k e:Nat} {ep:Int} {bs:Nat → List Int},Laid ep bs k us e → us.length + k ≤ e:=by
  intro us
  induction us with
  | nil => intro k e ep bs h; have:k = e:=h; simp; omega
  | cons v t ih => intro k e ep bs h; have:=ih h.2.2; have:=nbl_pos h.1; simp only [List.length_cons]; omega
 have hcount:=h.ok.area
 refine ⟨?_,fit_wrs h.fit _ _ _ hb _,⟨?_,h.ok.area,h.ok.ep,?_,?_⟩,ok_wrs h.dok _ _ _ hf,h.area,?_,?_⟩
 · simp only [Lm.add]
   rw [bsOf_wrs]
   exact h.ar.whole h1 (by omega)
 · simp only [Lm.add]
   omega
 · simp only [Lm.add,List.length_append,List.length_singleton]
   have:=hlu h.ar.laid
   omega
 · intro v hv
   simp only [Lm.add] at hv
   rcases List.mem_append.1 hv with hv | hv
   · exact h.ok.long v hv
   · obtain rfl:=List.mem_singleton.1 hv
     omega
 · intro v hv
   simp only [Lm.add] at hv
   rcases List.mem_append.1 hv with hv | hv
   · exact h.bytes v hv
   · obtain rfl:=List.mem_singleton.1 hv
     exact hb
 · simp only [wrs,List.length_append,List.length_map,List.length_range]
   exact hs
theorem ap_alive {m:Lm} {d:Dm} {u:List Int} (hov:m.over = false) (hd:d.down = false) (hf:d.fuse < 0) (hc:apC m u = 0):m.ap d u = (0,wrs d (m.fr + m.used) (blk m.ep m.used u) (nbl u),m.add u):=by
 rw [ap_go hov d hc,if_pos]
 · rfl
 · unfold Dm.may
   rw [hd]
   simp only [Bool.false_eq_true,if_false]
   rw [if_neg (by omega)]
theorem opL_ar {d:Dm} {fr count used:Nat} {ep:Int} {us:List (List Int)} (hd:d.down = false) (hn:1 ≤ count) (ha:fr + count ≤ d.nb) (h:Ar ep (bsOf d fr) count us used):opL d fr count ep = (0,some ⟨fr,count,ep,us,used,false⟩):=by
 unfold opL
 have:areaB d.nb fr count = true:=by
  unfold areaB
  exact decide_eq_true ⟨by omega,by omega,by omega,by omega⟩
 rw [this,if_neg (by simp),hd,if_neg (by simp),Int.toNat_natCast,Int.toNat_natCast,h.scan]
theorem bsOf_new (nb:Nat) (f:Int) (dn:Bool) (fr:Nat):∀ i,bsOf ⟨nb,[],f,dn⟩ fr i = List.replicate 256 0:=fun i => rfl
def Lm.new (fr count:Nat) (ep:Int):Lm:=⟨fr,count,ep,[],0,false⟩
theorem Snd.new {nb fr count:Nat} {ep:Int} (hnb:nb ≤ 65536) (ha:fr + count ≤ nb) (hep:0 ≤ ep ∧ ep ≤ 18446744073709551615):Snd (Lm.new fr count ep) ⟨nb,[],-1,false⟩:=
 ⟨Ar.zero count hep fun i _ => bsOf_new nb (-1) false fr i,fun x hx => (by cases hx),⟨Nat.zero_le _,by simp only [Lm.new]; omega,hep,by simp [Lm.new],fun x hx => (by cases hx)⟩,⟨by simp,by simp,hnb⟩,ha,fun x hx => (by cases hx),by simp⟩
theorem opL_new {nb fr count:Nat} {ep:Int} (hn:1 ≤ count) (ha:fr + count ≤ nb) (hep:0 ≤ ep ∧ ep ≤ 18446744073709551615):opL ⟨nb,[],-1,false⟩ fr count ep = (0,some (Lm.new fr count ep)):=
 opL_ar rfl hn ha (Ar.zero count hep fun i _ => bsOf_new nb (-1) false fr i)
section
variable {w W W':World} {F D:Nat → Prop} {q p:Nat} {m m':Lm} {d d':Dm}
end
end Go.Proofs.YtclfmpieapbfnaaGreatDoor.Gl
end
