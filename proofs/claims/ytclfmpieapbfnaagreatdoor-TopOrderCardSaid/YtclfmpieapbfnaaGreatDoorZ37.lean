/- Part 37: lemmas, no conditions. -/
import Derived.Test.YtclfmpieapbfnaaGreatDoorZ33
import Derived.Test.YtclfmpieapbfnaaGreatDoorZ08
import Derived.Test.YtclfmpieapbfnaaGreatDoorZ25
import Derived.Test.YtclfmpieapbfnaaGreatDoorZ02
import Derived.Test.YtclfmpieapbfnaaGreatDoorZ34
import Derived.Test.YtclfmpieapbfnaaGreatDoorZ36
set_option maxHeartbeats 4000000
namespace Go.Proofs.YtclfmpieapbfnaaGreatDoor
set_option linter.unusedVariables false
set_option linter.unusedSimpArgs false
section
namespace Nd
open Go.RowKit B Cm Cw Cr
theorem back_num (n:Int) (r:List Int) (h0:0 ≤ n) (h1:n ≤ 18446744073709551615):stN (num n ++ r) false = (n,r,false):=by
 unfold stN
 rw [Cp.rdNum_num n r h0 h1]
theorem back_text (s:ByteArray) (r:List Int) (hs:s.size ≤ 18446744073709551615):stT (num s.size ++ sb s ++ r) false = (sb s,r,false):=by
 unfold stT
 rw [List.append_assoc,back_num s.size (sb s ++ r) (by omega) (by omega)]
 have hl:=sb_length s
 simp only [Bool.false_eq_true,if_false]
 rw [if_neg (by rw [List.length_append]; omega)]
 have e:((s.size:Int)).toNat = (sb s).length:=by omega
 rw [e,List.take_left,List.drop_left]
theorem sb_str (s:ByteArray):strOfNums (sb s) = s:=by
 apply ByteArray.ext
 apply Array.toList_inj.1
 simp only [strOfNums,sb,List.map_map]
 have:(s.data.toList.map ((fun n:Int => UInt8.ofNat n.toNat) ∘ fun b:UInt8 => (b.toNat:Int))) = s.data.toList:=by
  conv => rhs; rw [← List.map_id s.data.toList]
  exact List.map_congr_left fun b _ => by simp
 simpa using this
theorem sb_strOf (t:List Int) (hb:Byte t):sb (strOfNums t) = t:=by
 simp only [sb,strOfNums,List.map_map]
 conv => rhs; rw [← List.map_id t]
 exact List.map_congr_left fun b hbm => by
  have:=hb b hbm
  simp
  omega
def encR (r:Rm):List Int:=num r.actor.size ++ sb r.actor ++ (num r.name.size ++ sb r.name ++ (num (zz r.due) ++ (num (zz r.per) ++ num (zz r.kind))))
def encQ (l:List Rm):List Int:=num l.length ++ l.flatMap encR
theorem encR_le {r:Rm} (h:Okr r):(encR r).length ≤ 125:=by
 have hr:=h.r
 have h1:=(num_length r.actor.size).2
 have h2:=(num_length r.name.size).2
 have h3:=(num_length (zz r.due)).2
 have h4:=(num_length (zz r.per)).2
 have h5:=(num_length (zz r.kind)).2
 have h6:=sb_length r.actor
 have h7:=sb_length r.name
 simp only [encR,List.length_append]
 omega
theorem encQ_take_le {l:List Rm} (h:Inv l) (j:Nat):((l.take j).flatMap encR).length ≤ 8000:=by
 have hh:∀ y:List Rm,(∀ r ∈ y,Okr r) → (y.flatMap encR).length ≤ 125 * y.length:=by
  intro y
  induction y with
  | nil => simp
  | cons a t ih =>
   intro hy
   have:=encR_le (hy a List.mem_cons_self)
   have:=ih fun e he => hy e (List.mem_cons_of_mem _ he)
   simp only [List.flatMap_cons,List.length_append,List.length_cons]
   omega
 have h1:=hh (l.take j) fun r hr => h.ok r (List.mem_of_mem_take hr)
 have h2:(l.take j).length ≤ 64:=by
  have:=h.len
  rw [List.length_take]
  omega
 omega
theorem sb_byte (s:ByteArray):Byte (sb s):=by
 intro c hc
 simp only [sb,List.mem_map] at hc
 obtain ⟨b,_,rfl⟩:=hc
 have:=b.toNat_lt
 omega
theorem encQ_byte {l:List Rm} (h:Inv l):Byte (encQ l):=by
 intro c hc
 unfold encQ at hc
 rcases List.mem_append.1 hc with hc | hc
 · exact Cp.num_byte _ (by omega) c hc
 · obtain ⟨r,hr,hc⟩:=List.mem_flatMap.1 hc
   have ho:=h.ok r hr
   have z1:=zz_range r.due ho.d.1 ho.d.2
   have z2:=zz_range r.per ho.p.1 ho.p.2
   have z3:=zz_range r.kind ho.k.1 ho.k.2
   simp only [encR,List.mem_append] at hc
   rcases hc with (hc | hc) | (hc | hc) | hc | hc | hc
   · exact Cp.num_byte _ (by omega) c hc
   · exact sb_byte _ c hc
   · exact Cp.num_byte _ (by omega) c hc
   · exact sb_byte _ c hc
   · exact Cp.num_byte _ z1.1 c hc
   · exact Cp.num_byte _ z2.1 c hc
   · exact Cp.num_byte _ z3.1 c hc
end Nd
end
section
namespace Ou
open Go.RowKit B Cm Cw Cr Lt Lc Nd
abbrev Oe:=ByteArray × L
structure Om where
 own:ByteArray
 lst:List Oe
 ser:List (ByteArray × Int)
def Kk (k:ByteArray):Prop:=1 ≤ k.size ∧ k.size ≤ 40
def at_ (s:List (ByteArray × Int)) (k:ByteArray):Option Int:=(s.find? fun e => decide (e.1 = k)).map (·.2)
def num0 (s:List (ByteArray × Int)) (k:ByteArray):Int:=(at_ s k).getD 0
def wt (l:List Oe) (k:ByteArray):Nat:=l.countP fun x => decide (x.1 = k)
def Ord (s:List (ByteArray × Int)):List Oe → Prop
 | [] => True
 | x :: r => (wt (x :: r) x.1:Int) ≤ num0 s x.1 ∧ x.2.2.1 = num0 s x.1 - wt (x :: r) x.1 + 1 ∧ Ord s r
structure Om.ok (B:Int) (m:Om):Prop where
 key:Kk m.own
 srt:m.ser.Pairwise fun a b => bl a.1 b.1 = true
 serk:∀ e ∈ m.ser,Kk e.1 ∧ 1 ≤ e.2 ∧ e.2 ≤ B
 many:m.ser.length ≤ 64
 few:m.lst.length ≤ 32
 each:∀ x ∈ m.lst,Kk x.1 ∧ formed x.2 = true ∧ Wf x.2 ∧ x.2.1 = m.own
 ord:Ord m.ser m.lst
def txt (s:ByteArray):List Int:=num s.size ++ sb s
def txl (l:List Int):List Int:=num l.length ++ l
def serb (s:List (ByteArray × Int)):List Int:=s.flatMap fun e => txt e.1 ++ num e.2
def outb (l:List Oe):List Int:=l.flatMap fun x => txt x.1 ++ txl (lb x.2)
def encO (m:Om):List Int:=txt m.own ++ (num m.ser.length ++ (serb m.ser ++ (num m.lst.length ++ outb m.lst)))
theorem txt_le (s:ByteArray):(txt s).length ≤ s.size + 9:=by
 have h1:=(num_length (s.size:Int)).2
 have h2:=sb_length s
 simp only [txt,List.length_append]
 omega
theorem txl_le (l:List Int):(txl l).length ≤ l.length + 9:=by
 have h1:=(num_length (l.length:Int)).2
 simp only [txl,List.length_append]
 omega
theorem serb_le (s:List (ByteArray × Int)) (h:∀ e ∈ s,Kk e.1):(serb s).length ≤ 58 * s.length:=by
 induction s with
 | nil => simp [serb]
 | cons e r ih =>
  have h1:=ih fun x hx => h x (by simp [hx])
  have h2:=txt_le e.1
  have h3:=(num_length e.2).2
  have h4:=(h e (by simp)).2
  have e1:serb (e :: r) = (txt e.1 ++ num e.2) ++ serb r:=by simp [serb]
  rw [e1]
  simp only [List.length_append,List.length_cons]
  omega
theorem lb_small {x:L} (h:formed x = true):(lb x).length ≤ 112:=by
 have h1:=lb_le x
 have h2:=formed_le h
 omega
theorem outb_le (l:List Oe) (h:∀ x ∈ l,Kk x.1 ∧ formed x.2 = true):(outb l).length ≤ 170 * l.length:=by
 induction l with
 | nil => simp [outb]
 | cons x r ih =>
  have h1:=ih fun y hy => h y (by simp [hy])
  have h2:=txt_le x.1
  have h3:=txl_le (lb x.2)
  have h4:=h x (by simp)
  have h5:=lb_small h4.2
  have h6:=h4.1.2
  have e1:outb (x :: r) = (txt x.1 ++ txl (lb x.2)) ++ outb r:=by simp [outb]
  rw [e1]
  simp only [List.length_append,List.length_cons]
  omega
theorem encO_le {B:Int} {m:Om} (h:m.ok B):(encO m).length ≤ 9300:=by
 have h1:=serb_le m.ser fun e he => (h.serk e he).1
 have h2:=outb_le m.lst fun x hx => ⟨(h.each x hx).1,(h.each x hx).2.1⟩
 have h3:=txt_le m.own
 have h4:=(num_length (m.ser.length:Int)).2
 have h5:=(num_length (m.lst.length:Int)).2
 have h6:=h.key.2
 have h7:=h.many
 have h8:=h.few
 simp only [encO,List.length_append]
 omega
theorem sb_byte (s:ByteArray):Byte (sb s):=by
 intro c hc
 simp only [sb,List.mem_map] at hc
 obtain ⟨b,_,rfl⟩:=hc
 have:=b.toNat_lt
 omega
theorem Byte.append {a b:List Int} (h1:Byte a) (h2:Byte b):Byte (a ++ b):=fun c hc => (List.mem_append.1 hc).elim (h1 c) (h2 c)
theorem num_b (n:Int) (h:0 ≤ n):Byte (num n):=Cp.num_byte n h
theorem txt_byte (s:ByteArray):Byte (txt s):=Byte.append (num_b _ (by omega)) (sb_byte s)
theorem txl_byte {l:List Int} (h:Byte l):Byte (txl l):=Byte.append (num_b _ (by omega)) h
theorem flat_byte {α:Type} (f:α → List Int) (l:List α) (h:∀ x ∈ l,Byte (f x)):Byte (l.flatMap f):=by
 intro c hc
 obtain ⟨x,hx,hc⟩:=List.mem_flatMap.1 hc
 exact h x hx c hc
theorem zz_pos (n:Int):0 ≤ zz n:=by unfold zz; split <;> omega
theorem lb_byte (x:L) (hw:Wf x):Byte (lb x):=by
 unfold lb hb ints
 exact Byte.append (Byte.append (Byte.append (Byte.append (Byte.append (num_b _ (by omega)) (sb_byte _)) (num_b _ hw.u.1)) (num_b _ (zz_pos _))) (num_b _ (by omega))) (flat_byte _ _ fun z _ => num_b _ (zz_pos _))
theorem encO_byte {B:Int} {m:Om} (h:m.ok B):Byte (encO m):=by
 unfold encO serb outb
 refine Byte.append (txt_byte _) (Byte.append (num_b _ (by omega)) (Byte.append (flat_byte _ _ fun e he => Byte.append (txt_byte _) (num_b _ ?_)) (Byte.append (num_b _ (by omega)) (flat_byte _ _ fun x hx => Byte.append (txt_byte _) (txl_byte (lb_byte _ (h.each x hx).2.2.1))))))
 have:=(h.serk e he).2.1
 omega
theorem back_txt (s:ByteArray) (r:List Int) (hs:s.size ≤ 18446744073709551615):stT (txt s ++ r) false = (sb s,r,false):=back_text s r hs
theorem back_txl {l:List Int} (hl:l.length ≤ 18446744073709551615) (r:List Int):stT (txl l ++ r) false = (l,r,false):=by
 unfold stT txl
 rw [List.append_assoc,Cr.back_num _ _ (by omega) (by omega)]
 simp only [Bool.false_eq_true,if_false]
 rw [if_neg (by rw [List.length_append]; omega),Int.toNat_natCast,List.take_left,List.drop_left]
theorem serb_drop (s:List (ByteArray × Int)) {j:Nat} (hj:j < s.length):serb (s.drop j) = txt s[j].1 ++ (num s[j].2 ++ serb (s.drop (j + 1))):=by
 unfold serb
 rw [List.drop_eq_getElem_cons hj,List.flatMap_cons,List.append_assoc]
theorem outb_drop (l:List Oe) {j:Nat} (hj:j < l.length):outb (l.drop j) = txt l[j].1 ++ (txl (lb l[j].2) ++ outb (l.drop (j + 1))):=by
 unfold outb
 rw [List.drop_eq_getElem_cons hj,List.flatMap_cons,List.append_assoc]
theorem at_none {s:List (ByteArray × Int)} {k:ByteArray}:at_ s k = none ↔ ∀ e ∈ s,e.1 ≠ k:=by
 unfold at_
 rw [Option.map_eq_none_iff,List.find?_eq_none]
 simp
theorem at_mem {s:List (ByteArray × Int)} {k:ByteArray} {n:Int} (h:at_ s k = some n):(k,n) ∈ s:=by
 unfold at_ at h
 obtain ⟨e,he,rfl⟩:=Option.map_eq_some_iff.1 h
 have h1:=List.mem_of_find?_eq_some he
 have h2:=List.find?_some he
 simp only [decide_eq_true_eq] at h2
 subst h2
 exact h1
theorem srt_nd {s:List (ByteArray × Int)} (h:s.Pairwise fun a b => bl a.1 b.1 = true):s.Pairwise fun a b => a.1 ≠ b.1:=
 h.imp fun {a b} hab e => by
  rw [e,bl_irrefl] at hab
  cases hab
theorem at_of_mem {s:List (ByteArray × Int)} (h:s.Pairwise fun a b => a.1 ≠ b.1) {k:ByteArray} {n:Int} (hm:(k,n) ∈ s):at_ s k = some n:=by
 induction s with
 | nil => cases hm
 | cons e r ih =>
  rw [List.pairwise_cons] at h
  unfold at_
  rcases List.mem_cons.1 hm with hm | hm
  · subst hm
    simp
  · have hne:e.1 ≠ k:=h.1 (k,n) hm
    rw [List.find?_cons_of_neg (by simpa using hne)]
    exact ih h.2 hm
def putS:List (ByteArray × Int) → ByteArray → Int → List (ByteArray × Int)
 | [],k,n => [(k,n)]
 | e :: r,k,n => if e.1 = k then (k,n) :: r else if bl k e.1 then (k,n) :: e :: r else e :: putS r k n
theorem putS_at {s:List (ByteArray × Int)} (h:s.Pairwise fun a b => bl a.1 b.1 = true) (k:ByteArray) (n:Int) (k':ByteArray):at_ (putS s k n) k' = if k' = k then some n else at_ s k':=by
 induction s with
 | nil =>
  by_cases hk:k' = k
  · subst hk; simp [putS,at_]
  · rw [if_neg hk]
    simp [putS,at_,Ne.symm hk]
 | cons x r ih =>
  rw [List.pairwise_cons] at h
  unfold putS
  by_cases h1:x.1 = k
  · rw [if_pos h1]
    by_cases hk:k' = k
    · subst hk; simp [at_]
    · rw [if_neg hk]
      have:x.1 ≠ k':=fun e => hk (by rw [← e,h1])
      simp [at_,this,Ne.symm hk]
  · rw [if_neg h1]
    rcases h2:bl k x.1 with _ | _
    · simp only [Bool.false_eq_true,if_false]
      by_cases hx:x.1 = k'
      · subst hx
        rw [if_neg h1]
        simp [at_]
      · have e1:at_ (x :: putS r k n) k' = at_ (putS r k n) k':=by simp [at_,hx]
        have e2:at_ (x :: r) k' = at_ r k':=by simp [at_,hx]
        rw [e1,e2,ih h.2]
    · simp only [if_true]
      by_cases hk:k' = k
      · subst hk; simp [at_]
      · rw [if_neg hk]
        simp [at_,Ne.symm hk]
def sendO (m:Om) (to:ByteArray) (kind:Int) (args:List Int):Om:=⟨m.own,m.lst ++ [(to,m.own,num0 m.ser to + 1,kind,args)],putS m.ser to (num0 m.ser to + 1)⟩
theorem wt_app (l:List Oe) (x:Oe) (k:ByteArray):wt (l ++ [x]) k = wt l k + if x.1 = k then 1 else 0:=by
 simp only [wt,List.countP_append,List.countP_cons,List.countP_nil,decide_eq_true_eq,Nat.zero_add]
theorem wt_cons (l:List Oe) (x:Oe) (k:ByteArray):wt (x :: l) k = wt l k + if x.1 = k then 1 else 0:=by
 simp only [wt,List.countP_cons,decide_eq_true_eq]
theorem num0_ge {B:Int} {m:Om} (h:m.ok B) (k:ByteArray):0 ≤ num0 m.ser k ∧ (num0 m.ser k ≤ B ∨ num0 m.ser k = 0):=by
 unfold num0
 rcases hk:at_ m.ser k with _ | n
 · exact ⟨by simp,.inr rfl⟩
 · have:=h.serk _ (at_mem hk)
   exact ⟨by simp only [Option.getD_some]; omega,.inl this.2.2⟩
def popO (m:Om):Om:=⟨m.own,m.lst.tail,m.ser⟩
theorem Om.ok.mono {B C:Int} {m:Om} (h:m.ok B) (hc:B ≤ C):m.ok C:=⟨h.key,h.srt,fun e he => ⟨(h.serk e he).1,(h.serk e he).2.1,Int.le_trans (h.serk e he).2.2 hc⟩,h.many,h.few,h.each,h.ord⟩
def newO (k:ByteArray):Om:=⟨k,[],[]⟩
theorem newO_ok {k:ByteArray} (h:Kk k):(newO k).ok 0:=⟨h,by simp [newO],by simp [newO],by simp [newO],by simp [newO],by simp [newO],trivial⟩
end Ou
end
section
namespace Nd
open Go.RowKit B Go.Proofs.YtclfmpieapbfnaaGreatDoor.Op Cm Cw
def EnOut (w:World) (l:List Int) (e:Ending) (w':World):Prop:=∃ A c,e = .returned (.slice A l.length c) ∧ l.length ≤ c ∧ c ≤ 9223372036854775807 ∧ Rn w' .u8 A l ∧ Upd No w w' ∧ ∀ ad,A = some ad → w.heap.size ≤ ad.block
theorem EnOut.of {w:World} {l:List Int} {e:Ending} {w':World} (h:∃ A c,e = .returned (.slice A l.length c) ∧ l.length ≤ c ∧ c ≤ 9223372036854775807 ∧ Rn w' .u8 A l ∧ Upd No w w' ∧ ∀ ad,A = some ad → w.heap.size ≤ ad.block):EnOut w l e w':=h
structure Wo (w W:World) (F:Nat → Prop) (q:Nat) (bs:List Int):Prop where
 wr:Wr W F q bs
 own:∀ k,F k → w.heap.size ≤ k
 upd:Upd No w W
theorem Wo.moved {w W W':World} {F F':Nat → Prop} {q:Nat} {bs cs:List Int} (h:Wo w W F q bs) (hw:Wr W' F' q cs) (hm:Mv F F' W W'):Wo w W' F' q cs:=
 ⟨hw,fun k hk => (hm.sub k hk).elim (h.own k) fun hs => Nat.le_trans h.upd.size hs,h.upd.trans hm.upd fun i hi hf => by have:=h.own i hf; omega⟩
theorem Wo.quiet {w W W':World} {F:Nat → Prop} {q:Nat} {bs:List Int} (h:Wo w W F q bs) (hu:Upd No W W'):Wo w W' F q bs:=⟨h.wr.keep hu fun _ _ => no_ _,h.own,h.upd.next hu⟩
theorem enc_take {x:List Rm} {j:Nat} (hj:j < x.length):(x.take (j + 1)).flatMap encR = (x.take j).flatMap encR ++ encR x[j]:=by
 rw [List.take_succ_eq_append_getElem hj,List.flatMap_append]
 simp
theorem Wo.box {w W:World} {F:Nat → Prop} {q:Nat} {bs:List Int} (h:Wo w W F q bs) (o:Obj):Wo w (W.alloc o) F q bs:=h.quiet ((Upd.refl No W).alloc o)
theorem box_moved {W W':World} {G G':Nat → Prop} {p t:Nat} {cs:Array Value} (hb:Blk W p t cs ∧ ¬ G p) (hm:Mv G G' W W'):Blk W' p t cs ∧ ¬ G' p:=
 ⟨hb.1.upd hm.upd hb.2,fun hk => (hm.sub p hk).elim hb.2 (fun h1 => by have:=hb.1.lt; omega)⟩
set_option maxRecDepth 100000 in
theorem encode_ {w:World} {F:Nat → Prop} {q0:Nat} {x:List Rm} (h:Qo w F q0 x) (hok:Inv x) :
 Calls Tryz.prog 122 #[.pointer (some ⟨q0,0,none⟩)] w fun e w' => EnOut w (encQ x) e w':=by
 have hlx:=hok.len
 obtain ⟨A,k,hc,hrd,hk1,hk2⟩:=h.cell
 simp only [maxLen] at hk2
 have HC:Hid (∀ W,Upd No w W → W.cell? ⟨q0,0,none⟩ = some (.slice A x.length k) ∧ Rd W 5 A x.length (x.flatMap rc)):=hid fun W hu => by
  obtain ⟨A',k',hb1,_⟩:=h.parts
  have h0:=hb1.cell 0
  simp at h0
  rw [h0] at hc
  injection hc with hc
  rw [hc] at hb1
  have h1:=(hb1.upd hu (no_ _)).cell 0
  simp at h1
  exact ⟨h1,Rd.upd hrd (by omega) hu fun _ _ => no_ _⟩
 have HE:Hid (encQ x = num (x.length:Int) ++ x.flatMap encR):=hid rfl
 have HL:Hid ((∀ j,((x.take j).flatMap encR).length ≤ 8000) ∧ (num (x.length:Int)).length ≤ 9):=hid ⟨encQ_take_le hok,(num_length _).2⟩
 have HO:=hid hok
 have hwn:IntKind.u64.wrap (x.length:Int) = (x.length:Int):=by
  rw [IntKind.wrap_u64]
  omega
 clear h hok hc hrd
 go_enter Tryz.func122,Tryz.ntmps122
 go_wp2_with (fail)
 refine Calls.mono (newWriter w) ?_
 rintro e w1 ⟨rfl,rfl⟩
 have HW:Hid (∃ w1 q F1,w1 = w.alloc (.cells #[.slice none 0 0] 276) ∧ q = w.heap.size ∧ Wo w w1 F1 q []):=hid ⟨_,_,_,rfl,rfl,⟨Wr.new w,fun k hk => by omega,(Upd.refl _ _).alloc _⟩⟩
 obtain ⟨w1,q,F1,hw1,hq,hO1⟩:=HW.out
 rw [← hw1,← hq]
 have HO1:=hid hO1
 clear hw1 hq hO1 HW
 have y0:=(HC.out w1 HO1.out.upd).1
 go_wp2_with (fail)
 refine Calls.mono (number q [] (x.length:Int) F1 w1 HO1.out.wr (by omega) (by omega) (by simp)) ?_
 rintro e w2 ⟨rfl,F2,hw2,hm2⟩
 have HO2:=hid (HO1.out.moved hw2 hm2)
 rw [List.nil_append] at HO2
 clear hw2 hm2 HO1 F1 hwn y0
 have y0:=(HC.out w2 HO2.out.upd).1
 go_wp2_with (fail)
 clear y0
 go_loopw [22] (fun v22 W => ∃ (j:Nat) (F':Nat → Prop) (cs:List Int),j ≤ x.length ∧ v22 = .int .i64 j ∧ Hid (cs = num (x.length:Int) ++ (x.take j).flatMap encR) ∧ Hid (Wo w W F' q cs)) (fun v22 _ => x.length - (intOf v22).toNat)
 case atStart => exact ⟨0,F2,_,by omega,rfl,hid (by simp),HO2⟩
 case round =>
  clear HO2
  obtain ⟨j,F',cs,hj,rfl,HCs,HW⟩:=hrel
  by_cases hlt:j < x.length
  · obtain ⟨ad,rfl,hat⟩:=rm_at (HC.out wr HW.out.upd).2 hlt
    have hor:=HO.out.ok _ (List.getElem_mem hlt)
    have HT:Hid ((x.take (j + 1)).flatMap encR = (x.take j).flatMap encR ++ encR x[j]):=hid (enc_take hlt)
    generalize x[j] = r at *
    have h5:=hor.r
    have hd:=hor.d
    have hp:=hor.p
    have hk:=hor.k
    unfold I64 at hd hp hk
    obtain ⟨ra,rn,rd,rp,rk⟩:=r
    obtain ⟨x0,x1,x2,x3,x4⟩:=hat
    simp only at x0 x1 x2 x3 x4 h5 hd hp hk
    have hj1:(0:Int) ≤ (j:Int):=by omega
    have hj2:(j:Int) < (x.length:Int):=by omega
    have hb1:cs.length ≤ 9000:=by
     have h1:=HL.out.1 j
     have h2:=HL.out.2
     rw [HCs.out,List.length_append]
     omega
    have HBx:Hid (∃ W5 p5,W5 = wr.alloc (.cells #[.string ra,.string rn,.int .i64 rd,.int .i64 rp,.int .i64 rk] 71) ∧ p5 = wr.heap.size ∧ Blk W5 p5 71 #[.string ra,.string rn,.int .i64 rd,.int .i64 rp,.int .i64 rk] ∧ Wo w W5 F' q cs ∧ ¬ F' p5):=hid ⟨_,_,rfl,rfl,Blk.fresh _ _ _,HW.out.box _,fun hf => by have:=HW.out.wr.lt _ hf; omega⟩
    obtain ⟨W5,p5,hW5,hp5,hB5,hO5,hn5⟩:=HBx.out
    have hnl:∀ n:Int,(num n).length ≤ 9:=fun n => (num_length n).2
    have hsa:=sb_length ra
    have hsn:=sb_length rn
    have HN1:=hid (text_ q cs ra F' W5 hO5.wr (by omega))
    have HX5:=hid (And.intro hB5 (And.intro hO5 hn5))
    clear hB5 hO5 hn5 HBx hor
    go_wp2_with (fail)
    rw [← hW5]
    try rw [← hp5]
    clear hW5 hp5 x0 x1 x2 x3 x4
    refine Calls.mono HN1.out ?_
    rintro e w6 ⟨rfl,F6,hw6,hm6⟩
    have HB6:=hid (box_moved ⟨HX5.out.1,HX5.out.2.2⟩ hm6)
    have HO6:=hid (HX5.out.2.1.moved hw6 hm6)
    obtain ⟨y0,y1,y2,y3,y4⟩:=box5 HB6.out.1
    obtain ⟨c6,hc6⟩:∃ c6,c6 = cs ++ num ra.size ++ sb ra:=⟨_,rfl⟩
    have hl6:c6.length ≤ 9100:=by rw [hc6]; simp only [List.length_append]; have:=hnl ra.size; omega
    rw [← hc6] at HO6
    have HC6:=hid hc6
    have HN2:=hid (text_ q c6 rn F6 w6 HO6.out.wr (by omega))
    clear hw6 hm6 HN1 hc6 HX5
    go_wp2_with (fail)
    refine Calls.mono HN2.out ?_
    rintro e w7 ⟨rfl,F7,hw7,hm7⟩
    have HB7:=hid (box_moved HB6.out hm7)
    have HO7:=hid (HO6.out.moved hw7 hm7)
    clear y0 y1 y2 y3 y4
    obtain ⟨y0,y1,y2,y3,y4⟩:=box5 HB7.out.1
    obtain ⟨c7,hc7⟩:∃ c7,c7 = c6 ++ num rn.size ++ sb rn:=⟨_,rfl⟩
    have hl7:c7.length ≤ 9200:=by rw [hc7]; simp only [List.length_append]; have:=hnl rn.size; omega
    rw [← hc7] at HO7
    have HC7:=hid hc7
    have HN3:=hid (int_ q c7 rd F7 w7 HO7.out.wr hd.1 hd.2 (by omega))
    clear hw7 hm7 HN2 hc7 HB6 HO6
    go_wp2_with (fail)
    refine Calls.mono HN3.out ?_
    rintro e w8 ⟨rfl,F8,hw8,hm8⟩
    have HB8:=hid (box_moved HB7.out hm8)
    have HO8:=hid (HO7.out.moved hw8 hm8)
    clear y0 y1 y2 y3 y4
    obtain ⟨y0,y1,y2,y3,y4⟩:=box5 HB8.out.1
    obtain ⟨c8,hc8⟩:∃ c8,c8 = c7 ++ num (zz rd):=⟨_,rfl⟩
    have hl8:c8.length ≤ 9300:=by rw [hc8]; simp only [List.length_append]; have:=hnl (zz rd); omega
    rw [← hc8] at HO8
    have HC8:=hid hc8
    have HN4:=hid (int_ q c8 rp F8 w8 HO8.out.wr hp.1 hp.2 (by omega))
    clear hw8 hm8 HN3 hc8 HB7 HO7
    go_wp2_with (fail)
    refine Calls.mono HN4.out ?_
    rintro e w9 ⟨rfl,F9,hw9,hm9⟩
    have HB9:=hid (box_moved HB8.out hm9)
    have HO9:=hid (HO8.out.moved hw9 hm9)
    clear y0 y1 y2 y3 y4
    obtain ⟨y0,y1,y2,y3,y4⟩:=box5 HB9.out.1
    obtain ⟨c9,hc9⟩:∃ c9,c9 = c8 ++ num (zz rp):=⟨_,rfl⟩
    have hl9:c9.length ≤ 9400:=by rw [hc9]; simp only [List.length_append]; have:=hnl (zz rp); omega
    rw [← hc9] at HO9
    have HC9:=hid hc9
    have HN5:=hid (int_ q c9 rk F9 w9 HO9.out.wr hk.1 hk.2 (by omega))
    clear hw9 hm9 HN4 hc9 HB8 HO8
    go_wp2_with (fail)
    refine Calls.mono HN5.out ?_
    rintro e w10 ⟨rfl,F10,hw10,hm10⟩
    have HO10:=hid (HO9.out.moved hw10 hm10)
    have HD:=hid (show c9 ++ num (zz rk) = num (x.length:Int) ++ (x.take (j + 1)).flatMap encR by
     rw [HC9.out,HC8.out,HC7.out,HC6.out,HCs.out,HT.out]
     simp [encR])
    generalize c9 ++ num (zz rk) = c10 at *
    clear hw10 hm10 HN5 HB9 HO9 y0 y1 y2 y3 y4
    go_wp2
    go_roundw
    case rel => exact ⟨j + 1,F10,c10,by omega,by go_num,HD,HO10⟩
    case measure => simp [intOf]; omega
  · obtain rfl:j = x.length:=by omega
    have e:cs = encQ x:=by rw [HCs.out,HE.out,List.take_length]
    subst e
    have hlen:(encQ x).length ≤ 9000:=by
     have h1:=HL.out.1 x.length
     rw [List.take_length] at h1
     have h2:=HL.out.2
     rw [HE.out,List.length_append]
     omega
    have HBy:=hid (bytes_ q (encQ x) F' wr HW.out.wr (by omega))
    clear hlen HCs
    go_wp2_with (fail)
    refine Calls.mono HBy.out ?_
    rintro e w10 ⟨v,rfl,ho10,hb10⟩
    obtain ⟨A10,c10,rfl,hc10,hcm⟩:=own_shape ho10
    have HE2:Hid ((encQ x).length ≤ c10 ∧ c10 ≤ 9223372036854775807 ∧ Rn w10 .u8 A10 (encQ x) ∧ Upd No w w10 ∧ ∀ ad,A10 = some ad → w.heap.size ≤ ad.block):=hid ⟨hc10,by simpa [maxLen] using hcm,Rd.of_own ho10,HW.out.upd.next (Upd.of_below No hb10),fun ad e => by have h1:=(ho10.lt ad.block (by simp [Value.ownBlock,e])).1; have h2:=HW.out.upd.size; omega⟩
    clear ho10 hb10 hc10 hcm HBy
    go_wp2
    go_ret
    exact .of ⟨A10,c10,rfl,HE2.out⟩
end Nd
end
section
namespace Ac
open Go.RowKit B Cm Cw Cr Lt Lc Pk Ou
structure Am where
 jn:Jn.S
 inb:List L
 out:Om
 tries:Nat
 poi:List L
def Fit (xs:List L):Prop:=xs.length ≤ 8 ∧ ∀ x ∈ xs,formed x = true ∧ Wf x
structure Am.ok (B:Int) (a:Am):Prop where
 jo:Jn.Ok a.jn
 jr:Jn.Rg a.jn
 j16:a.jn.2.1.length ≤ 16
 jv:(a.jn.2.1.length:Int) ≤ a.jn.2.2
 jt:a.jn.2.2 ≤ 1000000000
 inb:Fit a.inb
 out:a.out.ok B
 tr:a.tries < 3 ∧ (0 < a.tries → a.inb ≠ [])
 poi:Fit a.poi
def fresh (k:ByteArray):Am:=⟨Jn.s0,[],newO k,0,[]⟩
def freshB (a:Am):Bool:=decide (a.jn.2.2 = 0) && (decide (a.inb.length = 0) && ((decide (a.out.ser.length = 0) && decide (a.out.lst.length = 0)) && (decide (a.tries = 0) && decide (a.poi.length = 0))))
def encA (a:Am):List Int:=num a.tries ++ (txl (Jn.encJ a.jn) ++ (txl (packL a.inb) ++ (txl (encO a.out) ++ txl (packL a.poi))))
theorem fit_nil:Fit []:=⟨by simp,by simp⟩
theorem rg0:Jn.Rg Jn.s0:=⟨by simp [Jn.s0],fun x hx => by
 simp only [Jn.s0,List.mem_cons,List.not_mem_nil,or_false,or_self] at hx
 subst hx
 unfold Jn.I64
 omega,fun e he => by simp [Jn.s0] at he⟩
theorem fresh_ok {k:ByteArray} (h:Kk k):(fresh k).ok 0:=⟨Jn.Ok.s0,rg0,by simp [fresh,Jn.s0],by simp [fresh,Jn.s0],by simp [fresh,Jn.s0],fit_nil,newO_ok h,by simp [fresh],fit_nil⟩
theorem Am.ok.mono {B C:Int} {a:Am} (h:a.ok B) (hc:B ≤ C):a.ok C:=⟨h.jo,h.jr,h.j16,h.jv,h.jt,h.inb,h.out.mono hc,h.tr,h.poi⟩
theorem pack_le {xs:List L} (h:Fit xs):(packL xs).length ≤ 910:=by
 unfold packL
 split
 · have h1:∀ ys:List L,(∀ y ∈ ys,formed y = true) → (pkb ys).length ≤ 112 * ys.length:=fun ys => by
    induction ys with
    | nil => intro _; simp [pkb]
    | cons y r ih =>
     intro hy
     have e:pkb (y :: r) = lb y ++ pkb r:=by simp [pkb]
     have h1:=ih fun z hz => hy z (by simp [hz])
     have h2:=lb_small (hy y (by simp))
     rw [e]
     simp only [List.length_append,List.length_cons]
     omega
   have h2:=h1 xs fun y hy => (h.2 y hy).1
   have h3:=(num_length (xs.length:Int)).2
   have h4:=h.1
   simp only [List.length_append]
   omega
 · simp
theorem pack_byte {xs:List L} (h:Fit xs):Byte (packL xs):=by
 unfold packL pkb
 split
 · exact Byte.append (num_b _ (by omega)) (flat_byte _ _ fun x hx => Ou.lb_byte x (h.2 x hx).2)
 · intro c hc; cases hc
theorem dec_pack {xs:List L} (h:Fit xs):Iw.decI (packL xs) = some xs ∧ unpL (packL xs) = (xs,0):=by
 have e:=Pk.unp_pack xs h.2 (by have:=h.1; omega)
 refine ⟨?_,e⟩
 unfold Iw.decI
 rw [e,if_pos ⟨rfl,h.1⟩]
theorem encJ_small {a:Am} {B:Int} (h:a.ok B):(Jn.encJ a.jn).length ≤ 378:=by
 have:=Jn.encJ_le a.jn h.jo.b8
 have:=h.j16
 omega
theorem encA_le {a:Am} {B:Int} (h:a.ok B):(encA a).length ≤ 11600:=by
 have h1:=(num_length (a.tries:Int)).2
 have h2:=txl_le (Jn.encJ a.jn)
 have h3:=txl_le (packL a.inb)
 have h4:=txl_le (encO a.out)
 have h5:=txl_le (packL a.poi)
 have h6:=encJ_small h
 have h7:=pack_le h.inb
 have h8:=encO_le h.out
 have h9:=pack_le h.poi
 simp only [encA,List.length_append]
 omega
theorem encA_byte {a:Am} {B:Int} (h:a.ok B):Byte (encA a):=
 Byte.append (num_b _ (by omega)) (Byte.append (txl_byte (Jn.encJ_byte h.jo h.jr)) (Byte.append (txl_byte (pack_byte h.inb)) (Byte.append (txl_byte (encO_byte h.out)) (txl_byte (pack_byte h.poi)))))
end Ac
end
