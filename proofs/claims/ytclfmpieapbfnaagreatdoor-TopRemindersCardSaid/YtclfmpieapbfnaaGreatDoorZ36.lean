/-
  Part 36 of the proof of the statement that the last part ends in: lemmas, no conditions of their own.
-/
import Derived.Test.YtclfmpieapbfnaaGreatDoorZ32
import Derived.Test.YtclfmpieapbfnaaGreatDoorZ23
import Derived.Test.YtclfmpieapbfnaaGreatDoorZ02
import Derived.Test.YtclfmpieapbfnaaGreatDoorZ33
set_option linter.unusedVariables false
set_option linter.unusedSimpArgs false
section
namespace Go.Proofs.YtclfmpieapbfnaaGreatDoor.Nd
open Go.RowKit B Cm Cw Cr
theorem uz_zz (n:Int):uz (zz n) = n:=by unfold uz zz; split <;> split <;> omega
theorem back_num (n:Int) (r:List Int) (h0:0 ≤ n) (h1:n ≤ 18446744073709551615):stN (num n ++ r) false = (n,r,false):=by
 unfold stN
 rw [Cp.rdNum_num n r h0 h1]
theorem back_text (s:ByteArray) (r:List Int) (hs:s.size ≤ 18446744073709551615):stT (num s.size ++ sb s ++ r) false = (sb s,r,false):=by
 unfold stT
 rw [List.append_assoc,back_num s.size (sb s ++ r) (by omega) (by omega)]
 have hl:=sb_length s
 simp only [Bool.false_eq_true,if_false]
 rw [if_neg (by rw [List.length_append]; omega)]
 have e:((s.size:Int)).toNat = (sb s).length:=by omega
 rw [e,List.take_left,List.drop_left]
theorem sb_str (s:ByteArray):strOfNums (sb s) = s:=by
 apply ByteArray.ext
 apply Array.toList_inj.1
 simp only [strOfNums,sb,List.map_map]
 have:(s.data.toList.map ((fun n:Int => UInt8.ofNat n.toNat) ∘ fun b:UInt8 => (b.toNat:Int))) = s.data.toList:=by
  conv => rhs; rw [← List.map_id s.data.toList]
  exact List.map_congr_left fun b _ => by simp
 simpa using this
theorem stN_only {l r:List Int} {n:Int} (hb:Byte l) (h:stN l false = (n,r,false)):l = num n ++ r ∧ Byte r ∧ 0 ≤ n ∧ n ≤ 18446744073709551615:=by
 have hr:=stN_range l false hb
 rw [h] at hr
 unfold stN at h
 rcases hq:rdNum l with _ | ⟨n',r'⟩
 · rw [hq] at h
   simp at h
 · rw [hq] at h
   simp only [Prod.mk.injEq,and_true] at h
   obtain ⟨rfl,rfl⟩:=h
   have e:=Cp.rdNum_only l n' r' hb hq
   exact ⟨e,fun c hc => hb c (by rw [e]; exact List.mem_append_right _ hc),hr.1,hr.2⟩
theorem sb_strOf (t:List Int) (hb:Byte t):sb (strOfNums t) = t:=by
 simp only [sb,strOfNums,List.map_map]
 conv => rhs; rw [← List.map_id t]
 exact List.map_congr_left fun b hbm => by
  have:=hb b hbm
  simp
  omega
theorem stT_only {l r t:List Int} (hb:Byte l) (h:stT l false = (t,r,false)):l = num (strOfNums t).size ++ sb (strOfNums t) ++ r ∧ Byte r:=by
 unfold stT at h
 obtain ⟨n,r1,b1,e⟩:∃ n r1 b1,stN l false = (n,r1,b1):=⟨_,_,_,rfl⟩
 rw [e] at h
 simp only at h
 rcases b1 with _ | _
 · simp only [Bool.false_eq_true,if_false] at h
   obtain ⟨h1,h2,h3,h4⟩:=stN_only hb e
   by_cases h5:(r1.length:Int) < n
   · rw [if_pos h5] at h
     simp at h
   · rw [if_neg h5] at h
     simp only [Prod.mk.injEq,and_true] at h
     obtain ⟨rfl,rfl⟩:=h
     have hs:=strOfNums_size (r1.take n.toNat)
     rw [List.length_take] at hs
     have hn:((strOfNums (r1.take n.toNat)).size:Int) = n:=by omega
     refine ⟨?_,fun c hc => h2 c (List.mem_of_mem_drop hc)⟩
     rw [hn,sb_strOf _ fun c hc => h2 c (List.mem_of_mem_take hc),List.append_assoc,List.take_append_drop]
     exact h1
 · simp at h
theorem zz_uz (n:Int) (h:0 ≤ n):Cw.zz (uz n) = n:=by unfold uz Cw.zz; split <;> split <;> omega
theorem uz_in (n:Int) (h0:0 ≤ n) (h1:n ≤ 18446744073709551615):-9223372036854775808 ≤ uz n ∧ uz n ≤ 9223372036854775807:=by unfold uz; split <;> omega
theorem stN_true (l:List Int):(stN l true).2.2 = true:=by
 unfold stN
 split <;> rfl
theorem stN_good {l r:List Int} {n:Int} {b:Bool} (h:stN l b = (n,r,false)):b = false:=by
 rcases b with _ | _
 · rfl
 · have:=stN_true l
   rw [h] at this
   cases this
theorem stT_good {l r t:List Int} {b:Bool} (h:stT l b = (t,r,false)):b = false:=by
 cases b with
 | false => rfl
 | true =>
  unfold stT at h
  rw [stN_true l] at h
  simp at h
def encR (r:Rm):List Int:=num r.actor.size ++ sb r.actor ++ (num r.name.size ++ sb r.name ++ (num (zz r.due) ++ (num (zz r.per) ++ num (zz r.kind))))
def encQ (l:List Rm):List Int:=num l.length ++ l.flatMap encR
def rdR (l:List Int) (b:Bool):Rm × List Int × Bool:=
 let q1:=stT l b
 let q2:=stT q1.2.1 q1.2.2
 let q3:=stN q2.2.1 q2.2.2
 let q4:=stN q3.2.1 q3.2.2
 let q5:=stN q4.2.1 q4.2.2
 (⟨strOfNums q1.1,strOfNums q2.1,uz q3.1,uz q4.1,uz q5.1⟩,q5.2.1,q5.2.2)
def goodR (x:List Rm) (r:Rm):Bool:=decide (wrongR r = 0) && !has r.actor r.name x && (match x.getLast? with
 | none => true
 | some y => less y r)
def rdQ:Nat → List Rm → List Int → Option (List Rm × List Int)
 | 0,x,l => some (x,l)
 | n + 1,x,l => if (rdR l false).2.2 = false ∧ goodR x (rdR l false).1 = true then rdQ n (x ++ [(rdR l false).1]) (rdR l false).2.1 else none
def fin:Option (List Rm × List Int) → Option (List Rm)
 | some (x,[]) => some x
 | _ => none
def decQ (l:List Int):Option (List Rm):=match rdNum l with
 | none => none
 | some (n,r) => if n ≤ 64 then fin (rdQ n.toNat [] r) else none
theorem rdR_put {r:Rm} (ha:r.actor.size ≤ 40) (hn:r.name.size ≤ 40) (hr:I64 r.due ∧ I64 r.per ∧ I64 r.kind) (rest:List Int):rdR (encR r ++ rest) false = (r,rest,false):=by
 have e:encR r ++ rest = num r.actor.size ++ sb r.actor ++ (num r.name.size ++ sb r.name ++ (num (zz r.due) ++ (num (zz r.per) ++ (num (zz r.kind) ++ rest)))):=by simp [encR]
 obtain ⟨hd,hp,hk⟩:=hr
 unfold I64 at hd hp hk
 have z1:=zz_range r.due hd.1 hd.2
 have z2:=zz_range r.per hp.1 hp.2
 have z3:=zz_range r.kind hk.1 hk.2
 rw [e]
 unfold rdR
 rw [back_text _ _ (by omega)]
 simp only
 rw [back_text _ _ (by omega)]
 simp only
 rw [back_num _ _ z1.1 z1.2]
 simp only
 rw [back_num _ _ z2.1 z2.2]
 simp only
 rw [back_num _ _ z3.1 z3.2]
 simp only [sb_str,uz_zz]
theorem rdR_only {l rest:List Int} {r:Rm} (hb:Byte l) (h:rdR l false = (r,rest,false)):l = encR r ++ rest ∧ Byte rest ∧ I64 r.due ∧ I64 r.per ∧ I64 r.kind:=by
 unfold rdR at h
 obtain ⟨t1,l1,b1,e1⟩:∃ t l' b',stT l false = (t,l',b'):=⟨_,_,_,rfl⟩
 obtain ⟨t2,l2,b2,e2⟩:∃ t l' b',stT l1 b1 = (t,l',b'):=⟨_,_,_,rfl⟩
 obtain ⟨n3,l3,b3,e3⟩:∃ t l' b',stN l2 b2 = (t,l',b'):=⟨_,_,_,rfl⟩
 obtain ⟨n4,l4,b4,e4⟩:∃ t l' b',stN l3 b3 = (t,l',b'):=⟨_,_,_,rfl⟩
 obtain ⟨n5,l5,b5,e5⟩:∃ t l' b',stN l4 b4 = (t,l',b'):=⟨_,_,_,rfl⟩
 rw [e1] at h
 simp only at h
 rw [e2] at h
 simp only at h
 rw [e3] at h
 simp only at h
 rw [e4] at h
 simp only at h
 rw [e5] at h
 simp only [Prod.mk.injEq] at h
 obtain ⟨rfl,rfl,rfl⟩:=h
 obtain rfl:=stN_good e5
 obtain rfl:=stN_good e4
 obtain rfl:=stN_good e3
 obtain rfl:=stT_good e2
 obtain ⟨f1,g1⟩:=stT_only hb e1
 obtain ⟨f2,g2⟩:=stT_only g1 e2
 obtain ⟨f3,g3,p3,q3⟩:=stN_only g2 e3
 obtain ⟨f4,g4,p4,q4⟩:=stN_only g3 e4
 obtain ⟨f5,g5,p5,q5⟩:=stN_only g4 e5
 refine ⟨?_,g5,uz_in n3 p3 q3,uz_in n4 p4 q4,uz_in n5 p5 q5⟩
 unfold encR
 simp only
 rw [zz_uz n3 p3,zz_uz n4 p4,zz_uz n5 p5,f1,f2,f3,f4,f5]
 simp
theorem Inv.snoc {x:List Rm} {r:Rm} (h:Inv x) (hg:goodR x r = true) (hr:I64 r.due ∧ I64 r.per ∧ I64 r.kind) (hl:x.length < 64):Inv (x ++ [r]):=by
 unfold goodR at hg
 simp only [Bool.and_eq_true,decide_eq_true_eq,Bool.not_eq_true'] at hg
 obtain ⟨⟨hw,hh⟩,hlast⟩:=hg
 have hall:∀ a ∈ x,less a r = true:=fun a ha => by
  have hne:x ≠ []:=fun e => by rw [e] at ha; cases ha
  rw [List.getLast?_eq_some_getLast hne] at hlast
  simp only at hlast
  have e:=List.dropLast_concat_getLast hne
  have hs:=h.srt
  rw [← e,List.pairwise_append] at hs
  rw [← e] at ha
  rcases List.mem_append.1 ha with ha | ha
  · exact less_trans (hs.2.2 a ha _ (List.mem_singleton.2 rfl)) hlast
  · rw [List.mem_singleton.1 ha]
    exact hlast
 refine ⟨?_,?_,by simp; omega,fun y hy => ?_⟩
 · rw [List.pairwise_append]
   exact ⟨h.srt,by simp,fun a ha b hb => by rw [List.mem_singleton.1 hb]; exact hall a ha⟩
 · rw [List.pairwise_append]
   exact ⟨h.unq,by simp,fun a ha b hb => by rw [List.mem_singleton.1 hb]; exact has_false hh ha⟩
 · rcases List.mem_append.1 hy with hy | hy
   · exact h.ok y hy
   · rw [List.mem_singleton.1 hy]
     exact ⟨hw,hr.1,hr.2.1,hr.2.2⟩
theorem Inv.good {x:List Rm} {r:Rm} (h:Inv (x ++ [r])):goodR x r = true:=by
 unfold goodR
 simp only [Bool.and_eq_true,decide_eq_true_eq,Bool.not_eq_true']
 have hs:=h.srt
 have hu:=h.unq
 rw [List.pairwise_append] at hs hu
 refine ⟨⟨(h.ok r (by simp)).w,?_⟩,?_⟩
 · unfold has
   rw [List.any_eq_false]
   intro y hy
   rw [hu.2.2 y hy r (by simp)]
   simp
 · rcases hx:x.getLast? with _ | y
   · rfl
   · exact hs.2.2 y (List.mem_of_getLast? hx) r (by simp)
theorem rdQ_put (rest:List Int):∀ (t x:List Rm),Inv (x ++ t) → rdQ t.length x (t.flatMap encR ++ rest) = some (x ++ t,rest):=by
 intro t
 induction t with
 | nil => intro x _; simp [rdQ]
 | cons r t ih =>
  intro x h
  have e:(r :: t).flatMap encR ++ rest = encR r ++ (t.flatMap encR ++ rest):=by simp
  have ho:=h.ok r (by simp)
  have hor:=ho.r
  have h2:Inv ((x ++ [r]) ++ t):=by simpa using h
  have h1:Inv (x ++ [r]):=h2.sub (List.sublist_append_left _ _)
  rw [e,List.length_cons,rdQ,rdR_put hor.2.2.2.1 hor.2.2.2.2 ⟨ho.d,ho.p,ho.k⟩,if_pos ⟨rfl,h1.good⟩,ih _ h2]
  simp
theorem dec_enc {l:List Rm} (h:Inv l):decQ (encQ l) = some l:=by
 have hl:=h.len
 have hp:=rdQ_put [] l [] (by simpa using h)
 rw [List.append_nil,List.nil_append] at hp
 unfold decQ encQ
 rw [Cp.rdNum_num (l.length:Int) _ (by omega) (by omega)]
 simp only [Int.toNat_natCast]
 rw [if_pos (by omega),hp]
 rfl
theorem encR_le {r:Rm} (h:Okr r):(encR r).length ≤ 125:=by
 have hr:=h.r
 have h1:=(num_length r.actor.size).2
 have h2:=(num_length r.name.size).2
 have h3:=(num_length (zz r.due)).2
 have h4:=(num_length (zz r.per)).2
 have h5:=(num_length (zz r.kind)).2
 have h6:=sb_length r.actor
 have h7:=sb_length r.name
 simp only [encR,List.length_append]
 omega
theorem encQ_take_le {l:List Rm} (h:Inv l) (j:Nat):((l.take j).flatMap encR).length ≤ 8000:=by
 have hh:∀ y:List Rm,(∀ r ∈ y,Okr r) → (y.flatMap encR).length ≤ 125 * y.length:=by
  intro y
  induction y with
  | nil => simp
  | cons a t ih =>
   intro hy
   have:=encR_le (hy a List.mem_cons_self)
   have:=ih fun e he => hy e (List.mem_cons_of_mem _ he)
   simp only [List.flatMap_cons,List.length_append,List.length_cons]
   omega
 have h1:=hh (l.take j) fun r hr => h.ok r (List.mem_of_mem_take hr)
 have h2:(l.take j).length ≤ 64:=by
  have:=h.len
  rw [List.length_take]
  omega
 omega
theorem sb_byte (s:ByteArray):Byte (sb s):=by
 intro c hc
 simp only [sb,List.mem_map] at hc
 obtain ⟨b,_,rfl⟩:=hc
 have:=b.toNat_lt
 omega
theorem encQ_byte {l:List Rm} (h:Inv l):Byte (encQ l):=by
 intro c hc
 unfold encQ at hc
 rcases List.mem_append.1 hc with hc | hc
 · exact Cp.num_byte _ (by omega) c hc
 · obtain ⟨r,hr,hc⟩:=List.mem_flatMap.1 hc
   have ho:=h.ok r hr
   have z1:=zz_range r.due ho.d.1 ho.d.2
   have z2:=zz_range r.per ho.p.1 ho.p.2
   have z3:=zz_range r.kind ho.k.1 ho.k.2
   simp only [encR,List.mem_append] at hc
   rcases hc with (hc | hc) | (hc | hc) | hc | hc | hc
   · exact Cp.num_byte _ (by omega) c hc
   · exact sb_byte _ c hc
   · exact Cp.num_byte _ (by omega) c hc
   · exact sb_byte _ c hc
   · exact Cp.num_byte _ z1.1 c hc
   · exact Cp.num_byte _ z2.1 c hc
   · exact Cp.num_byte _ z3.1 c hc
end Go.Proofs.YtclfmpieapbfnaaGreatDoor.Nd
end
section
namespace Go.Proofs.YtclfmpieapbfnaaGreatDoor.Ou
open Go.RowKit B Cm Cw Cr Lt Lc Nd
abbrev Oe:=ByteArray × L
structure Om where
 own:ByteArray
 lst:List Oe
 ser:List (ByteArray × Int)
def Kk (k:ByteArray):Prop:=1 ≤ k.size ∧ k.size ≤ 40
def at_ (s:List (ByteArray × Int)) (k:ByteArray):Option Int:=(s.find? fun e => decide (e.1 = k)).map (·.2)
def num0 (s:List (ByteArray × Int)) (k:ByteArray):Int:=(at_ s k).getD 0
def wt (l:List Oe) (k:ByteArray):Nat:=l.countP fun x => decide (x.1 = k)
def Ord (s:List (ByteArray × Int)):List Oe → Prop
 | [] => True
 | x :: r => (wt (x :: r) x.1:Int) ≤ num0 s x.1 ∧ x.2.2.1 = num0 s x.1 - wt (x :: r) x.1 + 1 ∧ Ord s r
structure Om.ok (B:Int) (m:Om):Prop where
 key:Kk m.own
 srt:m.ser.Pairwise fun a b => bl a.1 b.1 = true
 serk:∀ e ∈ m.ser,Kk e.1 ∧ 1 ≤ e.2 ∧ e.2 ≤ B
 many:m.ser.length ≤ 64
 few:m.lst.length ≤ 32
 each:∀ x ∈ m.lst,Kk x.1 ∧ formed x.2 = true ∧ Wf x.2 ∧ x.2.1 = m.own
 ord:Ord m.ser m.lst
def txt (s:ByteArray):List Int:=num s.size ++ sb s
def txl (l:List Int):List Int:=num l.length ++ l
def serb (s:List (ByteArray × Int)):List Int:=s.flatMap fun e => txt e.1 ++ num e.2
def outb (l:List Oe):List Int:=l.flatMap fun x => txt x.1 ++ txl (lb x.2)
def encO (m:Om):List Int:=txt m.own ++ (num m.ser.length ++ (serb m.ser ++ (num m.lst.length ++ outb m.lst)))
theorem txt_le (s:ByteArray):(txt s).length ≤ s.size + 9:=by
 have h1:=(num_length (s.size:Int)).2
 have h2:=sb_length s
 simp only [txt,List.length_append]
 omega
theorem txl_le (l:List Int):(txl l).length ≤ l.length + 9:=by
 have h1:=(num_length (l.length:Int)).2
 simp only [txl,List.length_append]
 omega
theorem serb_le (s:List (ByteArray × Int)) (h:∀ e ∈ s,Kk e.1):(serb s).length ≤ 58 * s.length:=by
 induction s with
 | nil => simp [serb]
 | cons e r ih =>
  have h1:=ih fun x hx => h x (by simp [hx])
  have h2:=txt_le e.1
  have h3:=(num_length e.2).2
  have h4:=(h e (by simp)).2
  have e1:serb (e :: r) = (txt e.1 ++ num e.2) ++ serb r:=by simp [serb]
  rw [e1]
  simp only [List.length_append,List.length_cons]
  omega
theorem lb_small {x:L} (h:formed x = true):(lb x).length ≤ 112:=by
 have h1:=lb_le x
 have h2:=formed_le h
 omega
theorem outb_le (l:List Oe) (h:∀ x ∈ l,Kk x.1 ∧ formed x.2 = true):(outb l).length ≤ 170 * l.length:=by
 induction l with
 | nil => simp [outb]
 | cons x r ih =>
  have h1:=ih fun y hy => h y (by simp [hy])
  have h2:=txt_le x.1
  have h3:=txl_le (lb x.2)
  have h4:=h x (by simp)
  have h5:=lb_small h4.2
  have h6:=h4.1.2
  have e1:outb (x :: r) = (txt x.1 ++ txl (lb x.2)) ++ outb r:=by simp [outb]
  rw [e1]
  simp only [List.length_append,List.length_cons]
  omega
theorem encO_le {B:Int} {m:Om} (h:m.ok B):(encO m).length ≤ 9300:=by
 have h1:=serb_le m.ser fun e he => (h.serk e he).1
 have h2:=outb_le m.lst fun x hx => ⟨(h.each x hx).1,(h.each x hx).2.1⟩
 have h3:=txt_le m.own
 have h4:=(num_length (m.ser.length:Int)).2
 have h5:=(num_length (m.lst.length:Int)).2
 have h6:=h.key.2
 have h7:=h.many
 have h8:=h.few
 simp only [encO,List.length_append]
 omega
theorem sb_byte (s:ByteArray):Byte (sb s):=by
 intro c hc
 simp only [sb,List.mem_map] at hc
 obtain ⟨b,_,rfl⟩:=hc
 have:=b.toNat_lt
 omega
theorem Byte.append {a b:List Int} (h1:Byte a) (h2:Byte b):Byte (a ++ b):=fun c hc => (List.mem_append.1 hc).elim (h1 c) (h2 c)
theorem num_b (n:Int) (h:0 ≤ n):Byte (num n):=Cp.num_byte n h
theorem txt_byte (s:ByteArray):Byte (txt s):=Byte.append (num_b _ (by omega)) (sb_byte s)
theorem txl_byte {l:List Int} (h:Byte l):Byte (txl l):=Byte.append (num_b _ (by omega)) h
theorem flat_byte {α:Type} (f:α → List Int) (l:List α) (h:∀ x ∈ l,Byte (f x)):Byte (l.flatMap f):=by
 intro c hc
 obtain ⟨x,hx,hc⟩:=List.mem_flatMap.1 hc
 exact h x hx c hc
theorem zz_pos (n:Int):0 ≤ zz n:=by unfold zz; split <;> omega
theorem lb_byte (x:L) (hw:Wf x):Byte (lb x):=by
 unfold lb hb ints
 exact Byte.append (Byte.append (Byte.append (Byte.append (Byte.append (num_b _ (by omega)) (sb_byte _)) (num_b _ hw.u.1)) (num_b _ (zz_pos _))) (num_b _ (by omega))) (flat_byte _ _ fun z _ => num_b _ (zz_pos _))
theorem encO_byte {B:Int} {m:Om} (h:m.ok B):Byte (encO m):=by
 unfold encO serb outb
 refine Byte.append (txt_byte _) (Byte.append (num_b _ (by omega)) (Byte.append (flat_byte _ _ fun e he => Byte.append (txt_byte _) (num_b _ ?_)) (Byte.append (num_b _ (by omega)) (flat_byte _ _ fun x hx => Byte.append (txt_byte _) (txl_byte (lb_byte _ (h.each x hx).2.2.1))))))
 have:=(h.serk e he).2.1
 omega
theorem back_txt (s:ByteArray) (r:List Int) (hs:s.size ≤ 18446744073709551615):stT (txt s ++ r) false = (sb s,r,false):=back_text s r hs
theorem back_txl {l:List Int} (hl:l.length ≤ 18446744073709551615) (r:List Int):stT (txl l ++ r) false = (l,r,false):=by
 unfold stT txl
 rw [List.append_assoc,back_num _ _ (by omega) (by omega)]
 simp only [Bool.false_eq_true,if_false]
 rw [if_neg (by rw [List.length_append]; omega),Int.toNat_natCast,List.take_left,List.drop_left]
theorem serb_drop (s:List (ByteArray × Int)) {j:Nat} (hj:j < s.length):serb (s.drop j) = txt s[j].1 ++ (num s[j].2 ++ serb (s.drop (j + 1))):=by
 unfold serb
 rw [List.drop_eq_getElem_cons hj,List.flatMap_cons,List.append_assoc]
theorem outb_drop (l:List Oe) {j:Nat} (hj:j < l.length):outb (l.drop j) = txt l[j].1 ++ (txl (lb l[j].2) ++ outb (l.drop (j + 1))):=by
 unfold outb
 rw [List.drop_eq_getElem_cons hj,List.flatMap_cons,List.append_assoc]
theorem at_none {s:List (ByteArray × Int)} {k:ByteArray}:at_ s k = none ↔ ∀ e ∈ s,e.1 ≠ k:=by
 unfold at_
 rw [Option.map_eq_none_iff,List.find?_eq_none]
 simp
theorem at_mem {s:List (ByteArray × Int)} {k:ByteArray} {n:Int} (h:at_ s k = some n):(k,n) ∈ s:=by
 unfold at_ at h
 obtain ⟨e,he,rfl⟩:=Option.map_eq_some_iff.1 h
 have h1:=List.mem_of_find?_eq_some he
 have h2:=List.find?_some he
 simp only [decide_eq_true_eq] at h2
 subst h2
 exact h1
theorem srt_nd {s:List (ByteArray × Int)} (h:s.Pairwise fun a b => bl a.1 b.1 = true):s.Pairwise fun a b => a.1 ≠ b.1:=
 h.imp fun {a b} hab e => by
  rw [e,bl_irrefl] at hab
  cases hab
theorem at_of_mem {s:List (ByteArray × Int)} (h:s.Pairwise fun a b => a.1 ≠ b.1) {k:ByteArray} {n:Int} (hm:(k,n) ∈ s):at_ s k = some n:=by
 induction s with
 | nil => cases hm
 | cons e r ih =>
  rw [List.pairwise_cons] at h
  unfold at_
  rcases List.mem_cons.1 hm with hm | hm
  · subst hm
    simp
  · have hne:e.1 ≠ k:=h.1 (k,n) hm
    rw [List.find?_cons_of_neg (by simpa using hne)]
    exact ih h.2 hm
theorem wt_app (l:List Oe) (x:Oe) (k:ByteArray):wt (l ++ [x]) k = wt l k + if x.1 = k then 1 else 0:=by
 simp only [wt,List.countP_append,List.countP_cons,List.countP_nil,decide_eq_true_eq,Nat.zero_add]
theorem wt_cons (l:List Oe) (x:Oe) (k:ByteArray):wt (x :: l) k = wt l k + if x.1 = k then 1 else 0:=by
 simp only [wt,List.countP_cons,decide_eq_true_eq]
theorem num0_ge {B:Int} {m:Om} (h:m.ok B) (k:ByteArray):0 ≤ num0 m.ser k ∧ (num0 m.ser k ≤ B ∨ num0 m.ser k = 0):=by
 unfold num0
 rcases hk:at_ m.ser k with _ | n
 · exact ⟨by simp,.inr rfl⟩
 · have:=h.serk _ (at_mem hk)
   exact ⟨by simp only [Option.getD_some]; omega,.inl this.2.2⟩
theorem Om.ok.mono {B C:Int} {m:Om} (h:m.ok B) (hc:B ≤ C):m.ok C:=⟨h.key,h.srt,fun e he => ⟨(h.serk e he).1,(h.serk e he).2.1,Int.le_trans (h.serk e he).2.2 hc⟩,h.many,h.few,h.each,h.ord⟩
def newO (k:ByteArray):Om:=⟨k,[],[]⟩
theorem newO_ok {k:ByteArray} (h:Kk k):(newO k).ok 0:=⟨h,by simp [newO],by simp [newO],by simp [newO],by simp [newO],by simp [newO],trivial⟩
end Go.Proofs.YtclfmpieapbfnaaGreatDoor.Ou
end
section
namespace Go.Proofs.YtclfmpieapbfnaaGreatDoor.Nd
open Go.RowKit B Go.Proofs.YtclfmpieapbfnaaGreatDoor.Op Cm Cw
def EnOut (w:World) (l:List Int) (e:Ending) (w':World):Prop:=∃ A c,e = .returned (.slice A l.length c) ∧ l.length ≤ c ∧ c ≤ 9223372036854775807 ∧ Rn w' .u8 A l ∧ Upd No w w' ∧ ∀ ad,A = some ad → w.heap.size ≤ ad.block
theorem EnOut.of {w:World} {l:List Int} {e:Ending} {w':World} (h:∃ A c,e = .returned (.slice A l.length c) ∧ l.length ≤ c ∧ c ≤ 9223372036854775807 ∧ Rn w' .u8 A l ∧ Upd No w w' ∧ ∀ ad,A = some ad → w.heap.size ≤ ad.block):EnOut w l e w':=h
structure Wo (w W:World) (F:Nat → Prop) (q:Nat) (bs:List Int):Prop where
 wr:Wr W F q bs
 own:∀ k,F k → w.heap.size ≤ k
 upd:Upd No w W
theorem Wo.moved {w W W':World} {F F':Nat → Prop} {q:Nat} {bs cs:List Int} (h:Wo w W F q bs) (hw:Wr W' F' q cs) (hm:Mv F F' W W'):Wo w W' F' q cs:=
 ⟨hw,fun k hk => (hm.sub k hk).elim (h.own k) fun hs => Nat.le_trans h.upd.size hs,h.upd.trans hm.upd fun i hi hf => by have:=h.own i hf; omega⟩
theorem Wo.quiet {w W W':World} {F:Nat → Prop} {q:Nat} {bs:List Int} (h:Wo w W F q bs) (hu:Upd No W W'):Wo w W' F q bs:=⟨h.wr.keep hu fun _ _ => no_ _,h.own,h.upd.next hu⟩
theorem enc_take {x:List Rm} {j:Nat} (hj:j < x.length):(x.take (j + 1)).flatMap encR = (x.take j).flatMap encR ++ encR x[j]:=by
 rw [List.take_succ_eq_append_getElem hj,List.flatMap_append]
 simp
theorem Wo.box {w W:World} {F:Nat → Prop} {q:Nat} {bs:List Int} (h:Wo w W F q bs) (o:Obj):Wo w (W.alloc o) F q bs:=h.quiet ((Upd.refl No W).alloc o)
theorem box_moved {W W':World} {G G':Nat → Prop} {p t:Nat} {cs:Array Value} (hb:Blk W p t cs ∧ ¬ G p) (hm:Mv G G' W W'):Blk W' p t cs ∧ ¬ G' p:=
 ⟨hb.1.upd hm.upd hb.2,fun hk => (hm.sub p hk).elim hb.2 (fun h1 => by have:=hb.1.lt; omega)⟩
set_option maxHeartbeats 4000000 in
set_option maxRecDepth 100000 in
theorem encode_ {w:World} {F:Nat → Prop} {q0:Nat} {x:List Rm} (h:Qo w F q0 x) (hok:Inv x) :
 Calls Tryz.prog 122 #[.pointer (some ⟨q0,0,none⟩)] w fun e w' => EnOut w (encQ x) e w':=by
 have hlx:=hok.len
 obtain ⟨A,k,hc,hrd,hk1,hk2⟩:=h.cell
 simp only [maxLen] at hk2
 have HC:Hid (∀ W,Upd No w W → W.cell? ⟨q0,0,none⟩ = some (.slice A x.length k) ∧ Rd W 5 A x.length (x.flatMap rc)):=hid fun W hu => by
  obtain ⟨A',k',hb1,_⟩:=h.parts
  have h0:=hb1.cell 0
  simp at h0
  rw [h0] at hc
  injection hc with hc
  rw [hc] at hb1
  have h1:=(hb1.upd hu (no_ _)).cell 0
  simp at h1
  exact ⟨h1,Rd.upd hrd (by omega) hu fun _ _ => no_ _⟩
 have HE:Hid (encQ x = num (x.length:Int) ++ x.flatMap encR):=hid rfl
 have HL:Hid ((∀ j,((x.take j).flatMap encR).length ≤ 8000) ∧ (num (x.length:Int)).length ≤ 9):=hid ⟨encQ_take_le hok,(num_length _).2⟩
 have HO:=hid hok
 have hwn:IntKind.u64.wrap (x.length:Int) = (x.length:Int):=by
  rw [IntKind.wrap_u64]
  omega
 clear h hok hc hrd
 go_enter Tryz.func122,Tryz.ntmps122
 go_wp2_with (fail)
 refine Calls.mono (newWriter w) ?_
 rintro e w1 ⟨rfl,rfl⟩
 have HW:Hid (∃ w1 q F1,w1 = w.alloc (.cells #[.slice none 0 0] 276) ∧ q = w.heap.size ∧ Wo w w1 F1 q []):=hid ⟨_,_,_,rfl,rfl,⟨Wr.new w,fun k hk => by omega,(Upd.refl _ _).alloc _⟩⟩
 obtain ⟨w1,q,F1,hw1,hq,hO1⟩:=HW.out
 rw [← hw1,← hq]
 have HO1:=hid hO1
 clear hw1 hq hO1 HW
 have y0:=(HC.out w1 HO1.out.upd).1
 go_wp2_with (fail)
 refine Calls.mono (number q [] (x.length:Int) F1 w1 HO1.out.wr (by omega) (by omega) (by simp)) ?_
 rintro e w2 ⟨rfl,F2,hw2,hm2⟩
 have HO2:=hid (HO1.out.moved hw2 hm2)
 rw [List.nil_append] at HO2
 clear hw2 hm2 HO1 F1 hwn y0
 have y0:=(HC.out w2 HO2.out.upd).1
 go_wp2_with (fail)
 clear y0
 go_loopw [22] (fun v22 W => ∃ (j:Nat) (F':Nat → Prop) (cs:List Int),j ≤ x.length ∧ v22 = .int .i64 j ∧ Hid (cs = num (x.length:Int) ++ (x.take j).flatMap encR) ∧ Hid (Wo w W F' q cs)) (fun v22 _ => x.length - (intOf v22).toNat)
 case atStart => exact ⟨0,F2,_,by omega,rfl,hid (by simp),HO2⟩
 case round =>
  clear HO2
  obtain ⟨j,F',cs,hj,rfl,HCs,HW⟩:=hrel
  by_cases hlt:j < x.length
  · obtain ⟨ad,rfl,hat⟩:=rm_at (HC.out wr HW.out.upd).2 hlt
    have hor:=HO.out.ok _ (List.getElem_mem hlt)
    have HT:Hid ((x.take (j + 1)).flatMap encR = (x.take j).flatMap encR ++ encR x[j]):=hid (enc_take hlt)
    generalize x[j] = r at *
    have h5:=hor.r
    have hd:=hor.d
    have hp:=hor.p
    have hk:=hor.k
    unfold I64 at hd hp hk
    obtain ⟨ra,rn,rd,rp,rk⟩:=r
    obtain ⟨x0,x1,x2,x3,x4⟩:=hat
    simp only at x0 x1 x2 x3 x4 h5 hd hp hk
    have hj1:(0:Int) ≤ (j:Int):=by omega
    have hj2:(j:Int) < (x.length:Int):=by omega
    have hb1:cs.length ≤ 9000:=by
     have h1:=HL.out.1 j
     have h2:=HL.out.2
     rw [HCs.out,List.length_append]
     omega
    have HBx:Hid (∃ W5 p5,W5 = wr.alloc (.cells #[.string ra,.string rn,.int .i64 rd,.int .i64 rp,.int .i64 rk] 71) ∧ p5 = wr.heap.size ∧ Blk W5 p5 71 #[.string ra,.string rn,.int .i64 rd,.int .i64 rp,.int .i64 rk] ∧ Wo w W5 F' q cs ∧ ¬ F' p5):=hid ⟨_,_,rfl,rfl,Blk.fresh _ _ _,HW.out.box _,fun hf => by have:=HW.out.wr.lt _ hf; omega⟩
    obtain ⟨W5,p5,hW5,hp5,hB5,hO5,hn5⟩:=HBx.out
    have hnl:∀ n:Int,(num n).length ≤ 9:=fun n => (num_length n).2
    have hsa:=sb_length ra
    have hsn:=sb_length rn
    have HN1:=hid (text_ q cs ra F' W5 hO5.wr (by omega))
    have HX5:=hid (And.intro hB5 (And.intro hO5 hn5))
    clear hB5 hO5 hn5 HBx hor
    go_wp2_with (fail)
    rw [← hW5]
    try rw [← hp5]
    clear hW5 hp5 x0 x1 x2 x3 x4
    refine Calls.mono HN1.out ?_
    rintro e w6 ⟨rfl,F6,hw6,hm6⟩
    have HB6:=hid (box_moved ⟨HX5.out.1,HX5.out.2.2⟩ hm6)
    have HO6:=hid (HX5.out.2.1.moved hw6 hm6)
    obtain ⟨y0,y1,y2,y3,y4⟩:=box5 HB6.out.1
    obtain ⟨c6,hc6⟩:∃ c6,c6 = cs ++ num ra.size ++ sb ra:=⟨_,rfl⟩
    have hl6:c6.length ≤ 9100:=by rw [hc6]; simp only [List.length_append]; have:=hnl ra.size; omega
    rw [← hc6] at HO6
    have HC6:=hid hc6
    have HN2:=hid (text_ q c6 rn F6 w6 HO6.out.wr (by omega))
    clear hw6 hm6 HN1 hc6 HX5
    go_wp2_with (fail)
    refine Calls.mono HN2.out ?_
    rintro e w7 ⟨rfl,F7,hw7,hm7⟩
    have HB7:=hid (box_moved HB6.out hm7)
    have HO7:=hid (HO6.out.moved hw7 hm7)
    clear y0 y1 y2 y3 y4
    obtain ⟨y0,y1,y2,y3,y4⟩:=box5 HB7.out.1
    obtain ⟨c7,hc7⟩:∃ c7,c7 = c6 ++ num rn.size ++ sb rn:=⟨_,rfl⟩
    have hl7:c7.length ≤ 9200:=by rw [hc7]; simp only [List.length_append]; have:=hnl rn.size; omega
    rw [← hc7] at HO7
    have HC7:=hid hc7
    have HN3:=hid (int_ q c7 rd F7 w7 HO7.out.wr hd.1 hd.2 (by omega))
    clear hw7 hm7 HN2 hc7 HB6 HO6
    go_wp2_with (fail)
    refine Calls.mono HN3.out ?_
    rintro e w8 ⟨rfl,F8,hw8,hm8⟩
    have HB8:=hid (box_moved HB7.out hm8)
    have HO8:=hid (HO7.out.moved hw8 hm8)
    clear y0 y1 y2 y3 y4
    obtain ⟨y0,y1,y2,y3,y4⟩:=box5 HB8.out.1
    obtain ⟨c8,hc8⟩:∃ c8,c8 = c7 ++ num (zz rd):=⟨_,rfl⟩
    have hl8:c8.length ≤ 9300:=by rw [hc8]; simp only [List.length_append]; have:=hnl (zz rd); omega
    rw [← hc8] at HO8
    have HC8:=hid hc8
    have HN4:=hid (int_ q c8 rp F8 w8 HO8.out.wr hp.1 hp.2 (by omega))
    clear hw8 hm8 HN3 hc8 HB7 HO7
    go_wp2_with (fail)
    refine Calls.mono HN4.out ?_
    rintro e w9 ⟨rfl,F9,hw9,hm9⟩
    have HB9:=hid (box_moved HB8.out hm9)
    have HO9:=hid (HO8.out.moved hw9 hm9)
    clear y0 y1 y2 y3 y4
    obtain ⟨y0,y1,y2,y3,y4⟩:=box5 HB9.out.1
    obtain ⟨c9,hc9⟩:∃ c9,c9 = c8 ++ num (zz rp):=⟨_,rfl⟩
    have hl9:c9.length ≤ 9400:=by rw [hc9]; simp only [List.length_append]; have:=hnl (zz rp); omega
    rw [← hc9] at HO9
    have HC9:=hid hc9
    have HN5:=hid (int_ q c9 rk F9 w9 HO9.out.wr hk.1 hk.2 (by omega))
    clear hw9 hm9 HN4 hc9 HB8 HO8
    go_wp2_with (fail)
    refine Calls.mono HN5.out ?_
    rintro e w10 ⟨rfl,F10,hw10,hm10⟩
    have HO10:=hid (HO9.out.moved hw10 hm10)
    have HD:=hid (show c9 ++ num (zz rk) = num (x.length:Int) ++ (x.take (j + 1)).flatMap encR by
     rw [HC9.out,HC8.out,HC7.out,HC6.out,HCs.out,HT.out]
     simp [encR])
    generalize c9 ++ num (zz rk) = c10 at *
    clear hw10 hm10 HN5 HB9 HO9 y0 y1 y2 y3 y4
    go_wp2
    go_roundw
    case rel => exact ⟨j + 1,F10,c10,by omega,by go_num,HD,HO10⟩
    case measure => simp [intOf]; omega
  · obtain rfl:j = x.length:=by omega
    have e:cs = encQ x:=by rw [HCs.out,HE.out,List.take_length]
    subst e
    have hlen:(encQ x).length ≤ 9000:=by
     have h1:=HL.out.1 x.length
     rw [List.take_length] at h1
     have h2:=HL.out.2
     rw [HE.out,List.length_append]
     omega
    have HBy:=hid (bytes_ q (encQ x) F' wr HW.out.wr (by omega))
    clear hlen HCs
    go_wp2_with (fail)
    refine Calls.mono HBy.out ?_
    rintro e w10 ⟨v,rfl,ho10,hb10⟩
    obtain ⟨A10,c10,rfl,hc10,hcm⟩:=own_shape ho10
    have HE2:Hid ((encQ x).length ≤ c10 ∧ c10 ≤ 9223372036854775807 ∧ Rn w10 .u8 A10 (encQ x) ∧ Upd No w w10 ∧ ∀ ad,A10 = some ad → w.heap.size ≤ ad.block):=hid ⟨hc10,by simpa [maxLen] using hcm,Rd.of_own ho10,HW.out.upd.next (Upd.of_below No hb10),fun ad e => by have h1:=(ho10.lt ad.block (by simp [Value.ownBlock,e])).1; have h2:=HW.out.upd.size; omega⟩
    clear ho10 hb10 hc10 hcm HBy
    go_wp2
    go_ret
    exact .of ⟨A10,c10,rfl,HE2.out⟩
end Go.Proofs.YtclfmpieapbfnaaGreatDoor.Nd
end
