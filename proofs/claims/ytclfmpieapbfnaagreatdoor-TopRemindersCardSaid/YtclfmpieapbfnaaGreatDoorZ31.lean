/-
  Part 31 of the proof of the statement that the last part ends in: lemmas, no conditions of their own.
-/
import Derived.Test.YtclfmpieapbfnaaGreatDoorZ27
import Derived.Test.YtclfmpieapbfnaaGreatDoorZ16
set_option linter.unusedVariables false
set_option linter.unusedSimpArgs false
section
namespace Go.Proofs.YtclfmpieapbfnaaGreatDoor.Nd
open Go.RowKit B Go.Proofs.YtclfmpieapbfnaaGreatDoor.Op
set_option maxHeartbeats 400000 in
theorem isNaN_ (x:Int) (w:World):Calls Tryz.prog 227 #[.int .i64 x] w fun e w' => e = .returned (.bool false) ∧ w = w':=by
 have h:(x != x) = false:=by simp
 go_enter Tryz.func227,Tryz.ntmps227
 go_wp2
 go_ret
 exact ⟨rfl,rfl⟩
set_option maxHeartbeats 400000 in
theorem compare_ints (x y:Int) (w:World):Calls Tryz.prog 166 #[.int .i64 x,.int .i64 y] w fun e w' => e = .returned (.int .i64 (sgn x y)) ∧ w = w':=by
 have HS:Hid (sgn x y = if x < y then -1 else if y < x then 1 else 0):=hid rfl
 rcases Int.lt_trichotomy x y with h | h | h
 · have HE:Hid (sgn x y = -1):=hid (by rw [HS.out,if_pos h])
   go_enter Tryz.func166,Tryz.ntmps166
   go_wp2_with (fail)
   refine Calls.mono (isNaN_ x w) ?_
   rintro e w1 ⟨rfl,rfl⟩
   go_wp2_with (fail)
   refine Calls.mono (isNaN_ y w) ?_
   rintro e w1 ⟨rfl,rfl⟩
   go_wp2
   go_ret
   exact ⟨congrArg (fun z => Ending.returned (.int .i64 z)) HE.out.symm,rfl⟩
 · have HE:Hid (sgn x y = 0):=hid (by rw [HS.out,if_neg (by omega),if_neg (by omega)])
   have h1:¬ x < y:=by omega
   have h2:¬ y < x:=by omega
   clear h
   go_enter Tryz.func166,Tryz.ntmps166
   go_wp2_with (fail)
   refine Calls.mono (isNaN_ x w) ?_
   rintro e w1 ⟨rfl,rfl⟩
   go_wp2_with (fail)
   refine Calls.mono (isNaN_ y w) ?_
   rintro e w1 ⟨rfl,rfl⟩
   go_wp2
   go_ret
   exact ⟨congrArg (fun z => Ending.returned (.int .i64 z)) HE.out.symm,rfl⟩
 · have HE:Hid (sgn x y = 1):=hid (by rw [HS.out,if_neg (by omega),if_pos h])
   have h1:¬ x < y:=by omega
   go_enter Tryz.func166,Tryz.ntmps166
   go_wp2_with (fail)
   refine Calls.mono (isNaN_ x w) ?_
   rintro e w1 ⟨rfl,rfl⟩
   go_wp2_with (fail)
   refine Calls.mono (isNaN_ y w) ?_
   rintro e w1 ⟨rfl,rfl⟩
   go_wp2
   go_ret
   exact ⟨congrArg (fun z => Ending.returned (.int .i64 z)) HE.out.symm,rfl⟩
set_option maxHeartbeats 400000 in
theorem compareString (x y:ByteArray) (w:World):Calls Tryz.prog 228 #[.string x,.string y] w fun e w' => e = .returned (.int .i64 (Lib.compareBytes x.data.toList y.data.toList)) ∧ w = w':=by
 have hcf:∀ w,(callFunc 272 #[.string x,.string y]).run Tryz.prog w = .ok (.value (.int .i64 (Lib.compareBytes x.data.toList y.data.toList))) w:=fun w => by
  rw [run_callFunc_extern Tryz.func272 (by kernel_rfl) (by kernel_rfl) (by kernel_rfl) (e:=Extern.BytealgCompare.compare) (by kernel_rfl),Lib.run_compareString]
  rfl
 generalize Lib.compareBytes x.data.toList y.data.toList = z at *
 go_enter Tryz.func228,Tryz.ntmps228
 go_wp2_with (simp only [hcf])
 go_ret
 exact ⟨rfl,rfl⟩
set_option maxHeartbeats 400000 in
theorem compare_texts (x y:ByteArray) (w:World):Calls Tryz.prog 167 #[.string x,.string y] w fun e w' => e = .returned (.int .i64 (Lib.compareBytes x.data.toList y.data.toList)) ∧ w = w':=by
 go_enter Tryz.func167,Tryz.ntmps167
 go_wp2_with (fail)
 refine Calls.mono (compareString x y w) ?_
 rintro e w1 ⟨rfl,rfl⟩
 go_wp2
 go_ret
 exact ⟨rfl,rfl⟩
theorem or_at {w:World} {A:Option Addr} {l:List Int} (h:Rn w .i64 A l) {j:Nat} (hj:j < l.length):∃ ad,A = some ad ∧ w.cell? (ad.add j) = some (.int .i64 (gi l j)):=by
 obtain ⟨ad,e,hc⟩:=h.2 (by omega)
 exact ⟨ad,e,hc j _ (nums_get .i64 l j hj)⟩
def orL:List Int → Int
 | [] => 0
 | a :: l => if a ≠ 0 then a else orL l
theorem orL_skip:∀ (l:List Int) (j:Nat),(∀ i,i < j → gi l i = 0) → orL l = orL (l.drop j)
 | l,0,_ => rfl
 | [],j + 1,_ => rfl
 | a :: l,j + 1,h => by
  have h0:a = 0:=h 0 (by omega)
  rw [List.drop_succ_cons,orL,if_neg (by simpa using h0)]
  exact orL_skip l j fun i hi => by
   have:=h (i + 1) (by omega)
   simpa [gi] using this
set_option maxHeartbeats 1000000 in
theorem or_ (A:Option Addr) (l:List Int) (c:Nat) (w:World) (h:Rn w .i64 A l) (hl:l.length ≤ 9223372036854775807) :
 Calls Tryz.prog 165 #[.slice A l.length c] w fun e w' => e = .returned (.int .i64 (orL l)) ∧ w = w':=by
 have HR:=hid h
 clear h
 go_enter Tryz.func165,Tryz.ntmps165
 go_wp2_with (fail)
 go_loop [8] (fun v8 => ∃ j:Nat,j ≤ l.length ∧ v8 = .int .i64 j ∧ Hid (∀ i,i < j → gi l i = 0)) (fun v8 => l.length - (intOf v8).toNat)
 case atStart => exact ⟨0,by omega,rfl,hid fun i hi => by omega⟩
 case round =>
  obtain ⟨j,hj,rfl,hH⟩:=hrel
  by_cases hlt:j < l.length
  · obtain ⟨ad,rfl,hc⟩:=or_at HR.out hlt
    have HZ:Hid (gi l j = 0 → ∀ i,i < j + 1 → gi l i = 0):=hid fun h0 i hi => by
     rcases Nat.lt_or_ge i j with h | h
     · exact hH.out i h
     · obtain rfl:i = j:=by omega
       exact h0
    have HY:Hid (gi l j ≠ 0 → orL l = gi l j):=hid fun h0 => by
     rw [orL_skip l j hH.out,List.drop_eq_getElem_cons hlt,orL]
     have e:gi l j = l[j]:=by simp [gi,List.getD_eq_getElem?_getD,hlt]
     rw [← e,if_pos h0]
    have hj2:(j:Int) < (l.length:Int):=by omega
    generalize gi l j = y at *
    by_cases hy:y = 0
    · have HZ2:=hid (HZ.out hy)
      have hy':(y != 0) = false:=by simpa using hy
      clear HZ HY hy
      go_wp2
      go_round
      case rel => exact ⟨j + 1,by omega,by go_num,HZ2⟩
      case measure => simp [intOf]; omega
    · have HY2:=hid (HY.out hy)
      have hy':(y != 0) = true:=by simpa using hy
      clear HZ HY hy
      go_wp2
      go_ret
      exact ⟨congrArg (fun z => Ending.returned (.int .i64 z)) HY2.out.symm,rfl⟩
  · obtain rfl:j = l.length:=by omega
    have HE:Hid (orL l = 0):=hid (by rw [orL_skip l l.length hH.out,List.drop_length]; rfl)
    go_wp2
    go_ret
    exact ⟨congrArg (fun z => Ending.returned (.int .i64 z)) HE.out.symm,rfl⟩
theorem cmp_or (a b:Rm):orL [sgn a.due b.due,Lib.compareBytes a.actor.data.toList b.actor.data.toList,Lib.compareBytes a.name.data.toList b.name.data.toList] = cmp a b:=by
 unfold cmp
 simp only [orL]
 split
 · rfl
 · split
   · rfl
   · split
     · rfl
     · rename_i h
       simp only [ne_eq,Decidable.not_not] at h
       exact h.symm
set_option maxHeartbeats 2000000 in
set_option maxRecDepth 100000 in
theorem compare_ (a b:Rm) (w:World):Calls Tryz.prog 96 #[rv a,rv b] w fun e w' => e = .returned (.int .i64 (cmp a b)) ∧ Upd No w w':=by
 have HC:=hid (cmp_or a b)
 obtain ⟨ac,an,ad,ap,ak⟩:=a
 obtain ⟨bc,bn,bd,bp,bk⟩:=b
 simp only at HC
 unfold rv
 generalize cmp ⟨ac,an,ad,ap,ak⟩ ⟨bc,bn,bd,bp,bk⟩ = z at *
 have HW:Hid (∃ w1 p q,w1 = (w.alloc (.cells #[.string ac,.string an,.int .i64 ad,.int .i64 ap,.int .i64 ak] 71)).alloc (.cells #[.string bc,.string bn,.int .i64 bd,.int .i64 bp,.int .i64 bk] 71) ∧ p = w.heap.size ∧ q = w.heap.size + 1 ∧ Blk w1 p 71 #[.string ac,.string an,.int .i64 ad,.int .i64 ap,.int .i64 ak] ∧ Blk w1 q 71 #[.string bc,.string bn,.int .i64 bd,.int .i64 bp,.int .i64 bk] ∧ Upd No w w1):=hid
  ⟨_,_,_,rfl,rfl,rfl,(Blk.fresh _ _ _).alloc _,by
   have:=Blk.fresh (w.alloc (.cells #[.string ac,.string an,.int .i64 ad,.int .i64 ap,.int .i64 ak] 71)) 71 #[.string bc,.string bn,.int .i64 bd,.int .i64 bp,.int .i64 bk]
   simpa using this,((Upd.refl _ _).alloc _).alloc _⟩
 go_enter Tryz.func96,Tryz.ntmps96
 go_wp2_with (fail)
 obtain ⟨w1,p,q,hw1,hp,hq,hb1,hb2,hu1⟩:=HW.out
 rw [← hw1]
 have hsz:(w.alloc (.cells #[.string ac,.string an,.int .i64 ad,.int .i64 ap,.int .i64 ak] 71)).heap.size = q:=by simp [hq]
 try rw [hsz]
 try rw [← hq]
 try rw [← hp]
 have HL:Hid (∀ W,Upd No w1 W → (W.cell? ⟨p,0,none⟩ = some (.string ac) ∧ W.cell? ⟨p,1,none⟩ = some (.string an) ∧ W.cell? ⟨p,2,none⟩ = some (.int .i64 ad)) ∧ (W.cell? ⟨q,0,none⟩ = some (.string bc) ∧ W.cell? ⟨q,1,none⟩ = some (.string bn) ∧ W.cell? ⟨q,2,none⟩ = some (.int .i64 bd))):=hid fun W hu => by
  have h1:=hb1.upd hu (no_ _)
  have h2:=hb2.upd hu (no_ _)
  have a0:=h1.cell 0
  have a1:=h1.cell 1
  have a2:=h1.cell 2
  have b0:=h2.cell 0
  have b1:=h2.cell 1
  have b2:=h2.cell 2
  simp at a0 a1 a2 b0 b1 b2
  exact ⟨⟨a0,a1,a2⟩,b0,b1,b2⟩
 have HU1:=hid hu1
 clear hw1 hp hq hb1 hb2 hu1 hsz HW
 have HO:=hid (or_ (some ⟨w1.heap.size,0,none⟩) [sgn ad bd,Lib.compareBytes ac.data.toList bc.data.toList,Lib.compareBytes an.data.toList bn.data.toList] 3 _ (Rn.litm w1.drew .i64 3 (0,0) _) (by simp))
 rw [HC.out] at HO
 refine wp_region_held_drew (S:=fun W => Upd No w1 W) (by kernel_rfl) (Upd.refl _ _).drew (fun hS => ?_)
 refine zt 0 hS ?_
 refine zh 1 hS (fun w hw => (HL.out w hw).1.2.2) ?_
 refine zt 2 hS ?_
 refine zh 3 hS (fun w hw => (HL.out w hw).2.2.2) ?_
 refine zt 5 hS ?_
 refine zh 6 hS (fun w hw => (HL.out w hw).1.1) ?_
 refine zt 7 hS ?_
 refine zh 8 hS (fun w hw => (HL.out w hw).2.1) ?_
 refine zt 10 hS ?_
 refine zh 11 hS (fun w hw => (HL.out w hw).1.2.1) ?_
 refine zt 12 hS ?_
 refine zh 13 hS (fun w hw => (HL.out w hw).2.2.1) ?_
 refine zk 4 (fun K hK => ?_)
 go_simp
 refine Calls.mono (compare_ints _ _ _) ?_
 rintro e w2 ⟨rfl,rfl⟩
 go_wp2_with (fail)
 refine hK.out _ _ ((by exact hS)) (fun hS => ?_)
 clear hK K
 try simp only [Act.put,zA,zB,zC]
 refine zk 9 (fun K hK => ?_)
 go_simp
 refine Calls.mono (compare_texts _ _ _) ?_
 rintro e w2 ⟨rfl,rfl⟩
 go_wp2_with (fail)
 refine hK.out _ _ ((by exact hS)) (fun hS => ?_)
 clear hK K
 try simp only [Act.put,zA,zB,zC]
 refine zk 14 (fun K hK => ?_)
 go_simp
 refine Calls.mono (compare_texts _ _ _) ?_
 rintro e w2 ⟨rfl,rfl⟩
 go_wp2_with (fail)
 refine hK.out _ _ ((by exact hS)) (fun hS => ?_)
 clear hK K
 try simp only [Act.put,zA,zB,zC]
 refine zk 15 (fun K hK => ?_)
 go_simp
 refine hK.out _ _ ((Upd.alloc hS _)) (fun hS => ?_)
 clear hK K
 try simp only [Act.put,zA,zB,zC]
 refine zk 16 (fun K hK => ?_)
 go_simp
 refine Calls.mono HO.out ?_
 rintro e w2 ⟨rfl,rfl⟩
 go_wp2_with (fail)
 refine hK.out _ _ ((by exact hS)) (fun hS => ?_)
 clear hK K
 try simp only [Act.put,zA,zB,zC]
 refine zt 17 hS ?_
 refine wpAnyH_done (by kernel_rfl) ?_ _
 go_wp2
 go_ret
 exact ⟨rfl,HU1.out.next hS⟩
theorem add_fl (ad:Addr) (m k:Nat) (hk:0 < k):ad.add (m + k) = ⟨(ad.add m).block,(ad.add m).off + k,none⟩:=by
 unfold Addr.add
 by_cases hm:m = 0
 · subst hm; simp; omega
 · simp [hm]; omega
structure At (W:World) (ad:Addr) (r:Rm):Prop where
 c0:W.cell? ad = some (.string r.actor)
 c1:W.cell? ⟨ad.block,ad.off + 1,none⟩ = some (.string r.name)
 c2:W.cell? ⟨ad.block,ad.off + 2,none⟩ = some (.int .i64 r.due)
 c3:W.cell? ⟨ad.block,ad.off + 3,none⟩ = some (.int .i64 r.per)
 c4:W.cell? ⟨ad.block,ad.off + 4,none⟩ = some (.int .i64 r.kind)
theorem At.conj {W:World} {ad:Addr} {r:Rm} (h:At W ad r):W.cell? ad = some (.string r.actor) ∧ W.cell? ⟨ad.block,ad.off + 1,none⟩ = some (.string r.name) ∧ W.cell? ⟨ad.block,ad.off + 2,none⟩ = some (.int .i64 r.due) ∧ W.cell? ⟨ad.block,ad.off + 3,none⟩ = some (.int .i64 r.per) ∧ W.cell? ⟨ad.block,ad.off + 4,none⟩ = some (.int .i64 r.kind):=⟨h.c0,h.c1,h.c2,h.c3,h.c4⟩
theorem rm_at {W:World} {A:Option Addr} {xs:List Rm} (h:Rd W 5 A xs.length (xs.flatMap rc)) {i:Nat} (hi:i < xs.length):∃ ad,A = some ad ∧ At W (ad.add (i * 5)) xs[i]:=by
 obtain ⟨ad,e,hc⟩:=row_at h (fun _ _ => rfl) rfl hi
 have h0:=hc 0 (by omega)
 have h1:=hc 1 (by omega)
 have h2:=hc 2 (by omega)
 have h3:=hc 3 (by omega)
 have h4:=hc 4 (by omega)
 rw [add_fl ad (i * 5) 1 (by omega)] at h1
 rw [add_fl ad (i * 5) 2 (by omega)] at h2
 rw [add_fl ad (i * 5) 3 (by omega)] at h3
 rw [add_fl ad (i * 5) 4 (by omega)] at h4
 exact ⟨ad,e,⟨h0,h1,h2,h3,h4⟩⟩
theorem At.of_blk {W:World} {p:Nat} {t:TypeId} {r:Rm} (h:Blk W p t (rc r).toArray):At W ⟨p,0,none⟩ r:=by
 have a0:=h.cell 0
 have a1:=h.cell 1
 have a2:=h.cell 2
 have a3:=h.cell 3
 have a4:=h.cell 4
 simp [rc] at a0 a1 a2 a3 a4
 exact ⟨a0,a1,a2,a3,a4⟩
set_option maxHeartbeats 1000000 in
theorem find1 (r:Rm) (b1 b2:Nat) (a n:ByteArray) (w:World) (h1:Blk w b1 9 #[.string a]) (h2:Blk w b2 9 #[.string n]) :
 Calls Tryz.prog 164 #[rv r,.pointer (some ⟨b1,0,none⟩),.pointer (some ⟨b2,0,none⟩)] w fun e w' => e = .returned (.bool (ke a n r)) ∧ Upd No w w':=by
 have HK:Hid (ke a n r = (be r.actor a && be r.name n)):=hid rfl
 obtain ⟨ac,an,ad,ap,ak⟩:=r
 unfold rv
 simp only at HK ⊢
 have hu:Upd No w (w.alloc (.cells #[.string ac,.string an,.int .i64 ad,.int .i64 ap,.int .i64 ak] 71)):=(Upd.refl _ _).alloc _
 have x1:=(h1.upd hu (no_ _)).cell 0
 have x2:=(h2.upd hu (no_ _)).cell 0
 simp at x1 x2
 have HU:=hid hu
 clear hu h1 h2
 rcases e1:be ac a with _ | _
 · have e1':(ac.toList == a.toList) = false:=e1
   have HE:Hid (ke a n ⟨ac,an,ad,ap,ak⟩ = false):=hid (by rw [HK.out,e1]; rfl)
   clear e1 HK
   go_enter Tryz.func164,Tryz.ntmps164
   go_wp2
   go_ret
   exact ⟨congrArg (fun z => Ending.returned (.bool z)) HE.out.symm,HU.out⟩
 · have e1':(ac.toList == a.toList) = true:=e1
   rcases e2:be an n with _ | _
   · have e2':(an.toList == n.toList) = false:=e2
     have HE:Hid (ke a n ⟨ac,an,ad,ap,ak⟩ = false):=hid (by rw [HK.out,e1,e2]; rfl)
     clear e1 e2 HK
     go_enter Tryz.func164,Tryz.ntmps164
     go_wp2
     go_ret
     exact ⟨congrArg (fun z => Ending.returned (.bool z)) HE.out.symm,HU.out⟩
   · have e2':(an.toList == n.toList) = true:=e2
     have HE:Hid (ke a n ⟨ac,an,ad,ap,ak⟩ = true):=hid (by rw [HK.out,e1,e2]; rfl)
     clear e1 e2 HK
     go_enter Tryz.func164,Tryz.ntmps164
     go_wp2
     go_ret
     exact ⟨congrArg (fun z => Ending.returned (.bool z)) HE.out.symm,HU.out⟩
def Ix (a n:ByteArray) (xs:List Rm) (r:Int):Prop:=(r = -1 ∧ has a n xs = false) ∨ ∃ j:Nat,∃ hj:j < xs.length,r = (j:Int) ∧ ke a n xs[j] = true
def IxOut (a n:ByteArray) (xs:List Rm) (w:World) (e:Ending) (w':World):Prop:=∃ r,e = .returned (.int .i64 r) ∧ Ix a n xs r ∧ Upd No w w'
theorem IxOut.of {a n:ByteArray} {xs:List Rm} {w:World} {e:Ending} {w':World} (h:∃ r,e = .returned (.int .i64 r) ∧ Ix a n xs r ∧ Upd No w w'):IxOut a n xs w e w':=h
set_option maxHeartbeats 1000000 in
theorem index_func (b1 b2 c:Nat) (A:Option Addr) (a n:ByteArray) (xs:List Rm) (w:World) (h1:Blk w b1 9 #[.string a]) (h2:Blk w b2 9 #[.string n]) (hr:Rd w 5 A xs.length (xs.flatMap rc)) (hn:xs.length ≤ 9223372036854775807) :
 Calls Tryz.prog 163 #[.slice A xs.length c,.func (.func 164) #[] #[.pointer (some ⟨b1,0,none⟩),.pointer (some ⟨b2,0,none⟩)]] w fun e w' => IxOut a n xs w e w':=by
 have HR:=hid fun W (hu:Upd No w W) => Rd.upd hr (by omega) hu fun _ _ => no_ _
 have HF:=hid fun (W:World) (r:Rm) (hu:Upd No w W) => find1 r b1 b2 a n W (h1.upd hu (no_ _)) (h2.upd hu (no_ _))
 clear h1 h2 hr
 go_enter Tryz.func163,Tryz.ntmps163
 go_wp2_with (fail)
 go_loopw [8] (fun v8 W => ∃ j:Nat,j ≤ xs.length ∧ v8 = .int .i64 j ∧ Hid ((∀ i (hi:i < xs.length),i < j → ke a n xs[i] = false) ∧ Upd No w W)) (fun v8 _ => xs.length - (intOf v8).toNat)
 case atStart => exact ⟨0,by omega,rfl,hid ⟨fun i _ h => by omega,Upd.refl _ _⟩⟩
 case round =>
  obtain ⟨j,hj,rfl,hH⟩:=hrel
  by_cases hlt:j < xs.length
  · obtain ⟨ad,rfl,hat⟩:=rm_at (HR.out wr hH.out.2) hlt
    obtain ⟨x0,x1,x2,x3,x4⟩:=hat
    have HN:Hid (ke a n xs[j] = false → ∀ i (hi:i < xs.length),i < j + 1 → ke a n xs[i] = false):=hid fun h i hi hij => by
     by_cases h':i < j
     · exact hH.out.1 i hi h'
     · obtain rfl:i = j:=by omega
       exact h
    have HY:Hid (ke a n xs[j] = true → Ix a n xs j):=hid fun h => .inr ⟨j,hlt,rfl,h⟩
    have hj2:(j:Int) < (xs.length:Int):=by omega
    have hj1:(0:Int) ≤ (j:Int):=by omega
    generalize xs[j] = x at *
    have HC:=hid (HF.out wr x hH.out.2)
    unfold rv at HC
    rcases hq:ke a n x with _ | _
    · rw [hq] at HC
      have HN2:=hid (HN.out hq)
      clear HY hq HN
      go_wp2_with (fail)
      refine Calls.mono HC.out ?_
      rintro e w' ⟨rfl,hu⟩
      have HU:=hid (hH.out.2.next hu)
      clear hu
      go_wp2
      go_roundw
      case rel => exact ⟨j + 1,by omega,by go_num,hid ⟨HN2.out,HU.out⟩⟩
      case measure => simp [intOf]; omega
    · rw [hq] at HC
      have HY2:=hid (HY.out hq)
      clear HN hq HY
      go_wp2_with (fail)
      refine Calls.mono HC.out ?_
      rintro e w' ⟨rfl,hu⟩
      have HU:=hid (hH.out.2.next hu)
      clear hu
      go_wp2
      go_ret
      exact .of ⟨_,rfl,HY2.out,HU.out⟩
  · obtain rfl:j = xs.length:=by omega
    have HY:Hid (Ix a n xs (-1)):=hid (.inl ⟨rfl,List.any_eq_false.2 fun x hx => by
     obtain ⟨i,hi,rfl⟩:=List.getElem_of_mem hx
     rw [hH.out.1 i hi hi]
     simp⟩)
    go_wp2
    go_ret
    exact .of ⟨_,rfl,HY.out,hH.out.2⟩
def BsOut (xs:List Rm) (r:Rm) (w:World) (e:Ending) (w':World):Prop:=∃ (k:Nat) (b:Bool),e = .returned (.tuple #[.int .i64 k,.bool b]) ∧ k ≤ xs.length ∧ ins xs r = xs.take k ++ r :: xs.drop k ∧ Upd No w w'
theorem BsOut.of {xs:List Rm} {r:Rm} {w:World} {e:Ending} {w':World} (h:∃ (k:Nat) (b:Bool),e = .returned (.tuple #[.int .i64 k,.bool b]) ∧ k ≤ xs.length ∧ ins xs r = xs.take k ++ r :: xs.drop k ∧ Upd No w w'):BsOut xs r w e w':=h
set_option maxHeartbeats 2000000 in
set_option maxRecDepth 100000 in
theorem search (c:Nat) (A:Option Addr) (r:Rm) (xs:List Rm) (w:World) (hr:Rd w 5 A xs.length (xs.flatMap rc)) (hn:xs.length ≤ 1000) (hs:xs.Pairwise fun a b => less a b = true) :
 Calls Tryz.prog 201 #[.slice A xs.length c,rv r,.func (.func 96) #[] #[]] w fun e w' => BsOut xs r w e w':=by
 have HM:=hid (fun (i j:Nat) (hij:i ≤ j) (hj:j < xs.length) (hl:less xs[j] r = true) => mono hs hij hj hl)
 have HF:=hid (fun (W:World) (x:Rm) => compare_ x r W)
 have HW:Hid (∃ w1 p,w1 = w.alloc (.cells (rc r).toArray 71) ∧ p = w.heap.size ∧ (∀ W,Upd No w1 W → At W ⟨p,0,none⟩ r ∧ Rd W 5 A xs.length (xs.flatMap rc)) ∧ Upd No w w1):=hid
  ⟨_,_,rfl,rfl,fun W hu => ⟨At.of_blk ((Blk.fresh w 71 (rc r).toArray).upd hu (no_ _)),Rd.upd (Rd.alloc hr (by omega) _) (by omega) hu fun _ _ => no_ _⟩,(Upd.refl _ _).alloc _⟩
 clear hr hs
 obtain ⟨ac,an,ad,ap,ak⟩:=r
 unfold rv at HF ⊢
 simp only [rc] at HW
 simp only at HF ⊢
 go_enter Tryz.func201,Tryz.ntmps201
 go_wp2_with (fail)
 obtain ⟨w1,p,hw1,hp,hl1,hu1⟩:=HW.out
 rw [← hw1,← hp]
 have HL:=hid hl1
 have HU1:=hid hu1
 clear hw1 hp hl1 hu1 HW
 go_loopw [9,10] (fun v9 v10 W => ∃ lo hi:Nat,lo ≤ hi ∧ hi ≤ xs.length ∧ v9 = .int .i64 lo ∧ v10 = .int .i64 hi ∧ Hid ((∀ i (h:i < xs.length),i < lo → less xs[i] ⟨ac,an,ad,ap,ak⟩ = true) ∧ (∀ i (h:i < xs.length),hi ≤ i → less xs[i] ⟨ac,an,ad,ap,ak⟩ = false) ∧ Upd No w1 W)) (fun v9 v10 _ => (intOf v10).toNat - (intOf v9).toNat)
 case atStart => exact ⟨0,xs.length,Nat.zero_le _,Nat.le_refl _,rfl,rfl,hid ⟨fun i _ h => by omega,fun i h1 h2 => by omega,Upd.refl _ _⟩⟩
 case round =>
  obtain ⟨lo,hi,hlh,hin,rfl,rfl,HI⟩:=hrel
  by_cases hlt:lo < hi
  · obtain ⟨m,hm⟩:∃ m,m = (lo + hi) / 2:=⟨_,rfl⟩
    have hm1:lo ≤ m:=by omega
    have hm2:m < hi:=by omega
    have hmx:m < xs.length:=by omega
    have HM3:=hid (show ((lo:Int) + (hi:Int)) / 2 = (m:Int) by omega)
    clear hm
    obtain ⟨adx,rfl,_⟩:=rm_at (HL.out wr HI.out.2.2).2 hmx
    have HLo:Hid (∀ W,Upd No wr W → At W (adx.add (m * 5)) xs[m] ∧ At W ⟨p,0,none⟩ ⟨ac,an,ad,ap,ak⟩):=hid fun W hu => by
     have h1:=HL.out W (HI.out.2.2.next hu)
     obtain ⟨ad2,e,h2⟩:=rm_at h1.2 hmx
     cases e
     exact ⟨h2,h1.1⟩
    have HY:Hid (less xs[m] ⟨ac,an,ad,ap,ak⟩ = true → ∀ i (h:i < xs.length),i < m + 1 → less xs[i] ⟨ac,an,ad,ap,ak⟩ = true):=hid fun h i hi him => HM.out i m (by omega) hmx h
    have HZ:Hid (less xs[m] ⟨ac,an,ad,ap,ak⟩ = false → ∀ i (h:i < xs.length),m ≤ i → less xs[i] ⟨ac,an,ad,ap,ak⟩ = false):=hid fun h i hi him => by
     cases h9:less xs[i] ⟨ac,an,ad,ap,ak⟩
     · rfl
     · rw [HM.out m i him hi h9] at h
       cases h
    have hj2:(m:Int) < (xs.length:Int):=by omega
    have hj1:(0:Int) ≤ (m:Int):=by omega
    generalize xs[m] = x at *
    have HC:=hid fun W => HF.out W x
    have hcmp:=cmp_lt x ⟨ac,an,ad,ap,ak⟩
    generalize cmp x ⟨ac,an,ad,ap,ak⟩ = z at *
    go_wp2_with (fail)
    rw [HM3.out]
    refine wp_region_held_drew (S:=fun W => Upd No wr W) (by kernel_rfl) (Upd.refl _ _).drew (fun hS => ?_)
    refine zt 0 hS ?_
    refine zt 1 hS ?_
    refine zt 2 hS ?_
    refine zt 3 hS ?_
    refine zh 4 hS (fun w hw => (HLo.out w hw).1.conj) ?_
    refine zh 5 hS (fun w hw => (HLo.out w hw).2.conj) ?_
    refine zk 6 (fun K hK => ?_)
    go_simp
    refine Calls.mono (HC.out _) ?_
    rintro e w2 ⟨rfl,hu2⟩
    go_wp2_with (fail)
    refine hK.out _ _ ((hS.next hu2)) (fun hS => ?_)
    clear hK K
    try simp only [Act.put,zA,zB,zC]
    refine zt 7 hS ?_
    refine wpAnyH_done (by kernel_rfl) ?_ _
    have HU:=hid (HI.out.2.2.next hS)
    clear hS hu2
    rcases hl:less x ⟨ac,an,ad,ap,ak⟩ with _ | _
    · have hz:¬ z < 0:=fun h => by rw [hcmp.1 h] at hl; cases hl
      have HZ2:=hid (HZ.out hl)
      clear hcmp hl HY HZ
      go_wp2
      go_roundw
      case rel => exact ⟨lo,m,by omega,by omega,rfl,rfl,hid ⟨HI.out.1,HZ2.out,HU.out⟩⟩
      case measure => simp [intOf]; omega
    · have hz:z < 0:=hcmp.2 hl
      have HY2:=hid (HY.out hl)
      clear hcmp hl HY HZ
      go_wp2
      go_roundw
      case rel => exact ⟨m + 1,hi,by omega,by omega,by go_num,rfl,hid ⟨HY2.out,HI.out.2.1,HU.out⟩⟩
      case measure => simp [intOf]; omega
  · obtain rfl:lo = hi:=by omega
    have HE:Hid (ins xs ⟨ac,an,ad,ap,ak⟩ = xs.take lo ++ ⟨ac,an,ad,ap,ak⟩ :: xs.drop lo):=hid (ins_at hin HI.out.1 HI.out.2.1)
    by_cases hn2:lo < xs.length
    · obtain ⟨adx,rfl,_⟩:=rm_at (HL.out wr HI.out.2.2).2 hn2
      have HLo:Hid (∀ W,Upd No wr W → At W (adx.add (lo * 5)) xs[lo] ∧ At W ⟨p,0,none⟩ ⟨ac,an,ad,ap,ak⟩):=hid fun W hu => by
       have h1:=HL.out W (HI.out.2.2.next hu)
       obtain ⟨ad2,e,h2⟩:=rm_at h1.2 hn2
       cases e
       exact ⟨h2,h1.1⟩
      have hj2:(lo:Int) < (xs.length:Int):=by omega
      have hj1:(0:Int) ≤ (lo:Int):=by omega
      have HC:=hid fun W => HF.out W xs[lo]
      generalize cmp xs[lo] ⟨ac,an,ad,ap,ak⟩ = z at *
      generalize xs[lo] = x at *
      go_wp2_with (fail)
      refine wp_region_held_drew (S:=fun W => Upd No wr W) (by kernel_rfl) (Upd.refl _ _).drew (fun hS => ?_)
      refine zt 0 hS ?_
      refine zt 1 hS ?_
      refine zt 2 hS ?_
      refine zt 3 hS ?_
      refine zt 4 hS ?_
      refine zt 5 hS ?_
      refine zt 6 hS ?_
      refine zt 7 hS ?_
      refine zt 8 hS ?_
      refine zh 9 hS (fun w hw => (HLo.out w hw).1.conj) ?_
      refine zh 10 hS (fun w hw => (HLo.out w hw).2.conj) ?_
      refine zk 11 (fun K hK => ?_)
      go_simp
      refine Calls.mono (HC.out _) ?_
      rintro e w2 ⟨rfl,hu2⟩
      go_wp2_with (fail)
      refine hK.out _ _ ((hS.next hu2)) (fun hS => ?_)
      clear hK K
      try simp only [Act.put,zA,zB,zC]
      refine zt 12 hS ?_
      refine zt 13 hS ?_
      refine zt 14 hS ?_
      refine zt 15 hS ?_
      refine wpAnyH_done (by kernel_rfl) ?_ _
      have HU:=hid (HU1.out.next (HI.out.2.2.next hS))
      clear hS hu2
      go_wp2
      go_ret2
      exact .of ⟨lo,_,rfl,hin,HE.out,HU.out⟩
    · have hj2:¬ (lo:Int) < (xs.length:Int):=by omega
      have HU:=hid (HU1.out.next HI.out.2.2)
      go_wp2_with (fail)
      refine wp_region_held_drew (S:=fun W => Upd No wr W) (by kernel_rfl) (Upd.refl _ _).drew (fun hS => ?_)
      refine zt 0 hS ?_
      refine zt 1 hS ?_
      refine zt 2 hS ?_
      refine zt 3 hS ?_
      refine zt 4 hS ?_
      refine zn 5 hS ?_
      refine zn 6 hS ?_
      refine zn 7 hS ?_
      refine zn 8 hS ?_
      refine zn 9 hS ?_
      refine zn 10 hS ?_
      refine zn 11 hS ?_
      refine zn 12 hS ?_
      refine zt 13 hS ?_
      refine zt 14 hS ?_
      refine zt 15 hS ?_
      refine wpAnyH_done (by kernel_rfl) ?_ _
      go_wp2
      go_ret2
      exact .of ⟨lo,_,rfl,hin,HE.out,HU.out.next hS⟩
end Go.Proofs.YtclfmpieapbfnaaGreatDoor.Nd
end
section
namespace Go.Proofs.YtclfmpieapbfnaaGreatDoor.Nd
open Go.RowKit B Go.Proofs.YtclfmpieapbfnaaGreatDoor.Op
theorem rc_len (r:Rm):(rc r).length = 5:=rfl
theorem flat_take (l:List Rm) (k:Nat):(l.take k).flatMap rc = (l.flatMap rc).take (k * 5):=by
 induction l generalizing k with
 | nil => simp
 | cons a t ih =>
  cases k with
  | zero => simp
  | succ k =>
   rw [List.take_succ_cons,List.flatMap_cons,List.flatMap_cons,ih,List.take_append,List.take_of_length_le (l:=rc a) (by rw [rc_len]; omega),rc_len,show (k + 1) * 5 - 5 = k * 5 from by omega]
theorem flat_drop (l:List Rm) (k:Nat):(l.drop k).flatMap rc = (l.flatMap rc).drop (k * 5):=by
 induction l generalizing k with
 | nil => simp
 | cons a t ih =>
  cases k with
  | zero => simp
  | succ k =>
   rw [List.drop_succ_cons,List.flatMap_cons,ih,List.drop_append,List.drop_of_length_le (l:=rc a) (by rw [rc_len]; omega),List.nil_append,rc_len,show (k + 1) * 5 - 5 = k * 5 from by omega]
theorem flat_one (l:List Rm):∀ u ∈ l.flatMap rc,u.oneCell' = true:=by
 intro u hu
 obtain ⟨r,_,hu⟩:=List.mem_flatMap.1 hu
 simp only [rc,List.mem_cons,List.not_mem_nil,or_false] at hu
 rcases hu with rfl | rfl | rfl | rfl | rfl <;> rfl
theorem rc_one (r:Rm):∀ u ∈ (rc r).toArray.toList,u.oneCell' = true:=by
 intro u hu
 simp only [rc,List.mem_cons,List.not_mem_nil,or_false] at hu
 rcases hu with rfl | rfl | rfl | rfl | rfl <;> rfl
def Qo (w:World) (F:Nat → Prop) (q:Nat) (l:List Rm):Prop:=
 ∃ v,Blk w q 208 #[v] ∧ w.ownsRow 0 71 5 v l.length (l.flatMap rc) ∧ ∀ k,F k ↔ k = q ∨ v.ownBlock = some k
section
variable {w w':World} {F G:Nat → Prop} {q:Nat} {l:List Rm}
theorem Qo.upd (h:Qo w F q l) (hu:Upd G w w') (hn:∀ k,F k → ¬ G k):Qo w' F q l:=by
 obtain ⟨v,h1,h2,h3⟩:=h
 exact ⟨v,h1.upd hu (hn _ ((h3 q).2 (.inl rfl))),own_upd h2 hu fun k hk => hn k ((h3 k).2 (.inr hk)),h3⟩
theorem Qo.quiet (h:Qo w F q l) (hu:Upd No w w'):Qo w' F q l:=h.upd hu fun _ _ => no_ _
theorem Qo.lt (h:Qo w F q l):∀ k,F k → k < w.heap.size:=by
 obtain ⟨v,h1,h2,h3⟩:=h
 intro k hk
 rcases (h3 k).1 hk with rfl | hk
 · exact h1.lt
 · exact (h2.lt k hk).2
theorem Qo.cell (h:Qo w F q l):∃ A c,w.cell? ⟨q,0,none⟩ = some (.slice A l.length c) ∧ Rd w 5 A l.length (l.flatMap rc) ∧ l.length ≤ c ∧ c ≤ maxLen:=by
 obtain ⟨v,h1,h2,h3⟩:=h
 obtain ⟨A,c,rfl,h4,h5⟩:=own_shape h2
 have e:=h1.cell 0
 simp at e
 exact ⟨A,c,e,Rd.of_own h2,h4,h5⟩
theorem Qo.new (w:World):Qo (w.alloc (.cells #[.slice none 0 0] 208)) (fun k => k = w.heap.size) w.heap.size []:=
 ⟨_,Blk.fresh w _ _,World.ownsRow_nil _ _ _ _,fun k => by simp [Value.ownBlock]⟩
theorem Qo.stored {w1 w2:World} {v v':Value} {l':List Rm} (hb:Blk w q 208 #[v]) (ho:w.ownsRow 0 71 5 v l.length (l.flatMap rc)) (h3:∀ k,F k ↔ k = q ∨ v.ownBlock = some k)
 (hu:Upd (fun k => v.ownBlock = some k) w w1) (ho1:w1.ownsRow 0 71 5 v' l'.length (l'.flatMap rc)) (hat:∀ k,v'.ownBlock = some k → v.ownBlock = some k ∨ w.heap.size ≤ k) (hw2:w2 = w1.setCell ⟨q,0,none⟩ v') :
 ∃ F',Qo w2 F' q l' ∧ Mv F F' w w2:=by
 subst hw2
 have hne:v.ownBlock ≠ some q:=own_blk_ne ho hb (by decide)
 have hb1:Blk w1 q 208 #[v]:=hb.upd hu hne
 have hu2:Upd (fun k => k = q) w1 (w1.setCell ⟨q,0,none⟩ v'):=(Upd.refl _ _).set1 _ _
 refine ⟨fun k => k = q ∨ v'.ownBlock = some k,⟨v',by simpa using hb1.put 0 v',own_upd ho1 hu2 fun k hk e => ?_,fun k => Iff.rfl⟩,(hu.mono fun k _ hk => (h3 k).2 (.inr hk)).set (.inl ((h3 q).2 (.inl rfl))) _,fun k hk => ?_⟩
 · subst e
   exact own_blk_ne ho1 hb1 (by decide) hk
 · rcases hk with rfl | hk
   · exact .inl ((h3 _).2 (.inl rfl))
   · exact (hat k hk).imp (fun h => (h3 k).2 (.inr h)) id
end
set_option maxHeartbeats 400000 in
theorem new_ (w:World):Calls Tryz.prog 27 #[] w fun e w' => e = .returned (.pointer (some ⟨w.heap.size,0,none⟩)) ∧ w.alloc (.cells #[.slice none 0 0] 208) = w':=by
 go_enter Tryz.func27,Tryz.ntmps27
 go_wp2
 go_ret
 exact ⟨rfl,rfl⟩
theorem size_zero {s:ByteArray} (h:s.size = 0):s = ⟨#[]⟩:=by
 obtain ⟨⟨l⟩⟩:=s
 have:l.length = 0:=h
 rw [List.eq_nil_of_length_eq_zero this]
theorem toList_length (s:ByteArray):s.toList.length = s.size:=by
 rw [toList_data,Array.length_toList]
 rfl
set_option maxHeartbeats 400000 in
theorem key_ (s:ByteArray) (w:World):Calls Tryz.prog 46 #[.string s] w fun e w' => e = .returned (.bool (keyB s)) ∧ w = w':=by
 have HK:Hid (keyB s = decide (1 ≤ s.size ∧ s.size ≤ 40)):=hid rfl
 by_cases h0:s.size = 0
 · have HE:Hid (keyB s = false):=hid (by rw [HK.out,decide_eq_false (by omega)])
   obtain rfl:=size_zero h0
   go_enter Tryz.func46,Tryz.ntmps46
   go_wp2
   go_ret
   exact ⟨congrArg (fun z => Ending.returned (.bool z)) HE.out.symm,rfl⟩
 · have he:¬ s.toList = []:=by
    intro h
    have:=congrArg List.length h
    rw [toList_length] at this
    exact h0 this
   have he2:s.toList.isEmpty = false:=by simpa using he
   by_cases h1:s.size ≤ 40
   · have HE:Hid (keyB s = true):=hid (by rw [HK.out,decide_eq_true (by omega)])
     have h1':(s.size:Int) ≤ 40:=by omega
     go_enter Tryz.func46,Tryz.ntmps46
     go_wp2
     go_ret
     exact ⟨congrArg (fun z => Ending.returned (.bool z)) HE.out.symm,rfl⟩
   · have HE:Hid (keyB s = false):=hid (by rw [HK.out,decide_eq_false (by omega)])
     have h1':¬ (s.size:Int) ≤ 40:=by omega
     go_enter Tryz.func46,Tryz.ntmps46
     go_wp2
     go_ret
     exact ⟨congrArg (fun z => Ending.returned (.bool z)) HE.out.symm,rfl⟩
set_option maxHeartbeats 1000000 in
theorem wrong_ (r:Rm) (w:World):Calls Tryz.prog 94 #[rv r] w fun e w' => e = .returned (.int .i64 (wrongR r)) ∧ Upd No w w':=by
 have HW:Hid (wrongR r = if keyB r.actor = false ∨ 40 < r.name.size then 1 else if r.due < 0 ∨ r.per < 1 then 3 else 0):=hid rfl
 have HK:=hid fun W => key_ r.actor W
 obtain ⟨ac,an,ad,ap,ak⟩:=r
 unfold rv
 simp only at HW HK ⊢
 have HU:Hid (Upd No w (w.alloc (.cells #[.string ac,.string an,.int .i64 ad,.int .i64 ap,.int .i64 ak] 71))):=hid ((Upd.refl _ _).alloc _)
 rcases hk:keyB ac with _ | _
 · have HE:Hid (wrongR ⟨ac,an,ad,ap,ak⟩ = 1):=hid (by rw [HW.out,if_pos (.inl hk)])
   rw [hk] at HK
   clear HW hk
   go_enter Tryz.func94,Tryz.ntmps94
   go_wp2_with (fail)
   refine (HK.out _).mono ?_
   rintro e w1 ⟨rfl,rfl⟩
   go_wp2
   go_ret
   exact ⟨congrArg (fun z => Ending.returned (.int .i64 z)) HE.out.symm,HU.out⟩
 · by_cases hn:40 < an.size
   · have HE:Hid (wrongR ⟨ac,an,ad,ap,ak⟩ = 1):=hid (by rw [HW.out,if_pos (.inr hn)])
     have hn':(40:Int) < (an.size:Int):=by omega
     rw [hk] at HK
     clear HW hk
     go_enter Tryz.func94,Tryz.ntmps94
     go_wp2_with (fail)
     refine (HK.out _).mono ?_
     rintro e w1 ⟨rfl,rfl⟩
     go_wp2
     go_ret
     exact ⟨congrArg (fun z => Ending.returned (.int .i64 z)) HE.out.symm,HU.out⟩
   · have hn':¬ (40:Int) < (an.size:Int):=by omega
     have hno:¬ (keyB ac = false ∨ 40 < an.size):=by rw [hk]; simp; omega
     rw [if_neg hno] at HW
     rw [hk] at HK
     clear hk hno
     by_cases hd:ad < 0
     · have HE:Hid (wrongR ⟨ac,an,ad,ap,ak⟩ = 3):=hid (by rw [HW.out,if_pos (.inl hd)])
       clear HW
       go_enter Tryz.func94,Tryz.ntmps94
       go_wp2_with (fail)
       refine (HK.out _).mono ?_
       rintro e w1 ⟨rfl,rfl⟩
       go_wp2
       go_ret
       exact ⟨congrArg (fun z => Ending.returned (.int .i64 z)) HE.out.symm,HU.out⟩
     · by_cases hp:ap < 1
       · have HE:Hid (wrongR ⟨ac,an,ad,ap,ak⟩ = 3):=hid (by rw [HW.out,if_pos (.inr hp)])
         clear HW
         go_enter Tryz.func94,Tryz.ntmps94
         go_wp2_with (fail)
         refine (HK.out _).mono ?_
         rintro e w1 ⟨rfl,rfl⟩
         go_wp2
         go_ret
         exact ⟨congrArg (fun z => Ending.returned (.int .i64 z)) HE.out.symm,HU.out⟩
       · have HE:Hid (wrongR ⟨ac,an,ad,ap,ak⟩ = 0):=hid (by rw [HW.out,if_neg (by omega)])
         clear HW
         go_enter Tryz.func94,Tryz.ntmps94
         go_wp2_with (fail)
         refine (HK.out _).mono ?_
         rintro e w1 ⟨rfl,rfl⟩
         go_wp2
         go_ret
         exact ⟨congrArg (fun z => Ending.returned (.int .i64 z)) HE.out.symm,HU.out⟩
set_option maxHeartbeats 1000000 in
theorem find_ (q:Nat) (F:Nat → Prop) (l:List Rm) (a n:ByteArray) (w:World) (h:Qo w F q l) (hl:l.length ≤ 1000) :
 Calls Tryz.prog 95 #[.pointer (some ⟨q,0,none⟩),.string a,.string n] w fun e w' => IxOut a n l w e w':=by
 have hu:Upd No w ((w.alloc (.cells #[.string a] 9)).alloc (.cells #[.string n] 9)):=((Upd.refl _ _).alloc _).alloc _
 obtain ⟨A,c,hc,hrd,hlc,hcm⟩:=(h.quiet hu).cell
 have b1:Blk ((w.alloc (.cells #[.string a] 9)).alloc (.cells #[.string n] 9)) w.heap.size 9 #[.string a]:=(Blk.fresh _ _ _).alloc _
 have b2:Blk ((w.alloc (.cells #[.string a] 9)).alloc (.cells #[.string n] 9)) (w.heap.size + 1) 9 #[.string n]:=by
  have:=Blk.fresh (w.alloc (.cells #[.string a] 9)) 9 #[.string n]
  simpa using this
 have HI:=hid (index_func _ _ c A a n l _ b1 b2 hrd (by omega))
 unfold IxOut at HI
 have HU:=hid hu
 clear h hu hrd b1 b2
 go_enter Tryz.func95,Tryz.ntmps95
 go_wp2_with (fail)
 refine HI.out.mono ?_
 rintro e w1 ⟨r,rfl,hx,hu1⟩
 have HX:=hid hx
 have HU1:=hid (HU.out.next hu1)
 clear hx hu1
 go_wp2
 go_ret
 exact .of ⟨r,rfl,HX.out,HU1.out⟩
theorem Qo.parts {w:World} {F:Nat → Prop} {q:Nat} {l:List Rm} (h:Qo w F q l):∃ A c,Blk w q 208 #[.slice A l.length c] ∧ w.ownsRow 0 71 5 (.slice A l.length c) l.length (l.flatMap rc) ∧ (∀ k,F k ↔ k = q ∨ (Value.slice A l.length c).ownBlock = some k) ∧ l.length ≤ c ∧ c ≤ maxLen:=by
 obtain ⟨v,h1,h2,h3⟩:=h
 obtain ⟨A,c,rfl,h4,h5⟩:=own_shape h2
 exact ⟨A,c,h1,h2,h3,h4,h5⟩
set_option maxHeartbeats 2000000 in
set_option maxRecDepth 100000 in
theorem lay_ (q:Nat) (F:Nat → Prop) (l:List Rm) (r:Rm) (w:World) (h:Qo w F q l) (hs:l.Pairwise fun a b => less a b = true) (hl:l.length + 1 ≤ 1000) :
 Calls Tryz.prog 134 #[.pointer (some ⟨q,0,none⟩),rv r] w fun e w' => e = .returned (.tuple #[]) ∧ ∃ F',Qo w' F' q (ins l r) ∧ Mv F F' w w':=by
 obtain ⟨A,c,hb,ho,hF,hlc,hcm⟩:=h.parts
 simp only [maxLen] at hcm
 have hsr:=fun W (hu:Upd No w W) => search c A r l W (Rd.upd (Rd.of_own ho) (by omega) hu fun _ _ => no_ _) (by omega) hs
 have HB:=hid hb
 have HO:=hid ho
 have HF:=hid hF
 have HSr:=hid hsr
 have HIl:=hid (ins_length l r)
 have HW:Hid (∃ w1 p,w1 = w.alloc (.cells (rc r).toArray 71) ∧ p = w.heap.size ∧ Blk w1 p 71 (rc r).toArray ∧ Upd No w w1):=hid ⟨_,_,rfl,rfl,Blk.fresh _ _ _,(Upd.refl _ _).alloc _⟩
 clear h hb ho hF hsr
 obtain ⟨r0,hr0⟩:∃ r0,r0 = r:=⟨_,rfl⟩
 have HR:=hid hr0
 rw [← hr0] at HSr HIl HW ⊢
 clear hr0
 obtain ⟨ac,an,ad,ap,ak⟩:=r
 unfold rv at HSr ⊢
 have hra:Hid (r0.actor = ac ∧ r0.name = an ∧ r0.due = ad ∧ r0.per = ap ∧ r0.kind = ak):=hid (by rw [HR.out]; exact ⟨rfl,rfl,rfl,rfl,rfl⟩)
 rw [hra.out.1,hra.out.2.1,hra.out.2.2.1,hra.out.2.2.2.1,hra.out.2.2.2.2] at HSr ⊢
 have hrc:Hid ((rc r0).toArray = #[.string ac,.string an,.int .i64 ad,.int .i64 ap,.int .i64 ak]):=hid (by rw [HR.out]; rfl)
 rw [hrc.out] at HW
 go_enter Tryz.func134,Tryz.ntmps134
 go_wp2_with (fail)
 obtain ⟨w1,p,hw1,hp,hb1,hu1⟩:=HW.out
 rw [← hw1,← hp]
 have HL1:Hid (∀ W,Upd No w1 W → (W.cell? ⟨q,0,none⟩ = some (.slice A l.length c)) ∧ (W.cell? ⟨p,0,none⟩ = some (.string ac) ∧ W.cell? ⟨p,1,none⟩ = some (.string an) ∧ W.cell? ⟨p,2,none⟩ = some (.int .i64 ad) ∧ W.cell? ⟨p,3,none⟩ = some (.int .i64 ap) ∧ W.cell? ⟨p,4,none⟩ = some (.int .i64 ak))):=hid fun W hu => by
  have e0:=(HB.out.upd (hu1.next hu) (no_ _)).cell 0
  have b:=hb1.upd hu (no_ _)
  have a0:=b.cell 0
  have a1:=b.cell 1
  have a2:=b.cell 2
  have a3:=b.cell 3
  have a4:=b.cell 4
  simp at e0 a0 a1 a2 a3 a4
  exact ⟨e0,a0,a1,a2,a3,a4⟩
 have HU1:=hid hu1
 clear hw1 hp hb1 hu1 HW
 unfold BsOut at HSr
 refine wp_region_held_drew (S:=fun W => Upd No w1 W) (by kernel_rfl) (Upd.refl _ _).drew (fun hS => ?_)
 refine zt 0 hS ?_
 refine zt 1 hS ?_
 refine zt 2 hS ?_
 refine zh 3 hS (fun w hw => (HL1.out w hw).1) ?_
 refine zh 4 hS (fun w hw => (HL1.out w hw).2) ?_
 refine zk 5 (fun K hK => ?_)
 go_simp
 refine Calls.mono (HSr.out _ (HU1.out.next hS)) ?_
 rintro e w2 ⟨k,b,rfl,hk,hi,hu2⟩
 go_wp2_with (fail)
 refine hK.out _ _ ((hS.next hu2)) (fun hS => ?_)
 clear hK K
 try simp only [Act.put,zA,zB,zC]
 refine zt 6 hS ?_
 refine zt 7 hS ?_
 refine zt 8 hS ?_
 refine zt 9 hS ?_
 refine zt 10 hS ?_
 refine wpAnyH_done (by kernel_rfl) ?_ _
 have hL2:=HL1.out w2 hS
 obtain ⟨x0,y0,y1,y2,y3,y4⟩:=hL2
 have hL3:=fun o => HL1.out (w2.alloc o) (hS.alloc o)
 have z0:=fun o => (hL3 o).1
 have z1:=fun o => (hL3 o).2.1
 have z2:=fun o => (hL3 o).2.2.1
 have z3:=fun o => (hL3 o).2.2.2.1
 have z4:=fun o => (hL3 o).2.2.2.2.1
 have z5:=fun o => (hL3 o).2.2.2.2.2
 have hb2:Blk w2 q 208 #[.slice A l.length c]:=HB.out.upd (HU1.out.next hS) (no_ _)
 have ho2:=own_upd HO.out (HU1.out.next hS) (fun _ _ => no_ _)
 have hal:Upd No w2 (w2.drew.alloc (.cells (rc r0).toArray 71)):=((Upd.refl No w2).drew).alloc _
 have HIn:=hid (insert 0 l.length (l.length + 1) c k w2.drew.heap.size A (l.flatMap rc) (rc r0).toArray _ (own_upd ho2 hal fun _ _ => no_ _) (flat_one l) rfl hl hk (Blk.fresh w2.drew _ _) rfl (rc_one r0) (fun e => by
  have:=(ho2.lt _ e).2
  simp at this) (Nat.zero_le _))
 unfold InsOut at HIn
 rw [hrc.out] at HIn hal
 have HB2:=hid hb2
 have HO2:=hid ho2
 have HAl:=hid hal
 have HU2:=hid (HU1.out.next hS)
 have HI:=hid hi
 have hcl:(ins l r0).flatMap rc = (l.flatMap rc).take (k * 5) ++ (rc r0).toArray.toList ++ (l.flatMap rc).drop (k * 5):=by
  rw [hi,List.flatMap_append,List.flatMap_cons,flat_take,flat_drop]
  simp
 rw [hrc.out] at hcl
 have HE:Hid (∀ (W w3:World) (A3:Option Addr) (c3:Nat),Upd No w2 W → w3.ownsRow 0 71 5 (.slice A3 (l.length + 1) c3) (l.length + 1) ((ins l r0).flatMap rc) → Upd (fun k => (Value.slice A l.length c).ownBlock = some k) W w3 → (∀ k,(Value.slice A3 (l.length + 1) c3).ownBlock = some k → (Value.slice A l.length c).ownBlock = some k ∨ W.heap.size ≤ k) →
  ∃ F',Qo (w3.setCell ⟨q,0,none⟩ (.slice A3 (l.length + 1) c3)) F' q (ins l r0) ∧ Mv F F' w (w3.setCell ⟨q,0,none⟩ (.slice A3 (l.length + 1) c3))):=hid fun W w3 A3 c3 hw ho3 hu3 hat3 => by
  obtain ⟨F',h1,h2⟩:=Qo.stored (l':=ins l r0) (HB2.out.upd hw (no_ _)) (own_upd HO2.out hw fun _ _ => no_ _) HF.out hu3 (v':=.slice A3 (l.length + 1) c3) (by rw [HIl.out]; exact ho3) hat3 rfl
  exact ⟨F',h1,Mv.trans (Mv.quiet ((HU2.out.next hw).old (Nat.le_refl _))) h2⟩
 have HCl:=hid hcl
 clear hS hu2 hi hL3 hb2 ho2 hal HSr HL1 hcl
 go_wp2_with (fail)
 refine wp_region_held_drew (S:=fun _ => True) (by kernel_rfl) trivial (fun hS => ?_)
 refine zt 0 hS ?_
 refine zt 1 hS ?_
 refine zt 2 hS ?_
 refine zt 3 hS ?_
 refine zt 5 hS ?_
 refine rg_two 4 6 (by kernel_rfl) ?_ ?_
 · refine zs 4 (fun K hK => ?_)
   go_simp
   refine hK.out _ _ (trivial) (fun hS => ?_)
   clear hK K
   try simp only [Act.put,zA,zB,zC]
   refine zk 6 (fun K hK => ?_)
   go_simp
   refine hK.out _ _ (trivial) (fun hS => ?_)
   clear hK K
   try simp only [Act.put,zA,zB,zC]
   refine zk 7 (fun K hK => ?_)
   go_simp
   refine hK.out _ _ (trivial) (fun hS => ?_)
   clear hK K
   try simp only [Act.put,zA,zB,zC]
   refine zk 8 (fun K hK => ?_)
   go_simp
   refine Calls.mono HIn.out ?_
   rintro e w3 ⟨A3,c3,rfl,ho3,hu3,hat3⟩
   have hb3:Blk w3 q 208 #[.slice A l.length c]:=(HB2.out.upd HAl.out (no_ _)).upd hu3 (own_blk_ne HO2.out HB2.out (by decide))
   have x3:=hb3.cell 0
   have f3:=hb3.free 0
   simp at x3
   go_wp2_with (fail)
   refine hK.out _ _ (trivial) (fun hS => ?_)
   clear hK K
   try simp only [Act.put,zA,zB,zC]
   refine zt 9 hS ?_
   refine zt 10 hS ?_
   refine zk 11 (fun K hK => ?_)
   go_simp
   refine hK.out _ _ (trivial) (fun hS => ?_)
   clear hK K
   try simp only [Act.put,zA,zB,zC]
   refine wpAnyH_done (by kernel_rfl) ?_ _
   rw [← HCl.out] at ho3
   have HZ:=hid (HE.out _ _ _ _ HAl.out ho3 hu3 hat3)
   clear ho3 hu3 hat3
   go_wp2
   go_end0
   exact ⟨rfl,HZ.out⟩
 · refine zs 6 (fun K hK => ?_)
   go_simp
   refine hK.out _ _ (trivial) (fun hS => ?_)
   clear hK K
   try simp only [Act.put,zA,zB,zC]
   refine rg_two 4 7 (by kernel_rfl) ?_ ?_
   · refine zs 4 (fun K hK => ?_)
     go_simp
     refine hK.out _ _ (trivial) (fun hS => ?_)
     clear hK K
     try simp only [Act.put,zA,zB,zC]
     refine zk 7 (fun K hK => ?_)
     go_simp
     refine hK.out _ _ (trivial) (fun hS => ?_)
     clear hK K
     try simp only [Act.put,zA,zB,zC]
     refine zk 8 (fun K hK => ?_)
     go_simp
     refine Calls.mono HIn.out ?_
     rintro e w3 ⟨A3,c3,rfl,ho3,hu3,hat3⟩
     have hb3:Blk w3 q 208 #[.slice A l.length c]:=(HB2.out.upd HAl.out (no_ _)).upd hu3 (own_blk_ne HO2.out HB2.out (by decide))
     have x3:=hb3.cell 0
     have f3:=hb3.free 0
     simp at x3
     go_wp2_with (fail)
     refine hK.out _ _ (trivial) (fun hS => ?_)
     clear hK K
     try simp only [Act.put,zA,zB,zC]
     refine zt 9 hS ?_
     refine zt 10 hS ?_
     refine zk 11 (fun K hK => ?_)
     go_simp
     refine hK.out _ _ (trivial) (fun hS => ?_)
     clear hK K
     try simp only [Act.put,zA,zB,zC]
     refine wpAnyH_done (by kernel_rfl) ?_ _
     rw [← HCl.out] at ho3
     have HZ:=hid (HE.out _ _ _ _ HAl.out ho3 hu3 hat3)
     clear ho3 hu3 hat3
     go_wp2
     go_end0
     exact ⟨rfl,HZ.out⟩
   · refine zs 7 (fun K hK => ?_)
     go_simp
     refine hK.out _ _ (trivial) (fun hS => ?_)
     clear hK K
     try simp only [Act.put,zA,zB,zC]
     refine zk 4 (fun K hK => ?_)
     go_simp
     refine hK.out _ _ (trivial) (fun hS => ?_)
     clear hK K
     try simp only [Act.put,zA,zB,zC]
     refine zk 8 (fun K hK => ?_)
     go_simp
     refine Calls.mono HIn.out ?_
     rintro e w3 ⟨A3,c3,rfl,ho3,hu3,hat3⟩
     have hb3:Blk w3 q 208 #[.slice A l.length c]:=(HB2.out.upd HAl.out (no_ _)).upd hu3 (own_blk_ne HO2.out HB2.out (by decide))
     have x3:=hb3.cell 0
     have f3:=hb3.free 0
     simp at x3
     go_wp2_with (fail)
     refine hK.out _ _ (trivial) (fun hS => ?_)
     clear hK K
     try simp only [Act.put,zA,zB,zC]
     refine zt 9 hS ?_
     refine zt 10 hS ?_
     refine zk 11 (fun K hK => ?_)
     go_simp
     refine hK.out _ _ (trivial) (fun hS => ?_)
     clear hK K
     try simp only [Act.put,zA,zB,zC]
     refine wpAnyH_done (by kernel_rfl) ?_ _
     rw [← HCl.out] at ho3
     have HZ:=hid (HE.out _ _ _ _ HAl.out ho3 hu3 hat3)
     clear ho3 hu3 hat3
     go_wp2
     go_end0
     exact ⟨rfl,HZ.out⟩
end Go.Proofs.YtclfmpieapbfnaaGreatDoor.Nd
end
section
namespace Go.Proofs.YtclfmpieapbfnaaGreatDoor.Nd
open Go.RowKit B Go.Proofs.YtclfmpieapbfnaaGreatDoor.Op
def DelPost (w:World) (F:Nat → Prop) (q g c N1:Nat) (l':List Rm) (e:Ending) (w':World):Prop:=
 e = .returned (.slice (some ⟨g,0,none⟩) N1 c) ∧ (∃ v,w'.cell? ⟨q,0,none⟩ = some v) ∧ w'.frozen? ⟨q,0,none⟩ = false ∧ ∃ F',Qo (w'.setCell ⟨q,0,none⟩ (.slice (some ⟨g,0,none⟩) N1 c)) F' q l' ∧ Mv F F' w (w'.setCell ⟨q,0,none⟩ (.slice (some ⟨g,0,none⟩) N1 c))
theorem del_call {w:World} {F:Nat → Prop} {q:Nat} {l:List Rm} (h:Qo w F q l) {i N1:Nat} (hi:i < l.length) (hN:l.length = N1 + 1) (hl:l.length ≤ 1000) :
 ∃ g c,w.cell? ⟨q,0,none⟩ = some (.slice (some ⟨g,0,none⟩) l.length c) ∧ Calls Tryz.prog 133 #[.slice (some ⟨g,0,none⟩) l.length c,.int .i64 i,.int .i64 ((i:Int) + 1)] w (DelPost w F q g c N1 (l.take i ++ l.drop (i + 1))):=by
 obtain ⟨A,c,hb,ho,hF,hlc,hcm⟩:=h.parts
 obtain ⟨g,cur,hA,_⟩:=own_parts ho (by omega)
 subst hA
 have e0:=hb.cell 0
 simp at e0
 have hd:=delete 0 g c i (i + 1) l.length N1 (l.flatMap rc) w ho (flat_one l) rfl hN hi
 rw [show ((i + 1:Nat):Int) = (i:Int) + 1 from by omega] at hd
 refine ⟨g,c,e0,hd.mono ?_⟩
 rintro e w' ⟨rfl,ho1,hu1⟩
 have hgq:q ≠ g:=fun e => own_blk_ne ho hb (by decide) (e ▸ rfl)
 have hb1:=hb.upd hu1 hgq
 have e1:=hb1.cell 0
 simp at e1
 have hlen:(l.take i ++ l.drop (i + 1)).length = N1:=by rw [List.length_append,List.length_take,List.length_drop]; omega
 have hfl:(l.take i ++ l.drop (i + 1)).flatMap rc = (l.flatMap rc).take (i * 5) ++ (l.flatMap rc).drop ((i + 1) * 5):=by rw [List.flatMap_append,flat_take,flat_drop]
 refine ⟨rfl,⟨_,e1⟩,hb1.free 0,Qo.stored (l':=l.take i ++ l.drop (i + 1)) hb ho hF (hu1.mono fun k _ hk => by rw [hk]; rfl) (v':=.slice (some ⟨g,0,none⟩) N1 c) (by rw [hlen,hfl]; exact ho1) (fun k hk => .inl hk) rfl⟩
theorem Mv.box {F F':Nat → Prop} {w w1 w2:World} (h:Upd No w w1) (k:Mv F F' w1 w2):Mv F F' w w2:=Mv.trans (Mv.quiet (h.old (Nat.le_refl _))) k
theorem box5 {W:World} {p:Nat} {t:TypeId} {a0 a1 a2 a3 a4:Value} (h:Blk W p t #[a0,a1,a2,a3,a4]):W.cell? ⟨p,0,none⟩ = some a0 ∧ W.cell? ⟨p,1,none⟩ = some a1 ∧ W.cell? ⟨p,2,none⟩ = some a2 ∧ W.cell? ⟨p,3,none⟩ = some a3 ∧ W.cell? ⟨p,4,none⟩ = some a4:=by
 have h0:=h.cell 0
 have h1:=h.cell 1
 have h2:=h.cell 2
 have h3:=h.cell 3
 have h4:=h.cell 4
 simp at h0 h1 h2 h3 h4
 exact ⟨h0,h1,h2,h3,h4⟩
set_option maxHeartbeats 4000000 in
set_option maxRecDepth 100000 in
theorem set_ (q:Nat) (F:Nat → Prop) (l:List Rm) (r:Rm) (w:World) (h:Qo w F q l) (hi:Inv l) :
 Calls Tryz.prog 59 #[.pointer (some ⟨q,0,none⟩),rv r] w fun e w' => e = .returned (.int .i64 (setR l r).1) ∧ ∃ F',Qo w' F' q (setR l r).2 ∧ Mv F F' w w':=by
 have HSt:Hid (setR l r = if wrongR r ≠ 0 then (wrongR r,l) else if has r.actor r.name l = false ∧ 64 ≤ l.length then (6,l) else (0,ins (del r.actor r.name l) r)):=hid rfl
 have hl64:=hi.len
 have HI:=hid hi
 have HQ:=hid h
 have HWr:=hid fun W => wrong_ r W
 have HFd:=hid fun (W:World) (hq:Qo W F q l) => find_ q F l r.actor r.name W hq (by omega)
 have HLy:=hid fun (W:World) (G:Nat → Prop) (l':List Rm) (hq:Qo W G q l') (hs:l'.Pairwise fun a b => less a b = true) (hl:l'.length + 1 ≤ 1000) => lay_ q G l' r W hq hs hl
 have HW1:Hid (∃ w1 p,w1 = w.alloc (.cells (rc r).toArray 71) ∧ p = w.heap.size ∧ Blk w1 p 71 (rc r).toArray ∧ Upd No w w1):=hid ⟨_,_,rfl,rfl,Blk.fresh _ _ _,(Upd.refl _ _).alloc _⟩
 clear h hi
 obtain ⟨ac,an,ad,ap,ak⟩:=r
 unfold rv at HWr HLy ⊢
 simp only [rc] at HW1
 simp only at HWr HFd HLy HSt ⊢
 generalize hwr:wrongR ⟨ac,an,ad,ap,ak⟩ = wr at *
 clear hwr
 go_enter Tryz.func59,Tryz.ntmps59
 go_wp2_with (fail)
 obtain ⟨w1,p,hw1,hp,hb1,hu1⟩:=HW1.out
 rw [← hw1]
 try rw [← hp]
 have HB1:=hid hb1
 have HU1:=hid hu1
 have HP:Hid (∀ k,F k → k ≠ p):=hid fun k hk e => by have:=HQ.out.lt k hk; omega
 clear hw1 hp hb1 hu1 HW1
 refine (HWr.out _).mono ?_
 rintro e w2 ⟨rfl,hu2⟩
 have HU2:=hid (HU1.out.next hu2)
 have HB2:=hid (HB1.out.upd hu2 (no_ _))
 obtain ⟨x0,x1,x2,x3,x4⟩:=box5 HB2.out
 clear hu2 HWr HB1
 by_cases hw:wr = 0
 case' neg =>
  rw [if_pos hw] at HSt
  have hw':(wr != 0) = true:=by simpa using hw
  have HE:Hid (∃ F',Qo w2 F' q l ∧ Mv F F' w w2):=hid ⟨F,HQ.out.quiet HU2.out,Mv.quiet (HU2.out.old (Nat.le_refl _))⟩
  clear hw
  go_wp2
  go_ret
  rw [HSt.out]
  exact ⟨rfl,HE.out⟩
 rw [if_neg (by simpa using hw)] at HSt
 have hw':(wr != 0) = false:=by simpa using hw
 clear hw
 have hfd:=HFd.out w2 (HQ.out.quiet HU2.out)
 unfold IxOut at hfd
 have HFi:=hid hfd
 clear hfd HFd
 go_wp2_with (fail)
 refine HFi.out.mono ?_
 rintro e w3 ⟨ri,rfl,hix,hu3⟩
 have HU3:=hid (HU2.out.next hu3)
 have HB3:=hid (HB2.out.upd hu3 (no_ _))
 have hq3:=HQ.out.quiet HU3.out
 have HQ3:=hid hq3
 obtain ⟨y0,y1,y2,y3,y4⟩:=box5 HB3.out
 clear hu3 HFi HB2 x0 x1 x2 x3 x4
 rcases hix with ⟨rfl,hh⟩ | ⟨j,hj,rfl,hk⟩
 · obtain ⟨A,c,hc,_,hlc,_⟩:=hq3.cell
   by_cases hf:64 ≤ l.length
   · have hf':(64:Int) ≤ (l.length:Int):=by omega
     rw [if_pos ⟨hh,hf⟩] at HSt
     have HE:Hid (∃ F',Qo w3 F' q l ∧ Mv F F' w w3):=hid ⟨F,HQ3.out,Mv.quiet (HU3.out.old (Nat.le_refl _))⟩
     clear hf hq3
     go_wp2
     go_ret
     rw [HSt.out]
     exact ⟨rfl,HE.out⟩
   · have hf':¬ (64:Int) ≤ (l.length:Int):=by omega
     rw [if_neg (fun h => hf h.2),del_none hh] at HSt
     have HL:=hid (HLy.out w3 F l hq3 HI.out.srt (by omega))
     clear hf hq3 HLy
     go_wp2_with (fail)
     refine HL.out.mono ?_
     rintro e w4 ⟨rfl,F4,hq4,hm4⟩
     have HE:Hid (∃ F',Qo w4 F' q (ins l ⟨ac,an,ad,ap,ak⟩) ∧ Mv F F' w w4):=hid ⟨F4,hq4,Mv.box HU3.out hm4⟩
     clear hq4 hm4 HL
     go_wp2
     go_ret
     rw [HSt.out]
     exact ⟨rfl,HE.out⟩
 · obtain ⟨N1,hN1⟩:∃ N1,l.length = N1 + 1:=⟨l.length - 1,by omega⟩
   obtain ⟨g,c,hc,hdc⟩:=del_call hq3 hj hN1 (by omega)
   have hdel:=del_at HI.out.unq hj hk
   rw [← hdel] at hdc
   unfold DelPost at hdc
   have HD:=hid hdc
   have hhas:has ac an l = true:=List.any_eq_true.2 ⟨_,List.getElem_mem hj,hk⟩
   rw [if_neg (fun h => by rw [hhas] at h; cases h.1)] at HSt
   have HInv:=hid (HI.out.del ac an)
   have HLd:=hid (del_lt hhas)
   have hj0:(0:Int) ≤ (j:Int):=by omega
   have hj6:(j:Int) < 64:=by omega
   generalize del ac an l = l2 at *
   have hN:=hid hN1
   clear hdc hdel hhas hk hq3 hN1
   go_wp2_with (fail)
   refine HD.out.mono ?_
   rintro e w4 ⟨rfl,⟨v4,hv4⟩,hf4,F5,hq5,hm5⟩
   have HQ5:=hid hq5
   have HM5:=hid (Mv.box HU3.out hm5)
   have HB5:Hid (Blk (w4.setCell ⟨q,0,none⟩ (.slice (some ⟨g,0,none⟩) N1 c)) p 71 #[.string ac,.string an,.int .i64 ad,.int .i64 ap,.int .i64 ak]):=hid (HB3.out.upd hm5.upd fun hk => HP.out p hk rfl)
   have HL:=hid (HLy.out _ F5 l2 hq5 HInv.out.srt (by have:=HLd.out; omega))
   obtain ⟨t0,t1,t2,t3,t4⟩:=box5 HB5.out
   generalize hw5:w4.setCell ⟨q,0,none⟩ (.slice (some ⟨g,0,none⟩) N1 c) = w5 at *
   clear hq5 hm5 HD HLy
   go_wp2_with (fail)
   refine HL.out.mono ?_
   rintro e w6 ⟨rfl,F6,hq6,hm6⟩
   have HE:Hid (∃ F',Qo w6 F' q (ins l2 ⟨ac,an,ad,ap,ak⟩) ∧ Mv F F' w w6):=hid ⟨F6,hq6,Mv.trans HM5.out hm6⟩
   clear hq6 hm6 HL
   go_wp2
   go_ret
   rw [HSt.out]
   exact ⟨rfl,HE.out⟩
def zr:Rm:=⟨⟨#[]⟩,⟨#[]⟩,0,0,0⟩
def put5 (w:World) (p:Nat) (r:Rm):World:=((((w.setCell ⟨p,0,none⟩ (.string r.actor)).setCell ⟨p,1,none⟩ (.string r.name)).setCell ⟨p,2,none⟩ (.int .i64 r.due)).setCell ⟨p,3,none⟩ (.int .i64 r.per)).setCell ⟨p,4,none⟩ (.int .i64 r.kind)
theorem put5_blk {w:World} {p:Nat} {t:TypeId} {a0 a1 a2 a3 a4:Value} (h:Blk w p t #[a0,a1,a2,a3,a4]) (r:Rm):Blk (put5 w p r) p t #[.string r.actor,.string r.name,.int .i64 r.due,.int .i64 r.per,.int .i64 r.kind]:=by
 have:=((((h.put 0 (.string r.actor)).put 1 (.string r.name)).put 2 (.int .i64 r.due)).put 3 (.int .i64 r.per)).put 4 (.int .i64 r.kind)
 simpa [put5] using this
theorem put5_upd (w:World) (p:Nat) (r:Rm):Upd (fun k => k = p) w (put5 w p r):=((((Upd.set1 (Upd.refl _ _) _ _).set1 _ _).set1 _ _).set1 _ _).set1 _ _
theorem put5_new {w w1:World} {p:Nat} (h:Upd No w w1) (hp:w.heap.size ≤ p) (r:Rm):Upd No w (put5 w1 p r):=h.trans (put5_upd w1 p r) fun i hi e => absurd hi (by omega)
def tell (o:Option Rm):Value:=.tuple #[rv (o.getD zr),.bool o.isSome]
set_option maxHeartbeats 1000000 in
theorem due_none (v:Value) (now:Int) (w:World) (hv:v = .pointer none ∨ ∃ q F,v = .pointer (some ⟨q,0,none⟩) ∧ Qo w F q []) :
 Calls Tryz.prog 138 #[v,.int .i64 now] w fun e w' => e = .returned (tell none) ∧ Upd No w w':=by
 have hu1:Upd No w (w.alloc (.cells #[.string ⟨#[]⟩,.string ⟨#[]⟩,.int .i64 0,.int .i64 0,.int .i64 0] 71)):=(Upd.refl _ _).alloc _
 have hb1:=Blk.fresh w 71 #[.string ⟨#[]⟩,.string ⟨#[]⟩,.int .i64 0,.int .i64 0,.int .i64 0]
 obtain ⟨z0,z1,z2,z3,z4⟩:=box5 hb1
 have g0:=hb1.free 0
 have g1:=hb1.free 1
 have g2:=hb1.free 2
 have g3:=hb1.free 3
 have g4:=hb1.free 4
 have HU:=hid hu1
 rcases hv with rfl | ⟨q,F,rfl,hq⟩
 · clear hb1 hu1
   go_enter Tryz.func138,Tryz.ntmps138
   go_wp2
   exact bodyPost_ret (v:=tell none) (by simp [results,go_sem,z0,z1,z2,z3,z4,tell,rv,zr]) rfl ⟨rfl,HU.out⟩
 · obtain ⟨A,c,hc,_,_,_⟩:=(hq.quiet hu1).cell
   clear hb1 hu1 hq
   go_enter Tryz.func138,Tryz.ntmps138
   go_wp2
   exact bodyPost_ret (v:=tell none) (by simp [results,go_sem,z0,z1,z2,z3,z4,tell,rv,zr]) rfl ⟨rfl,HU.out⟩
set_option maxHeartbeats 1000000 in
theorem due_some (q:Nat) (F:Nat → Prop) (r:Rm) (t:List Rm) (now:Int) (w:World) (h:Qo w F q (r :: t)) (hl:t.length ≤ 1000) :
 Calls Tryz.prog 138 #[.pointer (some ⟨q,0,none⟩),.int .i64 now] w fun e w' => e = .returned (tell (dueR (r :: t) now)) ∧ Upd No w w':=by
 have hu1:Upd No w (w.alloc (.cells #[.string ⟨#[]⟩,.string ⟨#[]⟩,.int .i64 0,.int .i64 0,.int .i64 0] 71)):=(Upd.refl _ _).alloc _
 have hb1:=Blk.fresh w 71 #[.string ⟨#[]⟩,.string ⟨#[]⟩,.int .i64 0,.int .i64 0,.int .i64 0]
 obtain ⟨z0,z1,z2,z3,z4⟩:=box5 hb1
 have g0:=hb1.free 0
 have g1:=hb1.free 1
 have g2:=hb1.free 2
 have g3:=hb1.free 3
 have g4:=hb1.free 4
 have HU:=hid hu1
 have HB2:=hid (Blk.fresh w 71 #[.string r.actor,.string r.name,.int .i64 r.due,.int .i64 r.per,.int .i64 r.kind])
 have HU2:Hid (Upd No w (w.alloc (.cells #[.string r.actor,.string r.name,.int .i64 r.due,.int .i64 r.per,.int .i64 r.kind] 71))):=hid ((Upd.refl _ _).alloc _)
 obtain ⟨A,c,hc,hrd,hlc,hcm⟩:=(h.quiet hu1).cell
 obtain ⟨ad,rfl,hat⟩:=rm_at hrd (i:=0) (by simp)
 rw [Nat.zero_mul,add_none] at hat
 have hat0:At (w.alloc (.cells #[.string ⟨#[]⟩,.string ⟨#[]⟩,.int .i64 0,.int .i64 0,.int .i64 0] 71)) ad r:=hat
 obtain ⟨x0,x1,x2,x3,x4⟩:=hat0
 have HD:Hid (dueR (r :: t) now = if now < r.due then none else some r):=hid rfl
 obtain ⟨N,hN⟩:∃ N,N = (r :: t).length:=⟨_,rfl⟩
 rw [← hN] at hc
 have hN1:(0:Int) < (N:Int):=by rw [hN,List.length_cons]; omega
 have hN2:((N:Int) == 0) = false:=by rw [beq_eq_false_iff_ne]; omega
 clear hb1 hu1 h hrd hat hlc hN
 obtain ⟨ac,an,du,ap,ak⟩:=r
 simp only at x0 x1 x2 x3 x4 HB2 HU2 HD ⊢
 by_cases hnd:now < du
 · rw [if_pos hnd] at HD
   rw [HD.out]
   go_enter Tryz.func138,Tryz.ntmps138
   go_wp2
   exact bodyPost_ret (v:=tell none) (by simp [results,go_sem,z0,z1,z2,z3,z4,tell,rv,zr]) rfl ⟨rfl,HU.out⟩
 · rw [if_neg hnd] at HD
   rw [HD.out]
   go_enter Tryz.func138,Tryz.ntmps138
   go_wp2
   obtain ⟨q0,q1,q2,q3,q4⟩:=box5 HB2.out
   exact bodyPost_ret (v:=tell (some ⟨ac,an,du,ap,ak⟩)) (by simp [results,go_sem,q0,q1,q2,q3,q4,tell,rv]) rfl ⟨rfl,HU2.out⟩
theorem due_ (q:Nat) (F:Nat → Prop) (l:List Rm) (now:Int) (w:World) (h:Qo w F q l) (hl:l.length ≤ 1000) :
 Calls Tryz.prog 138 #[.pointer (some ⟨q,0,none⟩),.int .i64 now] w fun e w' => e = .returned (tell (dueR l now)) ∧ Upd No w w':=by
 cases l with
 | nil => exact due_none _ now w (.inr ⟨q,F,rfl,h⟩)
 | cons r t => exact due_some q F r t now w h (by simp at hl; omega)
end Go.Proofs.YtclfmpieapbfnaaGreatDoor.Nd
end
