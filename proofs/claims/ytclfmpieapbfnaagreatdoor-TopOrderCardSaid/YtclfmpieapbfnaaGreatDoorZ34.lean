/- Part 34: lemmas, no conditions. -/
import Derived.Test.YtclfmpieapbfnaaGreatDoorZ30
import Derived.Test.YtclfmpieapbfnaaGreatDoorZ32
import Derived.Test.YtclfmpieapbfnaaGreatDoorZ16
import Derived.Test.YtclfmpieapbfnaaGreatDoorZ12
import Derived.Test.YtclfmpieapbfnaaGreatDoorZ18
import Derived.ChangeKeysEq
import Derived.Test.YtclfmpieapbfnaaGreatDoorZ25
set_option maxHeartbeats 4000000
namespace Go.Proofs.YtclfmpieapbfnaaGreatDoor
set_option linter.unusedVariables false
set_option linter.unusedSimpArgs false
section
namespace Pk
open Go.RowKit B Cw Lt Ib
theorem at4 {w:World} {A:Option Addr} {ps:List Lv} (h:Rd w 4 A ps.length (pcells ps)) {i:Nat} (hi:i < ps.length) :
 ∃ ad,A = some ad ∧ w.cell? (ad.add (i * 4)) = some (.string ps[i].1.1) ∧ w.cell? ⟨(ad.add (i * 4)).block,(ad.add (i * 4)).off + 1,none⟩ = some (.int .u64 ps[i].1.2.1) ∧
  w.cell? ⟨(ad.add (i * 4)).block,(ad.add (i * 4)).off + 2,none⟩ = some (.int .i64 ps[i].1.2.2.1) ∧ w.cell? ⟨(ad.add (i * 4)).block,(ad.add (i * 4)).off + 3,none⟩ = some ps[i].2:=by
 obtain ⟨ad,rfl,hcell⟩:=Op.row_at (f:=fun x:Lv => cells x.1 x.2) (k:=4) h (fun _ _ => rfl) rfl (i:=i) (by omega)
 have c0:=hcell 0 (by omega)
 have c1:=hcell 1 (by omega)
 have c2:=hcell 2 (by omega)
 have c3:=hcell 3 (by omega)
 rw [add_field _ _ _ (by omega)] at c1 c2 c3
 exact ⟨ad,rfl,c0,c1,c2,c3⟩
open Lc (lb Wf)
open Cm (num num_length)
def pkb (xs:List L):List Int:=xs.flatMap lb
def packL (xs:List L):List Int:=if xs.all formed then num xs.length ++ pkb xs else []
def packC (xs:List L):Int:=if xs.all formed then 0 else 1
def PkOut (w:World) (xs:List L) (e:Ending) (w':World):Prop:=∃ A c,e = .returned (.tuple #[.slice A (packL xs).length c,.int .i64 (packC xs)]) ∧ (packL xs).length ≤ c ∧ c ≤ 9223372036854775807 ∧ Rn w' .u8 A (packL xs) ∧ Upd No w w' ∧ ∀ ad,A = some ad → w.heap.size ≤ ad.block
theorem PkOut.of {w:World} {xs:List L} {e:Ending} {w':World} (h:∃ A c,e = .returned (.tuple #[.slice A (packL xs).length c,.int .i64 (packC xs)]) ∧ (packL xs).length ≤ c ∧ c ≤ 9223372036854775807 ∧ Rn w' .u8 A (packL xs) ∧ Upd No w w' ∧ ∀ ad,A = some ad → w.heap.size ≤ ad.block):PkOut w xs e w':=h
structure Sm (x:L):Prop where
 s:x.1.size ≤ 1000
 a:x.2.2.2.length ≤ 1000
 wf:Wf x
theorem pkb_le (xs:List L) (h:∀ x ∈ xs,Sm x):(pkb xs).length ≤ 10100 * xs.length:=by
 induction xs with
 | nil => simp [pkb]
 | cons x r ih =>
  have h1:=Lc.lb_le x
  have h2:=h x List.mem_cons_self
  have h3:=ih fun z hz => h z (List.mem_cons_of_mem _ hz)
  have h4:=h2.s
  have h5:=h2.a
  simp only [pkb,List.flatMap_cons,List.length_append,List.length_cons] at *
  omega
structure Wo (w W:World) (F:Nat → Prop) (q:Nat) (bs:List Int):Prop where
 wr:Wr W F q bs
 own:∀ k,F k → w.heap.size ≤ k
 upd:Upd No w W
theorem Wo.moved {w W W':World} {F F':Nat → Prop} {q:Nat} {bs cs:List Int} (h:Wo w W F q bs) (hw:Wr W' F' q cs) (hm:Mv F F' W W'):Wo w W' F' q cs:=
 ⟨hw,fun k hk => (hm.sub k hk).elim (h.own k) fun hs => Nat.le_trans h.upd.size hs,h.upd.trans hm.upd fun i hi hf => by have:=h.own i hf; omega⟩
theorem Wo.quiet {w W W':World} {F:Nat → Prop} {q:Nat} {bs:List Int} (h:Wo w W F q bs) (hu:Upd No W W'):Wo w W' F q bs:=⟨h.wr.keep hu fun _ _ => no_ _,h.own,h.upd.next hu⟩
set_option maxRecDepth 100000 in
theorem pack (A:Option Addr) (c:Nat) (ps:List Lv) (w:World) (hr:Rd w 4 A ps.length (pcells ps)) (hin:∀ x ∈ ps,In w x.1 x.2) (hs:∀ x ∈ ps,Sm x.1) (hl:ps.length ≤ 301) :
 Calls Tryz.prog 183 #[.slice A ps.length c] w fun e w' => PkOut w (ps.map (·.1)) e w':=by
 have HR:=hid (And.intro hr (And.intro hin hs))
 have HP:Hid ((∀ j,(pkb ((ps.map (·.1)).take j)).length ≤ 10100 * 301) ∧ (ps.map (·.1)).length = ps.length):=hid ⟨fun j => by
  have h1:=pkb_le ((ps.map (·.1)).take j) fun x hx => by
   obtain ⟨z,hz,rfl⟩:=List.mem_map.1 (List.mem_of_mem_take hx)
   exact hs z hz
  rw [List.length_take,List.length_map] at h1
  omega,by simp⟩
 have HNl:=hid (num_length (ps.length:Int)).2
 clear hr hin hs
 have hwn:IntKind.u64.wrap (ps.length:Int) = (ps.length:Int):=by
  rw [IntKind.wrap_u64]
  omega
 go_enter Tryz.func183,Tryz.ntmps183
 go_wp2_with (fail)
 refine Calls.mono (newWriter w) ?_
 rintro e w1 ⟨rfl,rfl⟩
 have HW:Hid (∃ w1 q F1,w1 = w.alloc (.cells #[.slice none 0 0] 276) ∧ q = w.heap.size ∧ Wo w w1 F1 q []):=hid ⟨_,_,_,rfl,rfl,⟨Wr.new w,fun k hk => by omega,(Upd.refl _ _).alloc _⟩⟩
 obtain ⟨w1,q,F1,hw1,hq,hO1⟩:=HW.out
 rw [← hw1,← hq]
 have HO1:=hid hO1
 clear hw1 hq hO1 HW
 go_wp2_with (fail)
 refine Calls.mono (number q [] (ps.length:Int) F1 w1 HO1.out.wr (by omega) (by omega) (by simp)) ?_
 rintro e w2 ⟨rfl,F2,hw2,hm2⟩
 have HO2:=hid (HO1.out.moved hw2 hm2)
 rw [List.nil_append] at HO2
 clear hw2 hm2 HO1 F1 hwn
 go_wp2_with (fail)
 go_loopw [15] (fun v15 W => ∃ (j:Nat) (F':Nat → Prop),j ≤ ps.length ∧ v15 = .int .i64 j ∧ Hid (Wo w W F' q (num (ps.length:Int) ++ pkb ((ps.map (·.1)).take j))) ∧ Hid (∀ x ∈ (ps.map (·.1)).take j,formed x = true)) (fun v15 _ => ps.length - (intOf v15).toNat)
 case atStart => exact ⟨0,F2,by omega,rfl,hid (by simpa [pkb] using HO2.out),hid fun x hx => by simp at hx⟩
 case round =>
  clear HO2
  obtain ⟨j,F',hj,rfl,HO,HH⟩:=hrel
  by_cases hlt:j < ps.length
  · obtain ⟨ad,rfl,x0,x1,x2,x3⟩:=at4 (HR.out.1.upd (by omega) HO.out.upd fun _ _ => no_ _) hlt
    have hi:=HR.out.2.1 _ (List.getElem_mem hlt)
    have hsm:=HR.out.2.2 _ (List.getElem_mem hlt)
    have HT:Hid ((ps.map (·.1)).take (j + 1) = (ps.map (·.1)).take j ++ [ps[j].1] ∧ ps[j].1 ∈ ps.map (·.1)):=hid ⟨by rw [List.take_succ_eq_append_getElem (by simpa using hlt)]; simp,List.mem_map_of_mem (List.getElem_mem hlt)⟩
    generalize ps[j] = y at *
    obtain ⟨x,u⟩:=y
    obtain ⟨Au,cu,hue,hqr⟩:=hi
    simp only at hue x0 x1 x2 x3 hsm HT
    subst hue
    have hIn:In w x (.slice Au x.2.2.2.length cu):=⟨Au,cu,rfl,hqr⟩
    have HIn:=hid fun W (hu:Upd No w W) => hIn.upd hu fun _ _ => no_ _
    have HSm:=hid hsm
    have hj2:(j:Int) < (ps.length:Int):=by omega
    have HF:=hid fun W (hu:Upd No w W) => formed_ x (.slice Au x.2.2.2.length cu) W (HIn.out W hu)
    unfold val at HF
    clear hqr hIn hsm
    go_wp2_with (fail)
    have HW:Hid (∃ w6 h6,w6 = wr.alloc (.cells #[.string x.1,.int .u64 x.2.1,.int .i64 x.2.2.1,.slice Au x.2.2.2.length cu] 60) ∧ h6 = wr.heap.size ∧ Wo w w6 F' q (num (ps.length:Int) ++ pkb ((ps.map (·.1)).take j)) ∧ Blk w6 h6 60 #[.string x.1,.int .u64 x.2.1,.int .i64 x.2.2.1,.slice Au x.2.2.2.length cu]):=
     hid ⟨_,_,rfl,rfl,HO.out.quiet ((Upd.refl _ _).alloc _),Blk.fresh _ _ _⟩
    obtain ⟨w6,h6,hw6,hh6,hO6,hB6⟩:=HW.out
    rw [← hw6,← hh6]
    have H6:=hid (And.intro hO6 hB6)
    clear hw6 hh6 hO6 hB6 HW x0 x1 x2 x3 HO
    refine Calls.mono (HF.out _ H6.out.1.upd) ?_
    rintro e w7 ⟨rfl,hu7⟩
    have H7:=hid (And.intro (H6.out.1.quiet hu7) (H6.out.2.upd hu7 (no_ _)))
    clear hu7 H6 HF
    rcases hfo:formed x with _ | _
    · have hall:Hid ((ps.map (·.1)).all formed = false):=hid (List.all_eq_false.2 ⟨x,HT.out.2,by rw [hfo]; simp⟩)
      clear hfo
      have hp:packL (ps.map (·.1)) = [] ∧ packC (ps.map (·.1)) = 1:=⟨by unfold packL; rw [hall.out]; rfl,by unfold packC; rw [hall.out]; rfl⟩
      have HPp:=hid hp
      clear hp
      go_wp2
      go_ret2
      exact .of ⟨none,0,by rw [HPp.out.1,HPp.out.2]; rfl,by rw [HPp.out.1]; simp,by omega,by rw [HPp.out.1]; exact Rd.nil_ _ _ _,H7.out.1.upd,fun ad e => (by cases e)⟩
    · have HFo:=hid hfo
      clear hfo
      obtain ⟨y0,y1,y2,y3⟩:=box H7.out.2
      have hlay:=Lc.lay_ q (num (ps.length:Int) ++ pkb ((ps.map (·.1)).take j)) x (.slice Au x.2.2.2.length cu) F' w7 H7.out.1.wr (HIn.out w7 H7.out.1.upd) (fun h0 k hk hf => by
       have h1:=H7.out.1.own k hf
       obtain ⟨Ab,cb,he,hrb,_⟩:=HIn.out w (Upd.refl _ _)
       simp only [Value.slice.injEq,true_and] at he
       obtain ⟨rfl,rfl⟩:=he
       obtain ⟨ad2,hA2,hlt2⟩:=Rd.lt hrb h0 (by omega)
       subst hA2
       have:ad2.block = k:=by simpa [Value.ownBlock] using hk
       omega) HSm.out.wf (by
       have h1:=HP.out.1 j
       have h2:=HNl.out
       have h3:=HSm.out.s
       have h4:=HSm.out.a
       rw [List.length_append]
       omega)
      unfold val at hlay
      have HLay:=hid hlay
      clear hlay
      go_wp2_with (fail)
      refine Calls.mono HLay.out ?_
      rintro e w8 ⟨rfl,F8,hw8,hm8⟩
      have HO8:Hid (Wo w w8 F8 q (num (ps.length:Int) ++ pkb ((ps.map (·.1)).take (j + 1)))):=hid (by
       have h:=H7.out.1.moved hw8 hm8
       rw [HT.out.1]
       unfold pkb
       rw [List.flatMap_append,List.flatMap_cons,List.flatMap_nil,List.append_nil,← List.append_assoc]
       exact h)
      clear hw8 hm8 y0 y1 y2 y3 HLay H7
      go_wp2
      go_roundw
      case rel => exact ⟨j + 1,F8,by omega,by go_num,HO8,hid fun z hz => by
       rw [HT.out.1] at hz
       rcases List.mem_append.1 hz with hz | hz
       · exact HH.out z hz
       · obtain rfl:=List.mem_singleton.1 hz
         exact HFo.out⟩
      case measure => simp [intOf]; omega
  · obtain rfl:j = ps.length:=by omega
    have HA:Hid ((ps.map (·.1)).all formed = true ∧ (ps.map (·.1)).take ps.length = ps.map (·.1)):=hid (by
     have ht:(ps.map (·.1)).take ps.length = ps.map (·.1):=List.take_of_length_le (by simp)
     have h:=HH.out
     rw [ht] at h
     exact ⟨List.all_eq_true.2 h,ht⟩)
    have hp:packL (ps.map (·.1)) = num (ps.length:Int) ++ pkb (ps.map (·.1)) ∧ packC (ps.map (·.1)) = 0:=⟨by unfold packL; rw [HA.out.1,HP.out.2]; rfl,by unfold packC; rw [HA.out.1]; rfl⟩
    have HPp:=hid hp
    have HO9:Hid (Wo w wr F' q (packL (ps.map (·.1)))):=hid (by rw [hp.1]; have h:=HO.out; rwa [HA.out.2] at h)
    have hlen:(packL (ps.map (·.1))).length ≤ 140737488355328:=by
     have h1:=HP.out.1 ps.length
     rw [HA.out.2] at h1
     have h2:=HNl.out
     rw [hp.1,List.length_append]
     omega
    have HBy:=hid (bytes_ q (packL (ps.map (·.1))) F' wr HO9.out.wr hlen)
    clear hp hlen
    go_wp2_with (fail)
    refine Calls.mono HBy.out ?_
    rintro e w10 ⟨v,rfl,ho10,hb10⟩
    obtain ⟨A10,c10,rfl,hc10,hcm⟩:=own_shape ho10
    have HE:Hid ((packL (ps.map (·.1))).length ≤ c10 ∧ c10 ≤ 9223372036854775807 ∧ Rn w10 .u8 A10 (packL (ps.map (·.1))) ∧ Upd No w w10 ∧ ∀ ad,A10 = some ad → w.heap.size ≤ ad.block):=hid ⟨hc10,by simpa [maxLen] using hcm,Rd.of_own ho10,HO9.out.upd.next (Upd.of_below No hb10),fun ad e => by have h1:=(ho10.lt ad.block (by simp [Value.ownBlock,e])).1; have h2:=HO9.out.upd.size; omega⟩
    clear ho10 hb10 hc10 hcm HBy
    go_wp2
    go_ret2
    exact .of ⟨A10,c10,by rw [HPp.out.2]; rfl,HE.out⟩
end Pk
end
section
namespace Pk
open Go.RowKit B Lt Ib Lk Lj Cr
open Lc (lb Wf)
open Cm (stN rdNum num)
theorem readL_pkb (r:List Int):∀ xs:List L,(∀ x ∈ xs,formed x = true ∧ Wf x) → readL xs.length (pkb xs ++ r) = some (xs,r):=by
 intro xs
 induction xs with
 | nil => intro _; rfl
 | cons x t ih =>
  intro h
  have h1:=h x List.mem_cons_self
  have h2:=ih fun z hz => h z (List.mem_cons_of_mem _ hz)
  have e:pkb (x :: t) ++ r = lb x ++ (pkb t ++ r):=by simp [pkb]
  rw [e,List.length_cons,readL,Lz.take_back x _ h1.1 h1.2]
  simp only [if_true,h2,Option.map_some]
theorem unp_pack (xs:List L) (h:∀ x ∈ xs,formed x = true ∧ Wf x) (hl:xs.length ≤ 1000):unpL (packL xs) = (xs,0):=by
 have ha:xs.all formed = true:=List.all_eq_true.2 fun x hx => (h x hx).1
 have hr:=readL_pkb [] xs h
 rw [List.append_nil] at hr
 unfold unpL packL
 rw [ha]
 simp only [if_true]
 rw [Lz.back_num (xs.length:Int) (pkb xs) (by omega) (by omega)]
 simp only [Bool.false_eq_true,if_false,Int.toNat_natCast,hr]
theorem dec_lb (x:L) (hf:formed x = true) (hw:Wf x):decL (lb x) = (x,0):=by
 have h:=Lz.take_back x [] hf hw
 rw [List.append_nil] at h
 unfold decL
 rw [h]
 rfl
end Pk
end
section
namespace Pk
open Go.RowKit B Cw Cr Cd Lt Ib Lk Ls
open Cm (stN)
theorem Row.push2 {w w2 w3:World} {F:Nat → Prop} {v:Value} {ps:List Lv} {x:L} {u:Value} {A3:Option Addr} {c3:Nat}
 (h2:Sl w 0 60 4 v ps.length (pcells ps)) (h3:∀ x ∈ ps,In w x.1 x.2 ∧ ∀ k,x.2.ownBlock = some k → F k ∧ ∃ cs,Blk w k 2 cs) (h4:∀ k,v.ownBlock = some k → F k)
 (hv:In w2 x u) (hvl:∀ k,u.ownBlock = some k → ∃ cs,Blk w2 k 2 cs)
 (hu2:Upd No w w2) (ho:Sl w3 0 60 4 (.slice A3 (ps.length + 1) c3) (ps.length + 1) (pcells ps ++ cells x u)) (hg:Upd (fun k => v.ownBlock = some k) w2 w3) :
 Row w3 (fun k => F k ∨ u.ownBlock = some k ∨ (Value.slice A3 (ps.length + 1) c3).ownBlock = some k) (.slice A3 (ps.length + 1) c3) (ps.map (·.1) ++ [x]):=by
 have hvv:∀ k,v.ownBlock = some k → k < w.heap.size:=fun k hk => (h2.lt k hk).2
 refine ⟨ps ++ [(x,u)],by simp,?_,?_,fun k hk => .inr (.inr hk)⟩
 · have e:pcells (ps ++ [(x,u)]) = pcells ps ++ cells x u:=by simp [pcells]
   rw [List.length_append,e]
   exact ho
 · have keep:∀ k cs,Blk w2 k 2 cs → Blk w3 k 2 cs:=fun k cs hB => hB.upd hg fun h => by
    obtain ⟨c2,hb⟩:=h2.blk h
    exact Blk.ne_type hB (hb.upd hu2 (no_ _)) (by decide) rfl
   have nev:∀ k cs,Blk w2 k 2 cs → v.ownBlock ≠ some k:=fun k cs hB h => by
    obtain ⟨c2,hb⟩:=h2.blk h
    exact Blk.ne_type hB (hb.upd hu2 (no_ _)) (by decide) rfl
   intro y hy
   rcases List.mem_append.1 hy with hy | hy
   · obtain ⟨g1,g2⟩:=h3 y hy
     exact ⟨(g1.upd hu2 (fun _ _ => no_ _)).upd hg fun g hg' h => (g2 g hg').2.elim fun cs hB => nev g cs (hB.upd hu2 (no_ _)) h,fun k hk => ⟨.inl (g2 k hk).1,(g2 k hk).2.elim fun cs hB => ⟨cs,keep k cs (hB.upd hu2 (no_ _))⟩⟩⟩
   · obtain rfl:y = (x,u):=List.mem_singleton.1 hy
     exact ⟨hv.upd hg fun g hg' h => (hvl g hg').elim fun cs hB => nev g cs hB h,fun k hk => ⟨.inr (.inl hk),(hvl k hk).elim fun cs hB => ⟨cs,keep k cs hB⟩⟩⟩
def UpOut (w:World) (r:List L × Int) (e:Ending) (w':World):Prop:=∃ A c,e = .returned (.tuple #[.slice A r.1.length c,.int .i64 r.2]) ∧ RowR w' (.slice A r.1.length c) r.1 ∧ Upd No w w'
theorem UpOut.of {w:World} {r:List L × Int} {e:Ending} {w':World} (h:∃ A c,e = .returned (.tuple #[.slice A r.1.length c,.int .i64 r.2]) ∧ RowR w' (.slice A r.1.length c) r.1 ∧ Upd No w w'):UpOut w r e w':=h
theorem Row.nil (w:World) (F:Nat → Prop):Row w F (.slice none 0 0) []:=⟨[],rfl,Sl.nil _ _ _ _,by simp,by intro k hk; simp [Value.ownBlock] at hk⟩
def UpOw (w:World) (r:List L × Int) (e:Ending) (w':World):Prop:=∃ A c,e = .returned (.tuple #[.slice A r.1.length c,.int .i64 r.2]) ∧ (∃ F,Row w' F (.slice A r.1.length c) r.1 ∧ ∀ k,F k → w.heap.size ≤ k) ∧ Upd No w w'
theorem UpOw.of {w:World} {r:List L × Int} {e:Ending} {w':World} (h:∃ A c,e = .returned (.tuple #[.slice A r.1.length c,.int .i64 r.2]) ∧ (∃ F,Row w' F (.slice A r.1.length c) r.1 ∧ ∀ k,F k → w.heap.size ≤ k) ∧ Upd No w w'):UpOw w r e w':=h
theorem no_row (w w':World):∃ F,Row w' F (.slice none 0 0) [] ∧ ∀ k,F k → w.heap.size ≤ k:=⟨fun _ => False,Row.nil _ _,fun k h => h.elim⟩
def endL:Option (List L × List Int) → List L × Int
 | some (xs,[]) => (xs,0)
 | _ => ([],2)
theorem unpL_eq {l r0:List Int} {n:Int} {b0:Bool} (hs:stN l false = (n,r0,b0)):unpL l = if b0 then ([],2) else endL (readL n.toNat r0):=by
 unfold unpL endL
 rw [hs]
 rfl
structure Us (w W:World) (T:TypeId) (R:Nat → Prop) (p nn j:Nat) (r0:List Int) (b0:Bool) (v:Value) (xs:List L) (rest:List Int):Prop where
 row:∃ F,Row W F v xs ∧ (∀ k,F k → ¬ R k) ∧ ∀ k,F k → w.heap.size ≤ k
 rr:∃ A c,Rr T W R p A c rest b0
 old:w.heap.size ≤ p
 upd:Upd No w W
 len:xs.length = j
 bad:b0 = true → nn = 0
 eq:readL nn r0 = (readL (nn - j) rest).map fun q => (xs ++ q.1,q.2)
theorem readL_step {nn j:Nat} {r0 rest r1:List Int} {xs:List L} {x:L} {bd:Bool} (h:readL nn r0 = (readL (nn - j) rest).map fun q => (xs ++ q.1,q.2)) (hj:j < nn) (he:takeL rest false = (x,r1,bd,true)) :
 readL nn r0 = (readL (nn - (j + 1)) r1).map fun q => (xs ++ [x] ++ q.1,q.2):=by
 rw [h,show nn - j = nn - (j + 1) + 1 from by omega,readL,he]
 simp only [if_true]
 rcases readL (nn - (j + 1)) r1 with _ | ⟨ys,r2⟩
 · rfl
 · simp
theorem readL_stop {nn j:Nat} {r0 rest r1:List Int} {xs:List L} {x:L} {bd:Bool} (h:readL nn r0 = (readL (nn - j) rest).map fun q => (xs ++ q.1,q.2)) (hj:j < nn) (he:takeL rest false = (x,r1,bd,false)):readL nn r0 = none:=by
 rw [h,show nn - j = nn - (j + 1) + 1 from by omega,readL,he]
 rfl
set_option maxRecDepth 100000 in
theorem unpack_ {w:World} {A:Option Addr} {c:Nat} {l:List Int} (hr:Rn w .u8 A l) (hc:l.length ≤ c) (hl:l.length ≤ 2000000000000) (hm:c ≤ 9223372036854775807) (hb:Byte l) :
 Calls Tryz.prog 102 #[.slice A l.length c] w fun e w' => UpOw w (unpL l) e w':=by
 have HN:=hid (newReader A c l w hr (by omega) hb)
 clear hr hb
 go_enter Tryz.func102,Tryz.ntmps102
 go_wp2_with (fail)
 refine HN.out.mono ?_
 rintro e w2 ⟨R,p,A2,c2,rfl,hr2,ho2,hb2⟩
 obtain ⟨n,r0,b0,hs⟩:∃ n r0 b0,stN l false = (n,r0,b0):=⟨_,_,_,rfl⟩
 have hrange:=stN_range l false hr2.byte
 have hlen:=stN_len hs
 rw [hs] at hrange
 simp only at hrange
 have hbad:b0 = true → n = 0 ∧ r0 = []:=fun h => by
  have:=Ce.stN_bad l false hr2.nil (by rw [hs]; exact h)
  rw [hs] at this
  exact this
 have HBad:=hid hbad
 have HU:=hid (unpL_eq hs)
 have HC:=hid (rnumber_eq hr2 hs)
 have H2:=hid (And.intro (ho2 p hr2.here) (Upd.of_below No hb2))
 clear hr2 ho2 hb2 hs HN hbad
 go_wp2_with (fail)
 refine HC.out.mono ?_
 rintro e w3 ⟨rfl,A3,c3,hr3,hu3⟩
 have H3:=hid (And.intro hr3 (H2.out.2.trans hu3 fun i hi e => by have:=H2.out.1; omega))
 have HLf:=hid (left p r0.length c3 A3 (.bool b0) w3 hr3.blk)
 have hwl:IntKind.u64.wrap (r0.length:Int) = (r0.length:Int):=by
  rw [IntKind.wrap_u64]
  omega
 clear hr3 hu3 HC
 go_wp2_with (fail)
 refine HLf.out.mono ?_
 rintro e w4 ⟨rfl,rfl⟩
 by_cases hgt:(r0.length:Int) < n
 · have hout:Hid (unpL l = ([],2)):=hid (by
    rw [HU.out,readL_many (by omega)]
    rcases b0 with _ | _ <;> rfl)
   go_wp2
   go_ret2
   exact .of ⟨none,0,by rw [hout.out]; rfl,by rw [hout.out]; exact no_row _ _,H3.out.2⟩
 obtain ⟨nn,rfl⟩:∃ nn:Nat,n = nn:=⟨n.toNat,by omega⟩
 rw [Int.toNat_natCast] at HU
 have hnn:nn ≤ r0.length:=by omega
 have hgtn:¬ r0.length < nn:=by omega
 have hgtd:decide (r0.length < nn) = false:=decide_eq_false hgtn
 have hS0:Us w w3 223 R p nn 0 r0 b0 (.slice none 0 0) [] r0:=⟨⟨fun _ => False,Row.nil _ _,fun k h => h.elim,fun k h => h.elim⟩,⟨_,_,H3.out.1⟩,H2.out.1,H3.out.2,rfl,fun h => by have:=(HBad.out h).1; omega,by
  rw [Nat.sub_zero]
  rcases readL nn r0 with _ | ⟨ys,r2⟩ <;> simp⟩
 have HS0:=hid hS0
 clear hS0 HLf hwl hrange
 go_wp2_with (fail)
 go_loopw [6,19] (fun v6 v19 W => ∃ (j:Nat) (xs:List L) (rest:List Int) (Av:Option Addr) (cv:Nat),j ≤ nn ∧ v19 = .int .u64 j ∧ v6 = .slice Av xs.length cv ∧ Hid (Us w W 223 R p nn j r0 b0 (.slice Av xs.length cv) xs rest)) (fun _ v19 _ => nn - (intOf v19).toNat)
 case atStart => exact ⟨0,[],r0,none,0,by omega,rfl,rfl,HS0⟩
 case round =>
  clear HS0
  obtain ⟨j,xs,rest,Av,cv,hj,rfl,rfl,HS⟩:=hrel
  by_cases hlt:j < nn
  · have hb0:b0 = false:=by
     rcases b0 with _ | _
     · rfl
     · have:=HS.out.bad rfl
       omega
    subst hb0
    obtain ⟨Ar,cr,hrr⟩:=HS.out.rr
    have hpR:=hrr.here
    have hplt:=hrr.lt p hpR
    have HLt:=hid hrr.lt
    have HT:=hid (take_ R p cr Ar rest false wr hrr)
    unfold TkOut at HT
    obtain ⟨x,r1,b1,ok,he⟩:∃ x r1 b1 ok,takeL rest false = (x,r1,b1,ok):=⟨_,_,_,_,rfl⟩
    rw [he] at HT
    simp only at HT
    have HE:=hid he
    have hj2:(j:Int) < (nn:Int):=by omega
    have hwj:IntKind.u64.wrap ((j:Int) + 1) = (j:Int) + 1:=by
     rw [IntKind.wrap_u64]
     omega
    have HWJ:=hid hwj
    clear hrr he hwj
    go_wp2_with (fail)
    refine HT.out.mono ?_
    rintro e w5 ⟨v5,A5,c5,rfl,hv5,hvo,hr5,hu5⟩
    unfold val
    obtain ⟨Au,cu,rfl,hvq⟩:=hv5
    have hIn:In w5 x (.slice Au x.2.2.2.length cu):=⟨Au,cu,rfl,hvq⟩
    have HV:=hid (And.intro hIn hvo)
    have HR5:=hid hr5
    have HU5:=hid hu5
    have hupd:Upd No w w5:=HS.out.upd.trans hu5 fun i hi e => by have:=HS.out.old; omega
    have HUpd:=hid hupd
    clear hvq hIn hvo hr5 hu5 hupd HT
    rcases ok with _ | _
    · have hout:Hid (unpL l = ([],2)):=hid (by
       rw [HU.out,readL_stop HS.out.eq hlt HE.out]
       rfl)
      go_wp2
      go_ret2
      exact .of ⟨none,0,by rw [hout.out]; rfl,by rw [hout.out]; exact no_row _ _,HUpd.out.alloc _⟩
    · have hb1:b1 = false:=(takeL_len HE.out).2
      subst hb1
      obtain ⟨F,hrow,hFR,hFo⟩:=HS.out.row
      obtain ⟨ps,hps,hs,hin,hvF⟩:=hrow.upd HU5.out (fun k hk e => hFR k hk (e ▸ hpR))
      have hpl:xs.length = ps.length:=by rw [← hps]; simp
      have hxl:=HS.out.len
      have hpj:ps.length ≤ 2000000000000:=by omega
      have HRw:=hid (And.intro hps (And.intro hs (And.intro hin (And.intro hvF (And.intro hFR hFo)))))
      rw [hpl] at HRw ⊢
      clear hps hs hin hvF hFR hFo hrow hpl hxl
      have HLit:Hid (∀ o,Rd ((w5.alloc o).alloc (.cells #[.string x.1,.int .u64 x.2.1,.int .i64 x.2.2.1,.slice Au x.2.2.2.length cu] 60)) 4 (some ⟨w5.heap.size + 1,0,none⟩) 1 (cells x (.slice Au x.2.2.2.length cu))):=hid fun o => by
       have:=Rd_lit (w5.alloc o) 60 4 1 (cells x (.slice Au x.2.2.2.length cu)) rfl
       rw [show (w5.alloc o).heap.size = w5.heap.size + 1 from by simp] at this
       exact this
      go_wp2_with (at_builtin; go_must (refine ap_sl 0 rfl (.tmp 28) (.tmp 30) 52 60 (.agg #[.string ⟨#[]⟩,.int .u64 0,.int .i64 0,.slice none 0 0]) 4 56 rfl Tryz.underlying52 lt_info rfl (by omega) (.slice Av ps.length cv) ps.length (pcells ps) (some ⟨w5.heap.size + 1,0,none⟩) 1 1 (cells x (.slice Au x.2.2.2.length cu)) rfl rfl ((HRw.out.2.1.alloc _).alloc _) (HLit.out _) (cells_one HV.out.1) (by omega) (by omega) (Nat.zero_le _) ?_); intro A6 c6 w6 ho6 hg6 hat6)
      have hus:=HU5.out.size
      have hal:Upd No w5 ((w5.alloc (.cells #[.string x.1,.int .u64 x.2.1,.int .i64 x.2.2.1,.slice Au x.2.2.2.length cu] 60)).alloc (.cells #[.string x.1,.int .u64 x.2.1,.int .i64 x.2.2.1,.slice Au x.2.2.2.length cu] 60)):=((Upd.refl No w5).alloc _).alloc _
      have hrow:=Row.push2 HRw.out.2.1 HRw.out.2.2.1 HRw.out.2.2.2.1 (HV.out.1.upd hal fun _ _ => no_ _) (fun k hk => (HV.out.2 k hk).2.elim fun cs h => ⟨cs,h.upd hal (no_ _)⟩) hal ho6 hg6
      rw [HRw.out.1] at hrow
      have hsz:w5.heap.size ≤ ((w5.alloc (.cells #[.string x.1,.int .u64 x.2.1,.int .i64 x.2.2.1,.slice Au x.2.2.2.length cu] 60)).alloc (.cells #[.string x.1,.int .u64 x.2.1,.int .i64 x.2.2.1,.slice Au x.2.2.2.length cu] 60)).heap.size:=by
       simp
       try omega
      have hws:=HS.out.upd.size
      have HS2:Hid (Us w w6 223 R p nn (j + 1) r0 false (.slice A6 (ps.length + 1) c6) (xs ++ [x]) r1):=hid {
       row:=⟨_,hrow,fun k hk hR => by
        have h1:=HLt.out k hR
        rcases hk with hk | hk | hk
        · exact HRw.out.2.2.2.2.1 k hk hR
        · have:=(HV.out.2 k hk).1
          omega
        · rcases hat6 k hk with h | h
          · exact HRw.out.2.2.2.2.1 k (HRw.out.2.2.2.1 k h) hR
          · omega,fun k hk => by
        rcases hk with hk | hk | hk
        · exact HRw.out.2.2.2.2.2 k hk
        · have:=(HV.out.2 k hk).1
          omega
        · rcases hat6 k hk with h | h
          · exact HRw.out.2.2.2.2.2 k (HRw.out.2.2.2.1 k h)
          · omega⟩
       rr:=⟨_,_,(HR5.out.keep hal fun _ _ => no_ _).keep hg6 fun k hR h => HRw.out.2.2.2.2.1 k (HRw.out.2.2.2.1 k h) hR⟩
       old:=HS.out.old
       upd:=(HUpd.out.next hal).trans hg6 fun i hi h => by
        have:=HRw.out.2.2.2.2.2 i (HRw.out.2.2.2.1 i h)
        omega
       len:=by rw [List.length_append,HS.out.len]; rfl
       bad:=fun h => by cases h
       eq:=readL_step HS.out.eq hlt HE.out }
      have hxp:(xs ++ [x]).length = ps.length + 1:=by rw [← HRw.out.1]; simp
      have HXp:=hid hxp
      clear hxp hrow hal hsz hus hws ho6 hg6 hat6 HLit
      go_wp2
      go_roundw
      case rel => exact ⟨j + 1,xs ++ [x],r1,A6,c6,by omega,by first | go_num | (rw [HWJ.out]; go_num),by rw [HXp.out],by rw [HXp.out]; exact HS2⟩
      case measure =>
       try rw [HWJ.out]
       simp [intOf]; omega
  · obtain rfl:j = nn:=by omega
    obtain ⟨Ar,cr,hrr⟩:=HS.out.rr
    have HEnd:=hid (end_ p rest.length cr Ar b0 wr hrr.blk)
    have heq:readL j r0 = some (xs,rest):=by
     rw [HS.out.eq,Nat.sub_self]
     simp [readL]
    rcases hee:(!b0 && decide (rest.length = 0)) with _ | _
    · have hout:Hid (unpL l = ([],2)):=hid (by
       rw [HU.out,heq]
       rcases b0 with _ | _
       · rcases rest with _ | ⟨z,r⟩
         · simp at hee
         · rfl
       · rfl)
      rw [hee] at HEnd
      clear hee heq hrr
      go_wp2_with (fail)
      refine HEnd.out.mono ?_
      rintro e w8 ⟨rfl,rfl⟩
      go_wp2
      go_ret2
      exact .of ⟨none,0,by rw [hout.out]; rfl,by rw [hout.out]; exact no_row _ _,HS.out.upd⟩
    · have hout:Hid (unpL l = (xs,0)):=hid (by
       rw [HU.out,heq]
       rcases b0 with _ | _
       · rcases rest with _ | ⟨z,r⟩
         · rfl
         · simp at hee
       · simp at hee)
      rw [hee] at HEnd
      clear hee heq hrr
      go_wp2_with (fail)
      refine HEnd.out.mono ?_
      rintro e w8 ⟨rfl,rfl⟩
      go_wp2
      go_ret2
      exact .of ⟨Av,cv,by rw [hout.out]; rfl,by rw [hout.out]; exact (HS.out.row).elim fun F h => ⟨F,h.1,h.2.2⟩,HS.out.upd⟩
end Pk
end
section
namespace Iw
open Go.ChangeShapes Go.WideShapes Go.ChangeAt Go.RowKit B Lt Ib Ls Pk
open Lc (lb Wf)
open Cr (Byte)
theorem unpL_cases (l:List Int):(unpL l).2 = 0 ∨ unpL l = ([],2):=by
 obtain ⟨n,r0,b0,hs⟩:∃ n r0 b0,Cm.stN l false = (n,r0,b0):=⟨_,_,_,rfl⟩
 rw [unpL_eq hs]
 rcases b0 with _ | _
 · simp only [Bool.false_eq_true,if_false]
   rcases readL n.toNat r0 with _ | ⟨ys,r2⟩
   · exact .inr rfl
   · rcases r2 with _ | ⟨z,r2⟩
     · exact .inl rfl
     · exact .inr rfl
 · exact .inr rfl
theorem Row.tight {w:World} {F:Nat → Prop} {v:Value} {xs:List L} (h:Row w F v xs):Row w (fun k => F k ∧ k < w.heap.size) v xs:=by
 obtain ⟨ps,h1,h2,h3,h4⟩:=h
 exact ⟨ps,h1,h2,fun x hx => ⟨(h3 x hx).1,fun k hk => ⟨⟨((h3 x hx).2 k hk).1,((h3 x hx).2 k hk).2.elim fun cs hB => hB.lt⟩,((h3 x hx).2 k hk).2⟩⟩,fun k hk => ⟨h4 k hk,(h2.lt k hk).2⟩⟩
def EnOut (w:World) (l:List Int) (e:Ending) (w':World):Prop:=∃ A c,e = .returned (.slice A l.length c) ∧ l.length ≤ c ∧ c ≤ 9223372036854775807 ∧ Rn w' .u8 A l ∧ Upd No w w' ∧ ∀ ad,A = some ad → w.heap.size ≤ ad.block
theorem EnOut.of {w:World} {l:List Int} {e:Ending} {w':World} (h:∃ A c,e = .returned (.slice A l.length c) ∧ l.length ≤ c ∧ c ≤ 9223372036854775807 ∧ Rn w' .u8 A l ∧ Upd No w w' ∧ ∀ ad,A = some ad → w.heap.size ≤ ad.block):EnOut w l e w':=h
theorem sm_of {x:L} (h:formed x = true ∧ Wf x):Sm x:=by
 have:=Lc.formed_le h.1
 exact ⟨by omega,by omega,h.2⟩
theorem row_rd {w:World} {F:Nat → Prop} {v:Value} {xs:List L} (h:Row w F v xs):∃ (ps:List Lv) (A:Option Addr) (c:Nat),ps.map (·.1) = xs ∧ v = .slice A ps.length c ∧ Rd w 4 A ps.length (pcells ps) ∧ ∀ x ∈ ps,In w x.1 x.2:=by
 obtain ⟨ps,h1,h2,h3,h4⟩:=h
 obtain ⟨A,c,rfl,_,_⟩:=h2.shape
 exact ⟨ps,A,c,h1,rfl,Sl.rd h2,fun x hx => (h3 x hx).1⟩
theorem encode (p:Nat) (xs:List L) (F:Nat → Prop) (w:World) (h:Ib w F p xs) (hok:∀ x ∈ xs,formed x = true ∧ Wf x) (hl:xs.length ≤ 8) :
 Calls Tryz.prog 185 #[.pointer (some ⟨p,0,none⟩)] w fun e w' => EnOut w (packL xs) e w':=by
 obtain ⟨v,h1,h2,h3,h4⟩:=h
 obtain ⟨ps,A,c,hx,rfl,hr,hin⟩:=row_rd h2
 have hpl:ps.length = xs.length:=by rw [← hx]; simp
 have hP:=pack A c ps w hr hin (fun y hy => sm_of (hok y.1 (by rw [← hx]; exact List.mem_map_of_mem hy))) (by omega)
 rw [hx] at hP
 unfold PkOut at hP
 have HP:=hid hP
 have c0:=h1.cell 0
 simp at c0
 clear hP hr hin h1 h2 h3 h4 hx hpl hok
 generalize packL xs = l at *
 generalize packC xs = cd at *
 go_enter Tryz.func185,Tryz.ntmps185
 go_wp2_with (fail)
 refine HP.out.mono ?_
 rintro e w1 ⟨A1,c1,rfl,hc1,hc2,hr1,hu1⟩
 have HE:=hid (And.intro hc1 (And.intro hc2 (And.intro hr1 hu1)))
 clear hc1 hc2 hr1 hu1
 go_wp2
 go_ret
 exact .of ⟨A1,c1,rfl,HE.out⟩
def decI (l:List Int):Option (List L):=if (unpL l).2 = 0 ∧ (unpL l).1.length ≤ 8 then some (unpL l).1 else none
def DiOut (w:World) (r:Option (List L)) (e:Ending) (w':World):Prop:=
 match r with
 | none => e = .returned (.tuple #[.pointer none,.int .i64 2]) ∧ Upd No w w'
 | some xs => ∃ p F,e = .returned (.tuple #[.pointer (some ⟨p,0,none⟩),.int .i64 0]) ∧ Ib w' F p xs ∧ (∀ k,F k → w.heap.size ≤ k) ∧ Upd No w w'
theorem DiOut.none_ {w:World} {r:Option (List L)} {e:Ending} {w':World} (hr:r = none) (h:e = .returned (.tuple #[.pointer none,.int .i64 2]) ∧ Upd No w w'):DiOut w r e w':=by
 subst hr
 exact h
theorem DiOut.some_ {w:World} {r:Option (List L)} {xs:List L} {e:Ending} {w':World} (hr:r = some xs) (h:∃ p F,e = .returned (.tuple #[.pointer (some ⟨p,0,none⟩),.int .i64 0]) ∧ Ib w' F p xs ∧ (∀ k,F k → w.heap.size ≤ k) ∧ Upd No w w'):DiOut w r e w':=by
 subst hr
 exact h
theorem decode {w:World} {A:Option Addr} {c:Nat} {l:List Int} (hr:Rn w .u8 A l) (hc:l.length ≤ c) (hl:l.length ≤ 2000000000000) (hm:c ≤ 9223372036854775807) (hb:Byte l) :
 Calls Tryz.prog 100 #[.slice A l.length c] w fun e w' => DiOut w (decI l) e w':=by
 have hU:=unpack_ hr hc hl hm hb
 have hcs:=unpL_cases l
 have HD:Hid (decI l = if (unpL l).2 = 0 ∧ (unpL l).1.length ≤ 8 then some (unpL l).1 else none):=hid rfl
 unfold UpOw at hU
 generalize unpL l = q at *
 obtain ⟨xs,cd⟩:=q
 simp only at hU hcs HD
 have HU:=hid hU
 clear hU hr hb
 go_enter Tryz.func100,Tryz.ntmps100
 go_wp2_with (fail)
 refine HU.out.mono ?_
 rintro e w1 ⟨A1,c1,rfl,⟨F,hrow,hF⟩,hu1⟩
 have HR:=hid (And.intro hrow (And.intro hF hu1))
 have hlen:xs.length ≤ 9223372036854775807:=by
  obtain ⟨_,_,e,h1,h2⟩:=hrow.len
  simp only [maxLen] at h2
  omega
 clear hrow hF hu1
 rcases hcs with rfl | hcs
 · by_cases h8:8 < xs.length
   · have h8':(8:Int) < (xs.length:Int):=by omega
     have hout:Hid (decI l = none):=hid (by rw [HD.out,if_neg (by omega)])
     go_wp2
     go_ret2
     exact .none_ hout.out ⟨rfl,HR.out.2.2⟩
   · have h8':¬ (8:Int) < (xs.length:Int):=by omega
     have hout:Hid (decI l = some xs):=hid (by rw [HD.out,if_pos ⟨rfl,by omega⟩])
     have HE:Hid (Ib (w1.alloc (.cells #[.slice A1 xs.length c1] 155)) (fun k => (F k ∧ k < w1.heap.size) ∨ k = w1.heap.size) w1.heap.size xs):=hid
      ⟨_,Blk.fresh _ _ _,((Row.tight HR.out.1).upd ((Upd.refl No w1).alloc _) fun _ _ => no_ _).mono fun k hk => .inl hk,.inr rfl,fun k hk => by
       rcases hk with hk | rfl
       · have:=hk.2; simp; omega
       · simp⟩
     go_wp2
     go_ret2
     exact .some_ hout.out ⟨_,_,rfl,HE.out,fun k hk => by
      have:=HR.out.2.2.size
      rcases hk with hk | rfl
      · exact HR.out.2.1 k hk.1
      · exact this,HR.out.2.2.alloc _⟩
 · simp only [Prod.mk.injEq] at hcs
   obtain ⟨rfl,rfl⟩:=hcs
   have hout:Hid (decI l = none):=hid (by rw [HD.out,if_neg (by omega)])
   go_wp2
   go_ret2
   exact .none_ hout.out ⟨rfl,HR.out.2.2⟩
end Iw
end
section
namespace Jn
open Go.RowKit B Cw
open Cm (num num_length)
def I64 (x:Int):Prop:=-9223372036854775808 ≤ x ∧ x ≤ 9223372036854775807
def ints (l:List Int):List Int:=l.flatMap fun z => num (zz z)
def evb (es:List Ev):List Int:=es.flatMap fun e => num e.1 ++ num (zz e.2)
theorem ints_take (l:List Int) (j:Nat) (hj:j < l.length):ints (l.take (j + 1)) = ints (l.take j) ++ num (zz (gi l j)):=by
 rw [List.take_succ_eq_append_getElem hj]
 simp only [ints,gi,List.getD_eq_getElem?_getD,List.getElem?_eq_getElem hj,List.flatMap_append,List.flatMap_cons,List.flatMap_nil,List.append_nil,Option.getD_some]
theorem ints_le (l:List Int):(ints l).length ≤ 9 * l.length:=by
 induction l with
 | nil => simp [ints]
 | cons z r ih =>
  have:=num_length (zz z)
  simp only [ints,List.flatMap_cons,List.length_append,List.length_cons] at *
  omega
theorem evb_le (l:List Ev):(evb l).length ≤ 18 * l.length:=by
 induction l with
 | nil => simp [evb]
 | cons z r ih =>
  have:=num_length (zz z.2)
  have:=num_length z.1
  simp only [evb,List.flatMap_cons,List.length_append,List.length_cons] at *
  omega
theorem evb_take (l:List Ev) (j:Nat) (hj:j < l.length):evb (l.take (j + 1)) = evb (l.take j) ++ num l[j].1 ++ num (zz l[j].2):=by
 rw [List.take_succ_eq_append_getElem hj]
 unfold evb
 rw [List.flatMap_append,List.flatMap_cons,List.flatMap_nil,List.append_nil,List.append_assoc]
def encJ (s:S):List Int:=num s.2.2 ++ ints s.1 ++ num s.2.1.length ++ evb s.2.1
theorem encJ_le (s:S) (h8:s.1.length = 8):(encJ s).length ≤ 90 + 18 * s.2.1.length:=by
 have h1:=num_length s.2.2
 have h2:=ints_le s.1
 have h3:=num_length (s.2.1.length:Int)
 have h4:=evb_le s.2.1
 simp only [encJ,List.length_append]
 omega
structure Rg (s:S):Prop where
 v:0 ≤ s.2.2 ∧ s.2.2 ≤ 18446744073709551615
 r:∀ x ∈ s.1,I64 x
 e:∀ x ∈ s.2.1,I64 x.2
theorem idx8 (b:List Int):∀ i,i < 8 → ∀ w,(Instr.index 61 (.agg (arr b)) (.int .i64 (i:Nat))).run Tryz.prog w = .ok (.int .i64 (gi b i)) w:=
 lt8 (fun _ => by kernel_rfl) (fun _ => by kernel_rfl) (fun _ => by kernel_rfl) (fun _ => by kernel_rfl) (fun _ => by kernel_rfl) (fun _ => by kernel_rfl) (fun _ => by kernel_rfl) (fun _ => by kernel_rfl)
def EncOut (w:World) (bs:List Int) (e:Ending) (w':World):Prop:=∃ A c,e = .returned (.slice A bs.length c) ∧ Rn w' .u8 A bs ∧ Upd No w w' ∧ bs.length ≤ c ∧ c ≤ 9223372036854775807 ∧ ∀ ad,A = some ad → w.heap.size ≤ ad.block
theorem EncOut.of {w:World} {bs:List Int} {e:Ending} {w':World} (h:∃ A c,e = .returned (.slice A bs.length c) ∧ Rn w' .u8 A bs ∧ Upd No w w' ∧ bs.length ≤ c ∧ c ≤ 9223372036854775807 ∧ ∀ ad,A = some ad → w.heap.size ≤ ad.block):EncOut w bs e w':=h
structure Wo (w W:World) (F:Nat → Prop) (q:Nat) (bs:List Int):Prop where
 wr:Wr W F q bs
 own:∀ k,F k → w.heap.size ≤ k
 upd:Upd No w W
theorem Wo.moved {w W W':World} {F F':Nat → Prop} {q:Nat} {bs cs:List Int} (h:Wo w W F q bs) (hw:Wr W' F' q cs) (hm:Mv F F' W W'):Wo w W' F' q cs:=
 ⟨hw,fun k hk => (hm.sub k hk).elim (h.own k) fun hs => Nat.le_trans h.upd.size hs,h.upd.trans hm.upd fun i hi hf => by have:=h.own i hf; omega⟩
theorem Wo.quiet {w W W':World} {F:Nat → Prop} {q:Nat} {bs:List Int} (h:Wo w W F q bs) (hu:Upd No W W'):Wo w W' F q bs:=⟨h.wr.keep hu fun _ _ => no_ _,h.own,h.upd.next hu⟩
theorem encode {w:World} {F:Nat → Prop} {p:Nat} {s:S} (h:Jd w F p s) (hok:Ok s) (hg:Rg s) :
 Calls Tryz.prog 184 #[.pointer (some ⟨p,0,none⟩)] w fun e w' => EncOut w (encJ s) e w':=by
 have hle:=hok.le
 have hb8:=hok.b8
 have HG:=hid hg
 have HL:Hid ((num s.2.2).length ≤ 9 ∧ (num (s.2.1.length:Int)).length ≤ 9):=hid ⟨(num_length _).2,(num_length _).2⟩
 have HOk:=hid hok
 obtain ⟨v,h⟩:=h
 obtain ⟨A,c,hv,hc1,hc2⟩:=h.row.shape
 subst hv
 have HX:=hid fun W (hu:Upd No w W) => h.upd hu fun _ _ => no_ _
 have hpl:=h.lt p h.fp
 clear h hok hg
 go_enter Tryz.func184,Tryz.ntmps184
 go_wp2_with (fail)
 refine Calls.mono (newWriter w) ?_
 rintro e w1 ⟨rfl,rfl⟩
 have HW:Hid (∃ w1 q F1,w1 = w.alloc (.cells #[.slice none 0 0] 276) ∧ q = w.heap.size ∧ Wo w w1 F1 q []):=hid ⟨_,_,_,rfl,rfl,⟨Wr.new w,fun k hk => by omega,(Upd.refl _ _).alloc _⟩⟩
 obtain ⟨w1,q,F1,hw1,hq,hO1⟩:=HW.out
 rw [← hw1,← hq]
 have HO1:=hid hO1
 clear hw1 hq hO1 HW
 obtain ⟨_,c8,c9⟩:=jbox (HX.out _ HO1.out.upd).blk
 go_wp2_with (fail)
 refine Calls.mono (number q [] s.2.2 F1 w1 HO1.out.wr HG.out.v.1 HG.out.v.2 (by simp)) ?_
 rintro e w2 ⟨rfl,F2,hw2,hm2⟩
 have HO2:=hid (HO1.out.moved hw2 hm2)
 rw [List.nil_append] at HO2
 clear hw2 hm2 c8 c9 HO1 F1
 obtain ⟨⟨z0,z1,z2,z3,z4,z5,z6,z7⟩,c8,c9⟩:=jbox (HX.out _ HO2.out.upd).blk
 go_wp2_with (fail)
 clear z0 z1 z2 z3 z4 z5 z6 z7 c8 c9
 go_loopw [21] (fun v21 W => ∃ (j:Nat) (F':Nat → Prop),j ≤ 8 ∧ v21 = .int .i64 j ∧ Hid (Wo w W F' q (num s.2.2 ++ ints (s.1.take j)))) (fun v21 _ => 8 - (intOf v21).toNat)
 case atStart => exact ⟨0,F2,by omega,rfl,hid (by simpa [ints] using HO2.out)⟩
 case round =>
  clear HO2
  obtain ⟨j,F',hj,rfl,HO⟩:=hrel
  by_cases hlt:j < 8
  · have hidx:=idx8 s.1 j hlt
    unfold arr at hidx
    have hj2:(j:Int) < 8:=by omega
    have hz:=HG.out.r _ (gi_mem s.1 j (by omega))
    have HN:=hid (ints_take s.1 j (by omega))
    have HLn:=ints_le (s.1.take j)
    have hl9:=HL.out.1
    have hlen:(num s.2.2 ++ ints (s.1.take j)).length ≤ 140737488355000:=by
     rw [List.length_append]
     rw [List.length_take] at HLn
     omega
    have HI:=hid (int_ q _ (gi s.1 j) F' wr HO.out.wr hz.1 hz.2 hlen)
    clear HLn hl9 hlen hz
    go_wp2_with (fail)
    refine Calls.mono HI.out ?_
    rintro e w3 ⟨rfl,F3,hw3,hm3⟩
    have HO3:Hid (Wo w w3 F3 q (num s.2.2 ++ ints (s.1.take (j + 1)))):=hid (by rw [HN.out,← List.append_assoc]; exact HO.out.moved hw3 hm3)
    clear hw3 hm3 hidx
    go_wp2
    go_roundw
    case rel => exact ⟨j + 1,F3,by omega,by go_num,HO3⟩
    case measure => simp [intOf]; omega
  · obtain rfl:j = 8:=by omega
    have HO4:Hid (Wo w wr F' q (num s.2.2 ++ ints s.1)):=hid (by have:=HO.out; rwa [List.take_of_length_le (by omega)] at this)
    clear HO
    obtain ⟨_,c8,c9⟩:=jbox (HX.out _ HO4.out.upd).blk
    have hwn:IntKind.u64.wrap (s.2.1.length:Int) = (s.2.1.length:Int):=by
     rw [show IntKind.u64.wrap (s.2.1.length:Int) = (s.2.1.length:Int) % 18446744073709551616 from rfl]
     omega
    go_wp2_with (fail)
    have HD:=hid (And.intro HO4.out.wr HL.out.2)
    have hlen:(num s.2.2 ++ ints s.1).length ≤ 100:=by
     have h1:=HL.out.1
     have h2:=ints_le s.1
     rw [List.length_append]
     omega
    have HLen:=hid hlen
    refine Calls.mono (number q (num s.2.2 ++ ints s.1) (s.2.1.length:Int) F' wr HO4.out.wr (by omega) (by omega) (by omega)) ?_
    rintro e w5 ⟨rfl,F5,hw5,hm5⟩
    have HO5:=hid (HO4.out.moved hw5 hm5)
    clear hw5 hm5 c8 c9 HD hlen hwn
    obtain ⟨pre,hpre⟩:∃ pre,pre = num s.2.2 ++ ints s.1 ++ num (s.2.1.length:Int):=⟨_,rfl⟩
    rw [← hpre] at HO5
    have hpl9:pre.length ≤ 109:=by
     have h1:=HLen.out
     have h2:=HL.out.2
     rw [hpre,List.length_append]
     omega
    have HPre:=hid hpre
    clear hpre
    obtain ⟨_,c8,_⟩:=jbox (HX.out _ HO5.out.upd).blk
    go_wp2_with (fail)
    clear c8
    go_loopw [41] (fun v41 W => ∃ (j:Nat) (F':Nat → Prop),j ≤ s.2.1.length ∧ v41 = .int .i64 j ∧ Hid (Wo w W F' q (pre ++ evb (s.2.1.take j)))) (fun v41 _ => s.2.1.length - (intOf v41).toNat)
    case atStart => exact ⟨0,F5,by omega,rfl,hid (by simpa [evb] using HO5.out)⟩
    case round =>
     clear HO5
     obtain ⟨j,F',hj,rfl,HO⟩:=hrel
     by_cases hje:j < s.2.1.length
     · obtain ⟨g,off,rfl,d0,d1,hgw⟩:=ev_at (HX.out _ HO.out.upd).row hje
       have hev:=HOk.out.ev _ (List.getElem_mem hje)
       have hi:=HG.out.e _ (List.getElem_mem hje)
       have HN:=hid (evb_take s.2.1 j hje)
       have HLn:=evb_le (s.2.1.take j)
       rw [List.length_take] at HLn
       have hj2:(j:Int) < (s.2.1.length:Int):=by omega
       generalize s.2.1[j] = e0 at *
       obtain ⟨r,y⟩:=e0
       simp only at d0 d1 hev hi HN
       have hwr:IntKind.u64.wrap r = r:=by
        rw [show IntKind.u64.wrap r = r % 18446744073709551616 from rfl]
        have:=hev.1
        have:=hev.2
        simp only at *
        omega
       have hlen:(pre ++ evb (s.2.1.take j)).length ≤ 20000:=by
        rw [List.length_append]
        omega
       generalize evb (s.2.1.take j) = eb at *
       have hnl:=(num_length r).2
       have hr0:0 ≤ r ∧ r ≤ 18446744073709551615:=by
        have:=hev.1
        have:=hev.2
        simp only at *
        omega
       have HNum:=hid fun W (h:Wr W F' q (pre ++ eb)) => number q (pre ++ eb) r F' W h hr0.1 hr0.2 (by omega)
       have HInt:=hid fun W F2 (h:Wr W F2 q (pre ++ eb ++ num r)) => int_ q (pre ++ eb ++ num r) y F2 W h hi.1 hi.2 (by rw [List.length_append]; omega)
       have HNl:=hid hnl
       clear hnl HLn hlen hi hr0
       go_wp2_with (fail)
       have HW:Hid (∃ w6 h6,w6 = wr.alloc (.cells #[.int .i64 r,.int .i64 y] 160) ∧ h6 = wr.heap.size ∧ Wo w w6 F' q (pre ++ eb) ∧ Blk w6 h6 160 #[.int .i64 r,.int .i64 y] ∧ ¬ F' h6):=
        hid ⟨_,_,rfl,rfl,HO.out.quiet ((Upd.refl _ _).alloc _),Blk.fresh _ _ _,fun hf => by have:=HO.out.wr.lt _ hf; omega⟩
       obtain ⟨w6,h6,hw6,hh6,hO6,hB6,hn6⟩:=HW.out
       rw [← hw6,← hh6]
       have H6:=hid (And.intro hO6 (And.intro hB6 hn6))
       clear hw6 hh6 hO6 hB6 hn6 HW d0 d1 hgw
       try rw [hwr]
       refine Calls.mono (HNum.out _ H6.out.1.wr) ?_
       rintro e w7 ⟨rfl,F7,hw7,hm7⟩
       have HO7:=hid (H6.out.1.moved hw7 hm7)
       have hB7:=H6.out.2.1.upd hm7.upd H6.out.2.2
       obtain ⟨y0,y1⟩:=box2 hB7
       clear hw7 hm7 hwr
       go_wp2_with (fail)
       refine Calls.mono (HInt.out _ _ HO7.out.wr) ?_
       rintro e w8 ⟨rfl,F8,hw8,hm8⟩
       have HO8:=hid (HO7.out.moved hw8 hm8)
       clear hw8 hm8 y0 y1 hB7
       go_wp2
       go_roundw
       case rel => exact ⟨j + 1,F8,by omega,by go_num,hid (by rw [HN.out,← List.append_assoc,← List.append_assoc]; exact HO8.out)⟩
       case measure => simp [intOf]; omega
     · obtain rfl:j = s.2.1.length:=by omega
       have HO9:Hid (Wo w wr F' q (encJ s)):=hid (by
        have:=HO.out
        rw [List.take_length,HPre.out] at this
        exact this)
       have hel:=encJ_le s hb8
       go_wp2_with (fail)
       refine Calls.mono (bytes_ q (encJ s) F' wr HO9.out.wr (by omega)) ?_
       rintro e w10 ⟨v,rfl,ho10,hb10⟩
       obtain ⟨A10,c10,rfl,hc10,hcm⟩:=own_shape ho10
       have HE:Hid (Rn w10 .u8 A10 (encJ s) ∧ Upd No w w10 ∧ (encJ s).length ≤ c10 ∧ c10 ≤ 9223372036854775807 ∧ ∀ ad,A10 = some ad → w.heap.size ≤ ad.block):=hid ⟨Rd.of_own ho10,HO9.out.upd.next (Upd.of_below No hb10),hc10,by simpa [maxLen] using hcm,fun ad e => by have h1:=(ho10.lt ad.block (by simp [Value.ownBlock,e])).1; have h2:=HO9.out.upd.size; omega⟩
       clear ho10 hb10
       go_wp2
       go_ret
       exact .of ⟨A10,c10,rfl,HE.out⟩
end Jn
end
