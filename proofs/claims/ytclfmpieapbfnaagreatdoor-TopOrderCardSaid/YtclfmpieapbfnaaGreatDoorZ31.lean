/- Part 31: lemmas, no conditions. -/
import Derived.Test.YtclfmpieapbfnaaGreatDoorZ28
import Derived.Test.YtclfmpieapbfnaaGreatDoorZ15
import Derived.Test.YtclfmpieapbfnaaGreatDoorZ25
set_option maxHeartbeats 4000000
namespace Go.Proofs.YtclfmpieapbfnaaGreatDoor
set_option linter.unusedVariables false
set_option linter.unusedSimpArgs false
section
namespace We
open Go.RowKit B Df Ws Go.Proofs.YtclfmpieapbfnaaGreatDoor.Mp Wp Ww Cw Cm
def EnOut (w:World) (l:List Int) (e:Ending) (w':World):Prop:=∃ A c,e = .returned (.slice A l.length c) ∧ l.length ≤ c ∧ c ≤ 9223372036854775807 ∧ Rn w' .u8 A l ∧ Upd No w w' ∧ ∀ ad,A = some ad → w.heap.size ≤ ad.block
theorem EnOut.of {w:World} {l:List Int} {e:Ending} {w':World} (h:∃ A c,e = .returned (.slice A l.length c) ∧ l.length ≤ c ∧ c ≤ 9223372036854775807 ∧ Rn w' .u8 A l ∧ Upd No w w' ∧ ∀ ad,A = some ad → w.heap.size ≤ ad.block):EnOut w l e w':=h
structure Wo (w W:World) (F:Nat → Prop) (q:Nat) (bs:List Int):Prop where
 wr:Wr W F q bs
 own:∀ k,F k → w.heap.size ≤ k
 upd:Upd No w W
theorem Wo.moved {w W W':World} {F F':Nat → Prop} {q:Nat} {bs cs:List Int} (h:Wo w W F q bs) (hw:Wr W' F' q cs) (hm:Mv F F' W W'):Wo w W' F' q cs:=
 ⟨hw,fun k hk => (hm.sub k hk).elim (h.own k) fun hs => Nat.le_trans h.upd.size hs,h.upd.trans hm.upd fun i hi hf => by have:=h.own i hf; omega⟩
theorem nums_le (l:List Int):(l.flatMap num).length ≤ 9 * l.length:=by
 induction l with
 | nil => simp
 | cons a t ih =>
  have:=(num_length a).2
  simp only [List.flatMap_cons,List.length_append,List.length_cons]
  omega
theorem ser_take {l:List Int} {i:Nat} (hi:i < l.length):(l.take (i + 1)).flatMap num = (l.take i).flatMap num ++ num (gi l i):=by
 rw [List.take_succ_eq_append_getElem hi,List.flatMap_append]
 simp [gi,List.getD_eq_getElem?_getD,List.getElem?_eq_getElem hi]
theorem enc_take {x:St} {j:Nat} (hj:j < x.length):(x.take (j + 1)).flatMap encE = (x.take j).flatMap encE ++ encE x[j]:=by
 rw [List.take_succ_eq_append_getElem hj,List.flatMap_append]
 simp
theorem sr_at {x:St} {c:Int} {j:Nat} (hj:j < x.length) (h:x[j].1 = c) (hb:∀ i (hi:i < x.length),i < j → x[i].1 ≠ c):sr x c = x[j].2:=by
 induction x generalizing j with
 | nil => simp at hj
 | cons e r ih =>
  rw [sr_cons]
  match j,hj with
  | 0,_ => rw [if_pos (by simpa using h)]; rfl
  | j + 1,hj =>
   rw [if_neg (show ¬ e.1 = c from hb 0 (by simp) (by omega))]
   exact ih (by simpa using hj) (by simpa using h) fun i hi hij => (show ¬ r[i].1 = c from hb (i + 1) (by simpa using hi) (by omega))
theorem sr_entry {x:St} (ho:Ok x) {j:Nat} (hj:j < x.length):sr x x[j].1 = x[j].2:=by
 refine sr_at hj rfl fun i hi hij h => ?_
 have hn:=ho.nd
 exact (List.pairwise_iff_getElem.1 hn) i j (by simpa using hi) (by simpa using hj) hij (by simpa using h)
theorem gi_ks {x:St} {j:Nat} (hj:j < x.length):gi (ks x) j = x[j].1:=by
 simp [gi,ks,List.getD_eq_getElem?_getD,List.getElem?_map,List.getElem?_eq_getElem hj]
set_option maxRecDepth 100000 in
theorem encode {w:World} {F:Nat → Prop} {p n:Nat} {x:St} (h:Wd w F p x n) (hok:Ok x) :
 Calls Tryz.prog 52 #[.pointer (some ⟨p,0,none⟩)] w fun e w' => EnOut w (encX x) e w':=by
 obtain ⟨mo,v,m,G,h⟩:=h
 have hlk:=ks_length x
 have hlx:=hok.len
 obtain ⟨A,k,rfl,hk1,hk2⟩:=h.ord.shape
 simp only [maxLen] at hk2
 rw [hlk] at hk1 h
 have HX:=hid fun W (hu:Upd No w W) => h.upd hu fun _ _ => no_ _
 have HR:Hid (∀ W,Upd No w W → Rd W 1 A x.length (nums .u64 (ks x))):=hid fun W hu => by
  have h2:=(HX.out W hu).ord
  rw [hlk] at h2
  exact Sl.rd h2
 have HC:Hid (∀ W,Upd No w W → W.cell? ⟨p,0,none⟩ = some (.map mo) ∧ W.cell? ⟨p,1,none⟩ = some (.slice A x.length k)):=hid fun W hu => box2 (HX.out W hu).blk
 have HE:Hid (encX x = num (x.length:Int) ++ x.flatMap encE):=hid rfl
 have HL:Hid ((∀ j,((x.take j).flatMap encE).length ≤ 54 * 64) ∧ (num (x.length:Int)).length ≤ 9):=hid ⟨encX_take_le hok,(num_length _).2⟩
 have HO:=hid hok
 have hwn:IntKind.u64.wrap (x.length:Int) = (x.length:Int):=by
  rw [IntKind.wrap_u64]
  omega
 clear h hlk hok
 go_enter Tryz.func52,Tryz.ntmps52
 go_wp2_with (fail)
 refine Calls.mono (newWriter w) ?_
 rintro e w1 ⟨rfl,rfl⟩
 have HW:Hid (∃ w1 q F1,w1 = w.alloc (.cells #[.slice none 0 0] 276) ∧ q = w.heap.size ∧ Wo w w1 F1 q []):=hid ⟨_,_,_,rfl,rfl,⟨Wr.new w,fun k hk => by omega,(Upd.refl _ _).alloc _⟩⟩
 obtain ⟨w1,q,F1,hw1,hq,hO1⟩:=HW.out
 rw [← hw1,← hq]
 have HO1:=hid hO1
 clear hw1 hq hO1 HW
 obtain ⟨y0,y1⟩:=HC.out w1 HO1.out.upd
 go_wp2_with (fail)
 refine Calls.mono (number q [] (x.length:Int) F1 w1 HO1.out.wr (by omega) (by omega) (by simp)) ?_
 rintro e w2 ⟨rfl,F2,hw2,hm2⟩
 have HO2:=hid (HO1.out.moved hw2 hm2)
 rw [List.nil_append] at HO2
 clear hw2 hm2 HO1 F1 hwn y0 y1
 obtain ⟨y0,y1⟩:=HC.out w2 HO2.out.upd
 go_wp2_with (fail)
 clear y0 y1
 go_loopw [24] (fun v24 W => ∃ (j:Nat) (F':Nat → Prop),j ≤ x.length ∧ v24 = .int .i64 j ∧ Hid (Wo w W F' q (num (x.length:Int) ++ (x.take j).flatMap encE))) (fun v24 _ => x.length - (intOf v24).toNat)
 case atStart => exact ⟨0,F2,by omega,rfl,hid (by simpa using HO2.out)⟩
 case round =>
  clear HO2
  obtain ⟨j,F',hj,rfl,HW⟩:=hrel
  by_cases hlt:j < x.length
  · obtain ⟨ad,u,rfl,hu1,hu2⟩:=(HR.out wr HW.out.upd).at_ hlt
    rw [nums_get .u64 (ks x) j (by rw [ks_length]; exact hlt),gi_ks hlt] at hu1
    injection hu1 with hu1
    subst hu1
    have hkey:=HO.out.key _ (List.getElem_mem hlt)
    have hle:=HO.out.le _ (List.getElem_mem hlt)
    have hser:=HO.out.ser _ (List.getElem_mem hlt)
    have HS:Hid (sr x x[j].1 = x[j].2):=hid (sr_entry HO.out hlt)
    have HT:Hid ((x.take (j + 1)).flatMap encE = (x.take j).flatMap encE ++ encE x[j]):=hid (enc_take hlt)
    generalize x[j] = e0 at *
    obtain ⟨c0,ss⟩:=e0
    simp only at hkey hle hser hu2 HS HT
    have HV:Hid (∀ W,Upd No w W → ∃ A2 c2,m c0 = .slice A2 ss.length c2 ∧ Rn W .u64 A2 ss):=hid fun W hu => by
     obtain ⟨A2,c2,e,_,_,hR,_⟩:=(HX.out W hu).val c0 hkey
     rw [HS.out] at e hR
     exact ⟨A2,c2,e,hR⟩
    obtain ⟨A2,c2,hm0,_⟩:=HV.out w (Upd.refl _ _)
    have HV2:Hid (∀ W,Upd No w W → Rn W .u64 A2 ss):=hid fun W hu => by
     obtain ⟨A3,c3,e,hR⟩:=HV.out W hu
     rw [hm0] at e
     simp only [Value.slice.injEq,true_and] at e
     obtain ⟨rfl,rfl⟩:=e
     exact hR
    have HLk:Hid (∀ W,Upd No w W → (Instr.lookup 209 (.map mo) (.int .u64 c0) false).run Tryz.prog W = .ok (.slice A2 ss.length c2) W):=hid fun W hu => by
     have:=(HX.out W hu).look hkey
     rwa [hm0] at this
    have HKs:=hid hser
    have hj1:(0:Int) ≤ (j:Int):=by omega
    have hj2:(j:Int) < (x.length:Int):=by omega
    have hk0:=hkey.1
    have hk9:=hkey.2
    have hs4:=hle.2
    clear hm0 HV HS hkey hle hser
    have hb1:(num (x.length:Int) ++ (x.take j).flatMap encE).length ≤ 4000:=by
     have h1:=HL.out.1 j
     have h2:=HL.out.2
     rw [List.length_append]
     omega
    have HB1:=hid hb1
    have HN1:=hid (number q _ c0 F' wr HW.out.wr hk0 hk9 (by omega))
    clear hb1
    go_wp2_with (fail)
    refine Calls.mono HN1.out ?_
    rintro e w3 ⟨rfl,F3,hw3,hm3⟩
    have HW3:=hid (HW.out.moved hw3 hm3)
    clear hw3 hm3 HN1 hu2
    obtain ⟨y0,y1⟩:=HC.out w3 HW3.out.upd
    have hlk3:=HLk.out w3 HW3.out.upd
    have hwn:IntKind.u64.wrap (ss.length:Int) = (ss.length:Int):=by
     rw [IntKind.wrap_u64]
     omega
    have HN2:=hid (number q _ (ss.length:Int) F3 w3 HW3.out.wr (by omega) (by omega) (by
     have:=HB1.out
     have:=(num_length c0).2
     rw [List.length_append]
     omega))
    go_wp2_with (fail)
    refine Calls.mono HN2.out ?_
    rintro e w4 ⟨rfl,F4,hw4,hm4⟩
    have HW4:=hid (HW3.out.moved hw4 hm4)
    clear hw4 hm4 HN2 hlk3 hwn y0 y1
    obtain ⟨y0,y1⟩:=HC.out w4 HW4.out.upd
    have hlk4:=HLk.out w4 HW4.out.upd
    go_wp2_with (fail)
    clear hlk4 y0 y1
    obtain ⟨wo,rfl⟩:∃ wo:World,wo = wr:=⟨_,rfl⟩
    go_loopw [48] (fun v48 W => ∃ (i:Nat) (F':Nat → Prop),i ≤ ss.length ∧ v48 = .int .i64 i ∧ Hid (Wo w W F' q (num (x.length:Int) ++ (x.take j).flatMap encE ++ num c0 ++ num (ss.length:Int) ++ (ss.take i).flatMap num))) (fun v48 _ => ss.length - (intOf v48).toNat)
    case atStart => exact ⟨0,F4,by omega,rfl,hid (by simpa using HW4.out)⟩
    case round =>
     clear HW4
     obtain ⟨i,F5,hi,rfl,HW5⟩:=hrel
     by_cases hlt2:i < ss.length
     · obtain ⟨bd,rfl,hv2⟩:=(HV2.out wr HW5.out.upd).at_ hlt2
       have hks:=HKs.out _ (gi_mem ss i hlt2)
       have hks0:=hks.1
       have hks9:=hks.2
       have HT2:Hid ((ss.take (i + 1)).flatMap num = (ss.take i).flatMap num ++ num (gi ss i)):=hid (ser_take hlt2)
       generalize gi ss i = s0 at *
       have hi1:(0:Int) ≤ (i:Int):=by omega
       have hi2:(i:Int) < (ss.length:Int):=by omega
       have HN3:=hid (number q _ s0 F5 wr HW5.out.wr hks0 hks9 (by
        have h1:=HB1.out
        have h2:=(num_length c0).2
        have h3:=(num_length (ss.length:Int)).2
        have h4:=nums_le (ss.take i)
        have h5:=List.length_take_le i ss
        simp only [List.length_append] at h1 ⊢
        omega))
       clear hks
       go_wp2_with (fail)
       refine Calls.mono HN3.out ?_
       rintro e w6 ⟨rfl,F6,hw6,hm6⟩
       have HW6:Hid (Wo w w6 F6 q (num (x.length:Int) ++ (x.take j).flatMap encE ++ num c0 ++ num (ss.length:Int) ++ (ss.take (i + 1)).flatMap num)):=hid (by
        have:=HW5.out.moved hw6 hm6
        rw [HT2.out,← List.append_assoc]
        exact this)
       clear hw6 hm6 HN3 hv2
       go_wp2
       go_roundw
       case rel => exact ⟨i + 1,F6,by omega,by go_num,HW6⟩
       case measure => simp [intOf]; omega
     · obtain rfl:i = ss.length:=by omega
       have HW7:Hid (Wo w wr F5 q (num (x.length:Int) ++ (x.take (j + 1)).flatMap encE)):=hid (by
        have:=HW5.out
        rw [List.take_length] at this
        rw [HT.out]
        simpa [encE] using this)
       go_wp2
       go_roundw
       case rel => exact ⟨j + 1,F5,by omega,by go_num,HW7⟩
       case measure => simp [intOf]; omega
  · obtain rfl:j = x.length:=by omega
    have HW8:Hid (Wo w wr F' q (encX x)):=hid (by
     have:=HW.out
     rw [List.take_length] at this
     rw [HE.out]
     exact this)
    have hlen:(encX x).length ≤ 4000:=by
     have h1:=HL.out.1 x.length
     rw [List.take_length] at h1
     have h2:=HL.out.2
     rw [HE.out,List.length_append]
     omega
    have HBy:=hid (bytes_ q (encX x) F' wr HW8.out.wr (by omega))
    clear hlen
    go_wp2_with (fail)
    refine Calls.mono HBy.out ?_
    rintro e w10 ⟨v,rfl,ho10,hb10⟩
    obtain ⟨A10,c10,rfl,hc10,hcm⟩:=own_shape ho10
    have HE2:Hid ((encX x).length ≤ c10 ∧ c10 ≤ 9223372036854775807 ∧ Rn w10 .u8 A10 (encX x) ∧ Upd No w w10 ∧ ∀ ad,A10 = some ad → w.heap.size ≤ ad.block):=hid ⟨hc10,by simpa [maxLen] using hcm,Rd.of_own ho10,HW8.out.upd.next (Upd.of_below No hb10),fun ad e => by have h1:=(ho10.lt ad.block (by simp [Value.ownBlock,e])).1; have h2:=HW8.out.upd.size; omega⟩
    clear ho10 hb10 hc10 hcm HBy
    go_wp2
    go_ret
    exact .of ⟨A10,c10,rfl,HE2.out⟩
end We
end
section
namespace We
open Go.RowKit B Df Ws Go.Proofs.YtclfmpieapbfnaaGreatDoor.Mp Wp Ww Cm Cr
def fin:Option (St × List Int) → Option St
 | some (x,[]) => some x
 | _ => none
theorem stN_some {l r:List Int} {n:Int} (h:stN l false = (n,r,false)):rdNum l = some (n,r):=by
 unfold stN at h
 rcases hq:rdNum l with _ | ⟨n',r'⟩
 · rw [hq] at h; simp at h
 · rw [hq] at h
   simp only [Prod.mk.injEq,and_true] at h
   obtain ⟨rfl,rfl⟩:=h
   rfl
theorem stN_none {l r:List Int} {n:Int} (h:stN l false = (n,r,true)):rdNum l = none ∧ n = 0 ∧ r = []:=by
 unfold stN at h
 rcases hq:rdNum l with _ | ⟨n',r'⟩
 · rw [hq] at h
   simp only [Prod.mk.injEq,and_true] at h
   exact ⟨rfl,h.1.symm,h.2.symm⟩
 · rw [hq] at h; simp at h
theorem dec_bad {l r:List Int} {n:Int} (h:stN l false = (n,r,true)):decX l = none:=by
 unfold decX
 rw [(stN_none h).1]
theorem dec_eq {l r:List Int} {n:Int} (h:stN l false = (n,r,false)):decX l = if n ≤ 64 then fin (rdC n.toNat [] r) else none:=by
 unfold decX
 rw [stN_some h]
 rfl
theorem rdC_bad {x:St} {l r1 r2:List Int} {c k:Int} {b1:Bool} (m:Nat) (h1:stN l false = (c,r1,b1)) (h2:stN r1 b1 = (k,r2,true)):rdC (m + 1) x l = none:=by
 rw [rdC]
 rcases b1 with _ | _
 · rw [stN_some h1]
   simp only
   rw [(stN_none h2).1]
 · rw [(stN_none h1).1]
theorem rdC_no {x:St} {l r1 r2:List Int} {c k:Int} (m:Nat) (h1:stN l false = (c,r1,false)) (h2:stN r1 false = (k,r2,false)) (hc:¬ (1 ≤ k ∧ k ≤ 4 ∧ c ∉ ks x)):rdC (m + 1) x l = none:=by
 unfold ks at hc
 rw [rdC,stN_some h1]
 simp only
 rw [stN_some h2]
 simp only
 rw [if_neg hc]
theorem rdC_ok {x:St} {l r1 r2:List Int} {c k:Int} (m:Nat) (h1:stN l false = (c,r1,false)) (h2:stN r1 false = (k,r2,false)) (hc:1 ≤ k ∧ k ≤ 4 ∧ c ∉ ks x):rdC (m + 1) x l = (rdS c k.toNat x r2).bind fun q => rdC m q.1 q.2:=by
 unfold ks at hc
 rw [rdC,stN_some h1]
 simp only
 rw [stN_some h2]
 simp only
 rw [if_pos hc]
 rcases rdS c k.toNat x r2 with _ | ⟨y,r3⟩ <;> rfl
theorem rdS_bad {x:St} {l r:List Int} {c s:Int} (m:Nat) (h:stN l false = (s,r,true)):rdS c (m + 1) x l = none:=by
 rw [rdS,(stN_none h).1]
theorem rdS_no {x:St} {l r:List Int} {c s:Int} (m:Nat) (h:stN l false = (s,r,false)) (ha:(addX x c s).1 = false):rdS c (m + 1) x l = none:=by
 rw [rdS,stN_some h]
 simp only [ha]
 rfl
theorem rdS_ok {x:St} {l r:List Int} {c s:Int} (m:Nat) (h:stN l false = (s,r,false)) (ha:(addX x c s).1 = true):rdS c (m + 1) x l = rdS c m (addX x c s).2 r:=by
 rw [rdS,stN_some h]
 simp only [ha,if_true]
theorem stN_first {l r r1:List Int} {n:Int} {b:Bool} (h:stN l b = (n,r,false)):b = false:=by
 unfold stN at h
 rcases hq:rdNum l with _ | ⟨n',r'⟩
 · rw [hq] at h; simp at h
 · rw [hq] at h
   simp only [Prod.mk.injEq] at h
   exact h.2.2
def DcOut (w:World) (r:Option St) (e:Ending) (w':World):Prop:=
 match r with
 | none => e = .returned (.tuple #[.pointer none,.int .i64 2]) ∧ Upd No w w'
 | some x => ∃ p F n,e = .returned (.tuple #[.pointer (some ⟨p,0,none⟩),.int .i64 0]) ∧ Wd w' F p x n ∧ n ≤ 300 ∧ (∀ k,F k → w.heap.size ≤ k) ∧ Upd No w w'
theorem DcOut.none_ {w:World} {r:Option St} {e:Ending} {w':World} (hr:r = none) (h:e = .returned (.tuple #[.pointer none,.int .i64 2]) ∧ Upd No w w'):DcOut w r e w':=by
 subst hr
 exact h
theorem DcOut.some_ {w:World} {r:Option St} {x:St} {e:Ending} {w':World} (hr:r = some x) (h:∃ p F n,e = .returned (.tuple #[.pointer (some ⟨p,0,none⟩),.int .i64 0]) ∧ Wd w' F p x n ∧ n ≤ 300 ∧ (∀ k,F k → w.heap.size ≤ k) ∧ Upd No w w'):DcOut w r e w':=by
 subst hr
 exact h
structure Dd (T:TypeId) (w W:World) (R:Nat → Prop) (rp:Nat) (F:Nat → Prop) (p n:Nat) (x:St) (rest:List Int) (bd:Bool):Prop where
 rr:∃ A c,Rr T W R rp A c rest bd
 wd:Wd W F p x n
 rf:∀ k,R k → ¬ F k
 ro:w.heap.size ≤ rp
 fo:∀ k,F k → w.heap.size ≤ k
 upd:Upd No w W
 ok:Ok x
section
variable {T:TypeId} {w W W':World} {R F F':Nat → Prop} {rp p n n':Nat} {x x':St} {rest rest':List Int} {bd bd':Bool}
theorem Dd.read (h:Dd T w W R rp F p n x rest bd) {A:Option Addr} {c:Nat} (hr:Rr T W' R rp A c rest' bd') (hu:Upd (fun k => k = rp) W W'):Dd T w W' R rp F p n x rest' bd':=
 ⟨⟨A,c,hr⟩,h.wd.upd hu fun k hk e => h.rf rp hr.here (e ▸ hk),h.rf,h.ro,h.fo,h.upd.trans hu fun i hi e => by have:=h.ro; omega,h.ok⟩
theorem Dd.added (h:Dd T w W R rp F p n x rest bd) (hw:Wd W' F' p x' n') (hm:Mv F F' W W') (hok:Ok x'):Dd T w W' R rp F' p n' x' rest bd:=by
 obtain ⟨A,c,hr⟩:=h.rr
 refine ⟨⟨A,c,hr.keep hm.upd h.rf⟩,hw,fun k hk hf => (hm.sub k hf).elim (h.rf k hk) fun hs => ?_,h.ro,fun k hk => (hm.sub k hk).elim (h.fo k) fun hs => Nat.le_trans h.upd.size hs,h.upd.trans hm.upd fun i hi hf => ?_,hok⟩
 · have:=hr.lt k hk
   omega
 · have:=h.fo i hf
   omega
end
set_option maxRecDepth 100000 in
theorem decode {w:World} {A:Option Addr} {c:Nat} {l:List Int} (hr:Rn w .u8 A l) (hc:l.length ≤ c) (hl:l.length ≤ 140737488355328) (hm:c ≤ 9223372036854775807) (hb:Byte l) :
 Calls Tryz.prog 36 #[.slice A l.length c] w fun e w' => DcOut w (decX l) e w':=by
 have HN:=hid (newReader A c l w hr (by omega) hb)
 clear hr hb
 go_enter Tryz.func36,Tryz.ntmps36
 go_wp2_with (fail)
 refine HN.out.mono ?_
 rintro e w2 ⟨R,rp,A2,c2,rfl,hr2,ho2,hb2⟩
 obtain ⟨n,r0,b0,hs⟩:∃ n r0 b0,stN l false = (n,r0,b0):=⟨_,_,_,rfl⟩
 have hrange:=stN_range l false hr2.byte
 rw [hs] at hrange
 simp only at hrange
 have HC:=hid (rnumber_eq hr2 hs)
 have HS:=hid hs
 have H2:=hid (And.intro (ho2 rp hr2.here) (Upd.of_below No hb2))
 clear hr2 ho2 hb2 hs HN
 go_wp2_with (fail)
 refine HC.out.mono ?_
 rintro e w3 ⟨rfl,A3,c3,hr3,hu3⟩
 have HR3:=hid hr3
 have HU3:=hid (H2.out.2.trans hu3 fun i hi e => by have:=H2.out.1; omega)
 clear hr3 hu3 HC
 by_cases hgt:64 < n
 · have hout:Hid (decX l = none):=hid (by
    rcases b0 with _ | _
    · rw [dec_eq HS.out,if_neg (by omega)]
    · exact dec_bad HS.out)
   go_wp2
   go_ret2
   exact .none_ hout.out ⟨rfl,HU3.out⟩
 obtain ⟨N,rfl⟩:∃ N:Nat,n = N:=⟨n.toNat,by omega⟩
 have hN:N ≤ 64:=by omega
 have HOut:Hid ((b0 = true → decX l = none ∧ N = 0) ∧ (b0 = false → decX l = fin (rdC N [] r0))):=hid ⟨fun h => by
  subst h
  have:=stN_none HS.out
  exact ⟨dec_bad HS.out,by omega⟩,fun h => by
  subst h
  rw [dec_eq HS.out,if_pos (by omega),Int.toNat_natCast]⟩
 clear HS
 go_wp2_with (fail)
 refine Calls.mono (new_ w3) ?_
 rintro e w4 ⟨rfl,rfl⟩
 have HW4:Hid (∃ w4 p,w4 = w3.alloc (.cells #[.map none,.slice none 0 0] 212) ∧ p = w3.heap.size ∧ Dd 223 w w4 R rp (fun k => k = p) p 0 [] r0 b0):=hid ⟨_,_,rfl,rfl,
  ⟨⟨A3,c3,HR3.out.keep ((Upd.refl No w3).alloc _) fun _ _ => no_ _⟩,⟨_,_,_,_,Wx.new rfl⟩,fun k hk e => by have:=HR3.out.lt k hk; omega,H2.out.1,fun k hk => by have:=HU3.out.size; omega,HU3.out.alloc _,Ok.nil⟩⟩
 obtain ⟨w4,p,hw4,hp4,hD4⟩:=HW4.out
 rw [← hw4,← hp4]
 have HD4:=hid hD4
 clear hw4 hp4 hD4 HW4 HR3 HU3 H2 hrange hgt
 go_wp2_with (fail)
 go_loopw [18] (fun v18 W => ∃ (j:Nat) (F:Nat → Prop) (n:Nat) (x:St) (rest:List Int),j ≤ N ∧ v18 = .int .u64 j ∧ Hid (Dd 223 w W R rp F p n x rest b0 ∧ n ≤ 4 * j ∧ (b0 = false → decX l = fin (rdC (N - j) x rest)))) (fun v18 _ => N - (intOf v18).toNat)
 case atStart => exact ⟨0,_,0,[],r0,by omega,rfl,hid ⟨HD4.out,by omega,HOut.out.2⟩⟩
 case round =>
  clear HD4
  obtain ⟨j,F,n,x,rest,hj,rfl,HD⟩:=hrel
  by_cases hlt:j < N
  · have hb0:b0 = false:=by
     rcases b0 with _ | _
     · rfl
     · have:=(HOut.out.1 rfl).2
       omega
    subst hb0
    have HEq:=hid (HD.out.2.2 rfl)
    obtain ⟨Ar,cr,hrr⟩:=HD.out.1.rr
    obtain ⟨c0,r1,b1,hs1⟩:∃ c0 r1 b1,stN rest false = (c0,r1,b1):=⟨_,_,_,rfl⟩
    have hg1:=stN_range rest false hrr.byte
    rw [hs1] at hg1
    simp only at hg1
    have HC1:=hid (rnumber_eq hrr hs1)
    have HS1:=hid hs1
    have HG1:Hid (Wp.Key c0):=hid hg1
    have hj2:(j:Int) < (N:Int):=by omega
    have hwj:IntKind.u64.wrap ((j:Int) + 1) = (j:Int) + 1:=by
     rw [IntKind.wrap_u64]
     omega
    have HWJ:=hid hwj
    clear hrr hs1 hwj hg1
    go_wp2_with (fail)
    refine HC1.out.mono ?_
    rintro e w5 ⟨rfl,A5,c5,hr5,hu5⟩
    have HD5:=hid (HD.out.1.read hr5 hu5)
    obtain ⟨k,r2,b2,hs2⟩:∃ k r2 b2,stN r1 b1 = (k,r2,b2):=⟨_,_,_,rfl⟩
    have hg2:=stN_range r1 b1 hr5.byte
    rw [hs2] at hg2
    simp only at hg2
    have HC2:=hid (rnumber_eq hr5 hs2)
    have HS2:=hid hs2
    clear hr5 hu5 hs2 HC1
    go_wp2_with (fail)
    refine HC2.out.mono ?_
    rintro e w6 ⟨rfl,A6,c6,hr6,hu6⟩
    have HD6:=hid (HD5.out.read hr6 hu6)
    have HB6:=hid (bad rp b2 _ w6 hr6.blk)
    clear hr6 hu6 HC2 HD5
    have hNj:N - j = N - (j + 1) + 1:=by omega
    have HNj:=hid hNj
    clear hNj
    rcases b2 with _ | _
    case' true =>
     have hout:Hid (decX l = none):=hid (by rw [HEq.out,HNj.out,rdC_bad _ HS1.out HS2.out]; rfl)
     go_wp2_with (fail)
     refine HB6.out.mono ?_
     rintro e w7 ⟨rfl,rfl⟩
     go_wp2
     go_ret2
     exact .none_ hout.out ⟨rfl,HD6.out.upd⟩
    obtain rfl:=stN_first (r1:=r2) HS2.out
    by_cases hk1:k < 1
    · have hout:Hid (decX l = none):=hid (by rw [HEq.out,HNj.out,rdC_no _ HS1.out HS2.out (by omega)]; rfl)
      go_wp2_with (fail)
      refine HB6.out.mono ?_
      rintro e w7 ⟨rfl,rfl⟩
      go_wp2
      go_ret2
      exact .none_ hout.out ⟨rfl,HD6.out.upd⟩
    by_cases hk4:4 < k
    · have hout:Hid (decX l = none):=hid (by rw [HEq.out,HNj.out,rdC_no _ HS1.out HS2.out (by omega)]; rfl)
      go_wp2_with (fail)
      refine HB6.out.mono ?_
      rintro e w7 ⟨rfl,rfl⟩
      go_wp2
      go_ret2
      exact .none_ hout.out ⟨rfl,HD6.out.upd⟩
    obtain ⟨K,rfl⟩:∃ K:Nat,k = K:=⟨k.toNat,by omega⟩
    obtain ⟨mo,v,m,G,hx⟩:=HD6.out.wd
    obtain ⟨Ao,co,hve,hk2,hk3⟩:=hx.ord.shape
    subst hve
    have hlx:=HD6.out.ok.len
    have hlk:=ks_length x
    have HHas:=hid (u_has (c:=co) c0 (Sl.rd hx.ord) (by omega))
    have hb2:=box2 hx.blk
    obtain ⟨y0,y1⟩:=hb2
    rw [hlk] at y1 HHas
    clear hx hk2 hk3 hlk y0 hg2
    rcases hmem:decide (c0 ∈ ks x) with _ | _
    case' true =>
     have hout:Hid (decX l = none):=hid (by rw [HEq.out,HNj.out,rdC_no _ HS1.out HS2.out (fun h => h.2.2 (of_decide_eq_true hmem))]; rfl)
     rw [hmem] at HHas
     clear hmem
     go_wp2_with (fail)
     refine HB6.out.mono ?_
     rintro e w7 ⟨rfl,rfl⟩
     go_wp2_with (fail)
     refine Calls.mono HHas.out ?_
     rintro e w8 ⟨rfl,rfl⟩
     go_wp2
     go_ret2
     exact .none_ hout.out ⟨rfl,HD6.out.upd⟩
    have hK:1 ≤ K ∧ K ≤ 4:=by omega
    have HEq2:Hid (decX l = fin ((rdS c0 K x r2).bind fun q => rdC (N - (j + 1)) q.1 q.2)):=hid (by
     rw [HEq.out,HNj.out,rdC_ok _ HS1.out HS2.out ⟨by omega,by omega,of_decide_eq_false hmem⟩,Int.toNat_natCast])
    rw [hmem] at HHas
    clear hmem HEq HS1 HS2
    go_wp2_with (fail)
    refine HB6.out.mono ?_
    rintro e w7 ⟨rfl,rfl⟩
    go_wp2_with (fail)
    refine Calls.mono HHas.out ?_
    rintro e w8 ⟨rfl,rfl⟩
    clear y1 HHas HB6 hlx
    go_wp2_with (fail)
    obtain ⟨wo,rfl⟩:∃ wo:World,wo = wr:=⟨_,rfl⟩
    have HDn:=hid HD.out.2.1
    clear HD
    go_loopw [43] (fun v43 W => ∃ (i:Nat) (F:Nat → Prop) (n:Nat) (x:St) (rest:List Int),i ≤ K ∧ v43 = .int .u64 i ∧ Hid (Dd 223 w W R rp F p n x rest false ∧ n ≤ 4 * j + i ∧ (decX l = fin ((rdS c0 (K - i) x rest).bind fun q => rdC (N - (j + 1)) q.1 q.2)))) (fun v43 _ => K - (intOf v43).toNat)
    case atStart => exact ⟨0,F,n,x,r2,by omega,rfl,hid ⟨HD6.out,by have:=HDn.out; omega,HEq2.out⟩⟩
    case round =>
     clear HD6 HEq2
     obtain ⟨i,F,n,x,rest,hi,rfl,HD⟩:=hrel
     by_cases hlt2:i < K
     · obtain ⟨Ar,cr,hrr⟩:=HD.out.1.rr
       obtain ⟨s0,r1,b1,hs1⟩:∃ s0 r1 b1,stN rest false = (s0,r1,b1):=⟨_,_,_,rfl⟩
       have hg1:=stN_range rest false hrr.byte
       rw [hs1] at hg1
       simp only at hg1
       have HC1:=hid (rnumber_eq hrr hs1)
       have HS1:=hid hs1
       have hi2:(i:Int) < (K:Int):=by omega
       have hwi:IntKind.u64.wrap ((i:Int) + 1) = (i:Int) + 1:=by
        rw [IntKind.wrap_u64]
        omega
       have HWI:=hid hwi
       have HG2:Hid (Wp.Key s0):=hid hg1
       have hKi:K - i = K - (i + 1) + 1:=by omega
       have HKi:=hid hKi
       clear hrr hs1 hwi hg1 hKi
       go_wp2_with (fail)
       refine HC1.out.mono ?_
       rintro e w5 ⟨rfl,A5,c5,hr5,hu5⟩
       have HD5:=hid (HD.out.1.read hr5 hu5)
       have HB5:=hid (bad rp b1 _ w5 hr5.blk)
       clear hr5 hu5 HC1
       rcases b1 with _ | _
       case' true =>
        have hout:Hid (decX l = none):=hid (by rw [HD.out.2.2,HKi.out,rdS_bad _ HS1.out]; rfl)
        go_wp2_with (fail)
        refine HB5.out.mono ?_
        rintro e w7 ⟨rfl,rfl⟩
        go_wp2
        go_ret2
        exact .none_ hout.out ⟨rfl,HD5.out.upd⟩
       have hA:=add c0 s0 HD5.out.wd HG1.out HG2.out HD5.out.ok (by have:=HD.out.2.1; omega)
       have hOk:=HD5.out.ok.add HG1.out HG2.out
       have hNo:=rdS_no (x:=x) (c:=c0) (K - (i + 1)) HS1.out
       have hYes:=rdS_ok (x:=x) (c:=c0) (K - (i + 1)) HS1.out
       unfold AddOut at hA
       generalize addX x c0 s0 = r at *
       obtain ⟨b,y⟩:=r
       simp only at hA hOk hNo hYes
       have HA:=hid hA
       have HOk:=hid hOk
       have HNo:=hid hNo
       have HYes:=hid hYes
       clear hA hOk hNo hYes
       rcases b with _ | _
       · have hout:Hid (decX l = none):=hid (by rw [HD.out.2.2,HKi.out,HNo.out rfl]; rfl)
         clear HYes HNo
         go_wp2_with (fail)
         refine HB5.out.mono ?_
         rintro e w7 ⟨rfl,rfl⟩
         go_wp2_with (fail)
         refine HA.out.mono ?_
         rintro e w8 ⟨rfl,F8,hw8,hm8⟩
         have HD8:=hid (HD5.out.added hw8 hm8 HOk.out)
         clear hw8 hm8
         go_wp2
         go_ret2
         exact .none_ hout.out ⟨rfl,HD8.out.upd⟩
       · have hout:Hid (decX l = fin ((rdS c0 (K - (i + 1)) y r1).bind fun q => rdC (N - (j + 1)) q.1 q.2)):=hid (by rw [HD.out.2.2,HKi.out,HYes.out rfl])
         clear HYes HNo
         go_wp2_with (fail)
         refine HB5.out.mono ?_
         rintro e w7 ⟨rfl,rfl⟩
         go_wp2_with (fail)
         refine HA.out.mono ?_
         rintro e w8 ⟨rfl,F8,hw8,hm8⟩
         have HD8:=hid (HD5.out.added hw8 hm8 HOk.out)
         have HN8:=hid HD.out.2.1
         clear hw8 hm8
         go_wp2
         go_roundw
         case rel => exact ⟨i + 1,F8,n + 1,y,r1,by omega,by first | go_num | (rw [HWI.out]; go_num),hid ⟨HD8.out,by have:=HN8.out; omega,hout.out⟩⟩
         case measure =>
          try rw [HWI.out]
          simp [intOf]; omega
     · obtain rfl:i = K:=by omega
       have HD9:Hid (Dd 223 w wr R rp F p n x rest false ∧ n ≤ 4 * (j + 1) ∧ (false = false → decX l = fin (rdC (N - (j + 1)) x rest))):=hid ⟨HD.out.1,by have:=HD.out.2.1; omega,fun _ => by
        rw [HD.out.2.2,Nat.sub_self,rdS]
        rfl⟩
       go_wp2
       go_roundw
       case rel => exact ⟨j + 1,F,n,x,rest,by omega,by first | go_num | (rw [HWJ.out]; go_num),hid ⟨HD9.out.1,HD9.out.2.1,fun _ => HD9.out.2.2 rfl⟩⟩
       case measure =>
        try rw [HWJ.out]
        simp [intOf]; omega
  · obtain rfl:j = N:=by omega
    obtain ⟨Ar,cr,hrr⟩:=HD.out.1.rr
    have HEnd:=hid (end_ rp rest.length cr Ar b0 wr hrr.blk)
    rcases hee:(!b0 && decide (rest.length = 0)) with _ | _
    · have hout:Hid (decX l = none):=hid (by
       rcases b0 with _ | _
       · rw [HD.out.2.2 rfl,Nat.sub_self,rdC]
         rcases rest with _ | ⟨z,r⟩
         · simp at hee
         · rfl
       · exact (HOut.out.1 rfl).1)
      rw [hee] at HEnd
      clear hee hrr
      go_wp2_with (fail)
      refine HEnd.out.mono ?_
      rintro e w8 ⟨rfl,rfl⟩
      go_wp2
      go_ret2
      exact .none_ hout.out ⟨rfl,HD.out.1.upd⟩
    · have hout:Hid (decX l = some x):=hid (by
       rcases b0 with _ | _
       · rw [HD.out.2.2 rfl,Nat.sub_self,rdC]
         rcases rest with _ | ⟨z,r⟩
         · rfl
         · simp at hee
       · simp at hee)
      rw [hee] at HEnd
      clear hee hrr
      go_wp2_with (fail)
      refine HEnd.out.mono ?_
      rintro e w8 ⟨rfl,rfl⟩
      go_wp2
      go_ret2
      exact .some_ hout.out ⟨p,F,n,rfl,HD.out.1.wd,by have:=HD.out.2.1; omega,HD.out.1.fo,HD.out.1.upd⟩
end We
end
