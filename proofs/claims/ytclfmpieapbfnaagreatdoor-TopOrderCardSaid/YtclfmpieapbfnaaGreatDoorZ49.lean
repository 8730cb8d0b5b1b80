/- Part 49: lemmas, no conditions. -/
import Derived.Test.YtclfmpieapbfnaaGreatDoorZ48
set_option maxHeartbeats 16000000
set_option linter.unusedVariables false
set_option linter.unusedSimpArgs false
section
namespace Go.Proofs.YtclfmpieapbfnaaGreatDoor.Eg
open Go.RowKit B Cm Cr Ou Lt Lc
open Ac (Am fresh fresh_ok encA encA_le encA_byte freshB Fit)
open Bo (encL)
open Pr (Pg Ins icells)
open Tu (ocm)
open Tp
theorem oz_0 {p:Nat} {bs:List Int} (hb:bs.length ≤ 211) (hok:((em0 p 8000 2).taught bs ns0 cs0).ok):Oz ((em0 p 8000 2).taught bs ns0 cs0) 1 2 0 [] Jn.s0 0 [] []:=by
 refine ⟨hok,⟨rfl,fun s h => by cases h⟩,by show 301 ≤ 1000 + 100 ∧ 1000 + 100 ≤ 2000 + 200 * 1; omega,rfl,?_,rfl,?_,Wj.nil,rfl,stA_0,stB_0,Jb.zero,Int.le_refl _,by simp,⟨fun z hz => (by cases hz),by simp⟩,⟨fun z hz => (by cases hz),by simp⟩,⟨fun z hz => (by cases hz),by simp⟩⟩
 · have:=roomP (bs:=bs) (by omega)
   show 0 + Gp.nbl (encL [(kp,bs,false)]) ≤ 2
   omega
 · intro e he
   cases he
theorem chain_at {F:Nat → Prop} {w:World} {v:Value} {lo:Int} {ys:List Int} (h:Ib.Row w F v (chain lo ys)) {k:Nat} (hk:k < ys.length):∃ ad c,v = .slice (some ad) ys.length c ∧ w.cell? (ad.add (k * 4)) = some (.string ka) ∧ w.cell? ⟨(ad.add (k * 4)).block,(ad.add (k * 4)).off + 1,none⟩ = some (.int .u64 (lo + k + 1)):=by
 obtain ⟨A,c,hv,_,_⟩:=h.len
 obtain ⟨ps,h1,h2,h3,h4⟩:=h
 have hl:ps.length = ys.length:=by
  have:=congrArg List.length h1
  rw [chain_length] at this
  simpa using this
 have hi:k < ps.length:=by omega
 subst hv
 have hl2:(chain lo ys).length = ps.length:=by rw [chain_length]; omega
 rw [hl2] at h2
 obtain ⟨ad,rfl,hc⟩:=Op.row_at (f:=fun z:Ib.Lv => Lt.cells z.1 z.2) h2.rd (fun _ _ => rfl) rfl hi
 obtain ⟨z,hz⟩:=chain_get ys lo k (by rw [chain_length]; exact hk)
 have hx:ps[k].1 = lB (lo + k + 1) z:=by
  have e:(ps.map (·.1))[k]? = (chain lo ys)[k]?:=by rw [h1]
  rw [List.getElem?_map,List.getElem?_eq_getElem hi,List.getElem?_eq_getElem (by rw [chain_length]; exact hk),hz] at e
  simpa using e
 have g0:=hc 0 (by omega)
 have g1:=hc 1 (by omega)
 rw [Nd.add_fl ad (k * 4) 1 (by omega)] at g1
 refine ⟨ad,c,by rw [hl2,hl],?_,?_⟩
 · have g0':w.cell? (ad.add (k * 4)) = _:=g0
   rw [g0']; simp only [Lt.cells,hx,lB]; rfl
 · rw [g1]; simp only [Lt.cells,hx,lB]; rfl
theorem rel_n {rl:Int} (h:0 ≤ rl ∧ rl ≤ 18446744073709551615) (k:Nat):∃ n:Nat,IntKind.u64.wrap (1 + bits BinOp.and IntKind.u64 (rl / 2 ^ k) 3) = n ∧ n ≤ 4:=by
 have h1:0 ≤ rl / 2 ^ k:=Int.ediv_nonneg h.1 (Int.pow_nonneg (by omega))
 have h2:rl / 2 ^ k ≤ rl:=Int.ediv_le_self _ h.1
 generalize rl / 2 ^ k = z at *
 have h3:bits .and .u64 z 3 = z % 4:=by
  have:z < 18446744073709551616:=by omega
  go_bits2
 refine ⟨(1 + z % 4).toNat,?_,by omega⟩
 rw [h3,IntWalk.u64_in _ (by omega)]
 omega
set_option maxRecDepth 100000 in
theorem teach0 {w w3:World} {F:Nat → Prop} {p pe:Nat} (hen:En w3 F pe (em0 p 8000 2)) (hF:∀ k,F k → w.heap.size ≤ k) (hu:Upd No w w3) {T1 T2 T3:TypeId} {W:World}
 (hW:W = ((w3.alloc (.cells #[.string kb] T1)).alloc (.cells #[.int .i64 5,.int .i64 0,.int .i64 16,.int .i64 5,.int .i64 23,.int .i64 0,.int .i64 3,.int .i64 1,.int .i64 15,.int .i64 8,.int .i64 1,.int .i64 1,.int .i64 4,.int .i64 0,.int .i64 17,.int .i64 0] T2)).alloc (.cells #[.slice (some ⟨w3.heap.size,0,none⟩) 1 1,.slice (some ⟨w3.heap.size + 1,0,none⟩) 8 8] T3)) :
 Calls Tryz.prog 8 #[.pointer (some ⟨pe,0,none⟩),.agg #[.slice (some ⟨w3.heap.size,0,none⟩) 1 1,.slice (some ⟨w3.heap.size + 1,0,none⟩) 8 8]] W fun e w' => e = .returned (.int .i64 0) ∧ ∃ F' m,Lo w w' F' pe m 1 2 0 [] Jn.s0 0 [] []:=by
 have h1:Upd No w3 W:=by rw [hW]; exact (((Upd.refl _ _).alloc _).alloc _).alloc _
 have hlt:=hen.lt
 have hsz:(w3.alloc (.cells #[.string kb] T1)).heap.size = w3.heap.size + 1:=Array.size_push _
 have hp:Pg W (.slice (some ⟨w3.heap.size,0,none⟩) 1 1) (.slice (some ⟨w3.heap.size + 1,0,none⟩) 8 8) ns0 cs0:=by
  have r1:=Rd_lit w3 T1 1 1 [.string kb] rfl
  have r2:=Rd_lit (w3.alloc (.cells #[.string kb] T1)) T2 2 8 [.int .i64 5,.int .i64 0,.int .i64 16,.int .i64 5,.int .i64 23,.int .i64 0,.int .i64 3,.int .i64 1,.int .i64 15,.int .i64 8,.int .i64 1,.int .i64 1,.int .i64 4,.int .i64 0,.int .i64 17,.int .i64 0] rfl
  rw [hsz] at r2
  have u1:Upd No (w3.alloc (.cells #[.string kb] T1)) W:=by rw [hW]; exact ((Upd.refl _ _).alloc _).alloc _
  have u2:Upd No ((w3.alloc (.cells #[.string kb] T1)).alloc (.cells #[.int .i64 5,.int .i64 0,.int .i64 16,.int .i64 5,.int .i64 23,.int .i64 0,.int .i64 3,.int .i64 1,.int .i64 15,.int .i64 8,.int .i64 1,.int .i64 1,.int .i64 4,.int .i64 0,.int .i64 17,.int .i64 0] T2)) W:=by rw [hW]; exact (Upd.refl _ _).alloc _
  exact ⟨_,1,_,8,rfl,rfl,r1.upd (by omega) u1 fun _ _ => no_ _,r2.upd (by omega) u2 fun _ _ => no_ _,⟨Nat.le_refl _,by simp [maxLen]⟩,Nat.le_refl _,by simp [maxLen]⟩
 refine (teach_ (hen.quiet h1) hp (fun k hk hf => ?_) (by decide) (by decide) kk0 (fun i hi => (gi0 i hi).1) (fun i hi => (gi0 i hi).2) (by show 1000 + 200 ≤ 400000; omega) (K:=211) (by decide) (by omega) (fun bs hb => ?_)).mono ?_
 · have h9:=hlt k hf
   rcases hk with hk | hk
   · have:w3.heap.size = k:=by simpa [Value.ownBlock] using hk
     omega
   · have:w3.heap.size + 1 = k:=by simpa [Value.ownBlock] using hk
     omega
 · have:=roomP (bs:=bs) (by omega)
   show _ ≤ 2000 - 0
   omega
 · rintro e w' ⟨bs,rfl,hb,F',hen',hm⟩
   refine ⟨rfl,F',_,hen',oz_0 hb hen'.ok,fun k hk => ?_,?_⟩
   · have:=hu.size
     have:=h1.size
     exact (hm.sub k hk).elim (hF k) fun h9 => by omega
   · exact (hu.next h1).trans hm.upd fun i hi hf => by have:=hF i hf; omega
set_option maxRecDepth 100000 in
theorem ord_law {w:World} {A:Option Addr} {c:Nat} {ts:List Int} {rl:Int} (hr:Rn w .u8 A ts) (hts:ts.length ≤ maxLen ∧ Byte ts) (hrl:0 ≤ rl ∧ rl ≤ 18446744073709551615)
 (HAw:∀ W,Upd No w W → Calls Tryz.prog 5 #[] W fun e W' => e = .returned (.bool true) ∧ Upd No W W') :
 Calls Tryz.prog 3 #[.slice A ts.length c,.int .u64 rl] w fun e w' => e = .returned (.bool true) ∧ Upd No w w':=by
 have hl:ts.length ≤ 9223372036854775807:=by have:=hts.1; simp only [maxLen] at this; omega
 have HB:=hid hts.2
 have HR:=hid fun W (hu:Upd No w W) => show Rn W .u8 A ts from Rd.upd hr (by omega) hu fun _ _ => no_ _
 have HA:=hid HAw
 clear hr hts HAw
 by_cases hbig:40 < ts.length
 · have k1:(40:Int) < (ts.length:Int):=by omega
   go_enter Tryz.func3,Tryz.ntmps3
   go_wp2_with (fail)
   refine Calls.mono (HA.out w (Upd.refl _ _)) ?_
   rintro e w1 ⟨rfl,hu1⟩
   have HU1:=hid hu1
   clear hu1
   go_wp2_with (fail)
   refine Calls.mono (HA.out w1 HU1.out) ?_
   rintro e w2 ⟨rfl,hu2⟩
   have HU2:=hid (HU1.out.next hu2)
   clear hu2
   go_wp2
   go_ret
   exact ⟨rfl,HU2.out⟩
 have k1:¬ (40:Int) < (ts.length:Int):=by omega
 go_enter Tryz.func3,Tryz.ntmps3
 go_wp2_with (fail)
 refine Calls.mono (HA.out w (Upd.refl _ _)) ?_
 rintro e w1 ⟨rfl,hu1⟩
 have HU1:=hid hu1
 have HD:=hid (show Calls Tryz.prog 7 #[.int .i64 8000] w1 _ from disk_ 8000 w1 (by omega))
 clear hu1
 go_wp2_with (fail)
 refine Calls.mono HD.out ?_
 rintro e w2 ⟨p,D,rfl,hdk,hD,hu2⟩
 have HO:=hid (open_ hdk (by omega) 2 (by omega))
 have HU2:=hid (HU1.out.next hu2)
 have HDl:Hid (∀ k,D k → w.heap.size ≤ k):=hid fun k hk => by have:=hD k hk; have:=HU1.out.size; omega
 clear hdk hD hu2 HD
 go_wp2_with (fail)
 refine Calls.mono HO.out ?_
 rintro e w3 ⟨pe,F,rfl,hen,hF,hu3⟩
 have HT:=hid fun T1 T2 T3 W hW => teach0 (T1:=T1) (T2:=T2) (T3:=T3) (W:=W) hen (fun k hk => (hF k hk).elim (HDl.out k) fun h9 => by have:=HU2.out.size; omega) (HU2.out.next hu3) hW
 clear hen hF hu3 HO HDl HU2 HU1
 go_wp2_with (fail)
 refine Calls.mono (HT.out _ _ _ _ rfl) ?_
 rintro e w4 ⟨rfl,F4,m4,hL4⟩
 have HL4:=hid hL4
 clear hL4 HT
 go_wp2_with (fail)
 go_loopw [8,46] (fun v8 v46 W => ∃ (i:Nat) (lo:Int) (m:Em) (F:Nat → Prop) (xs:List Int) (jn:Jn.S) (ys zs:List Int),i ≤ ts.length ∧ v46 = .int .i64 i ∧ v8 = .int .i64 lo ∧ Hid (Lo w W F pe m (1 + 13 * i) (2 + 31 * i) i xs jn lo ys zs)) (fun v8 v46 _ => ts.length - (intOf v46).toNat)
 case atStart => exact ⟨0,0,_,_,_,_,_,_,by omega,rfl,rfl,HL4⟩
 case round =>
  clear HL4
  obtain ⟨i,lo,m,F,xs,jn,ys,zs,hi,rfl,rfl,HL⟩:=hrel
  by_cases hlt:i < ts.length
  · have hi2:(i:Int) < (ts.length:Int):=by omega
    have hi1:(0:Int) ≤ (i:Int):=by omega
    have hbt:=HB.out _ (gi_mem ts i hlt)
    obtain ⟨ad,rfl,hc⟩:=(HR.out wr HL.out.upd).at_ hlt
    have HCl:Hid (∀ W,Upd No w W → W.cell? (ad.add i) = some (.int .u8 (gi ts i))):=hid fun W hu => by
     obtain ⟨ad',e,hc'⟩:=(HR.out W hu).at_ hlt
     injection e with e
     subst e
     exact hc'
    generalize gi ts i = b at *
    have hrb:0 ≤ b ∧ b ≤ 255:=by have:=hbt; omega
    have HBr:=hid hrb
    have hs40:1 + 13 * i ≤ 521 ∧ 2 + 31 * i ≤ 1242 ∧ i ≤ 40:=by omega
    have HOf:=hid (lo_offer HL.out (by omega) (by omega) (by omega) hrb (g:=wr.heap.size) rfl rfl)
    have hw1:IntKind.i64.wrap b = b:=IntWalk.i64_in _ (by omega)
    have hw2:IntKind.u64.wrap (i:Int) = (i:Int):=IntWalk.u64_in _ (by omega)
    clear hbt
    go_wp2_with (fail)
    refine Calls.mono HOf.out ?_
    rintro e w5 ⟨b5,c5,F5,m5,xs5,rfl,hne5,hL5⟩
    have HPa:=hid (lo_pickA hL5 hne5 (by omega) (by omega) (by omega))
    clear hL5 hne5 HOf hc
    go_wp2_with (fail)
    refine Calls.mono HPa.out ?_
    rintro e w6 ⟨d6,st6,c6,F6,m6,xs6,zs6,rfl,hL6⟩
    have HL6:=hid hL6
    clear hL6 HPa
    go_wp2_with (fail)
    obtain ⟨n,hn,hn4⟩:=rel_n hrl (2 * (i % 32))
    rw [hn]
    clear hn
    go_loopw [69] (fun v69 W => ∃ (k:Nat) (m:Em) (F:Nat → Prop) (xs ys zs:List Int),k ≤ n ∧ v69 = .int .u64 k ∧ Hid (Lo w W F pe m (3 + 13 * i + 2 * k) (10 + 31 * i + 5 * k) (i + 1) xs jn lo ys zs)) (fun v69 _ => n - (intOf v69).toNat)
    case atStart => exact ⟨0,_,_,_,_,_,by omega,rfl,hid (HL6.out.more (by omega) (by omega))⟩
    case round =>
     clear HL6
     obtain ⟨k,m,F,xs,ys,zs,hk,rfl,HL⟩:=hrel
     by_cases hlt2:k < n
     · have hk2:(k:Int) < (n:Int):=by omega
       have hk3:(k:Int) ≤ 4:=by omega
       have HRe:=hid (lo_relay HL.out (by omega) (by omega) (by omega))
       clear HL
       go_wp2_with (fail)
       refine Calls.mono HRe.out ?_
       rintro e w7 ⟨t7,c7,F7,m7,xs7,ys7,zs7,rfl,hL7⟩
       have HL7:=hid (hL7.more (s':=3 + 13 * i + 2 * (k + 1)) (u':=10 + 31 * i + 5 * (k + 1)) (by omega) (by omega))
       clear hL7 HRe
       go_wp2
       go_roundw
       case rel => exact ⟨k + 1,m7,F7,xs7,ys7,zs7,by omega,by go_num,HL7⟩
       case measure => simp [intOf]; omega
     · obtain rfl:k = n:=by omega
       have HLb:=hid (HL.out.more (s':=11 + 13 * i) (u':=30 + 31 * i) (by omega) (by omega))
       have HAc:=hid (lo_actor HLb.out (by omega))
       clear HL HLb
       go_wp2_with (fail)
       refine Calls.mono HAc.out ?_
       rintro e w7 ⟨q,pj,pi,GJ,GA,F7,m7,rfl,hc0,hc1,hjd,hib,_,hL7⟩
       have hys:=hL7.os.y8
       have hlo:=hL7.os.lo0
       have htop:=hL7.os.top
       have HIa:=hid (La.iall pi (chain lo ys) GA w7 hib (fun x hx => by
        obtain ⟨s9,z9,rfl,_⟩:=chain_mem ys lo x hx
        show (1:Nat) ≤ 1000000
        omega) (by rw [chain_length]; omega))
       have HL7:=hid hL7
       clear hL7 HAc hjd hib hc0
       go_wp2_with (fail)
       refine Calls.mono HIa.out ?_
       rintro e w8 ⟨v8,G8,rfl,hrow,hG8,hu8⟩
       have HL8:=hid (HL7.out.quiet hu8)
       obtain ⟨A8,c8,rfl,hc8,hc8m⟩:=hrow.len
       rw [chain_length] at hrow hc8 ⊢
       have HRw:=hid hrow
       have hlo41:lo ≤ 41:=by omega
       have hyl:(ys.length:Int) ≤ 8:=by omega
       clear hrow hG8 hu8 HL7 HIa hc1 hc8 hc8m
       go_wp2_with (fail)
       go_loopw [86] (fun v86 W => ∃ k:Nat,k ≤ ys.length ∧ v86 = .int .i64 k ∧ W = w8) (fun v86 _ => ys.length - (intOf v86).toNat)
       case atStart => exact ⟨0,by omega,rfl,rfl⟩
       case round =>
        obtain ⟨k,hk,rfl,rfl⟩:=hrel
        by_cases hlt3:k < ys.length
        · have hk2:(k:Int) < (ys.length:Int):=by omega
          have hk3:(0:Int) ≤ (k:Int):=by omega
          obtain ⟨ad8,c9,hv8,x0,x1⟩:=chain_at HRw.out hlt3
          have hA8:A8 = some ad8:=by
           injection hv8
          subst hA8
          have q1:IntKind.u64.wrap lo = lo:=IntWalk.u64_in _ (by omega)
          have q2:IntKind.u64.wrap (k:Int) = (k:Int):=IntWalk.u64_in _ (by omega)
          have q3:IntKind.u64.wrap (lo + (k:Int)) = lo + (k:Int):=IntWalk.u64_in _ (by omega)
          have q4:IntKind.u64.wrap (lo + (k:Int) + 1) = lo + (k:Int) + 1:=IntWalk.u64_in _ (by omega)
          have hka:ka.toList = [97]:=by kernel_rfl
          clear hv8
          go_wp2
          go_roundw
          case rel => exact ⟨k + 1,by omega,by go_num,trivial⟩
          case measure => simp [intOf]; omega
        · obtain rfl:k = ys.length:=by omega
          have hc:=HCl.out wr HL8.out.upd
          by_cases hgo:b % 3 = 0 ∧ ys ≠ []
          · obtain ⟨hb3,hne⟩:=hgo
            obtain ⟨y,r,rfl⟩:∃ y r,ys = y :: r:=by
             cases ys with
             | nil => exact absurd rfl hne
             | cons y r => exact ⟨y,r,rfl⟩
            have hyp:(0:Int) < ((y :: r).length:Int):=by simp only [List.length_cons]; omega
            have HPb:=hid (lo_pickB HL8.out (by omega) (by omega) (by omega))
            clear hne HRw hlt3 hlt2
            go_wp2_with (fail)
            refine Calls.mono HPb.out ?_
            rintro e w9 ⟨F9,m9,jn9,rfl,hL9⟩
            rw [show ocm true 5 = #[.bool true,.bool false,.int .i64 0,.int .i64 5,.slice none 0 0] from rfl]
            have HB10:Hid (∃ w10 p14,w10 = w9.alloc (.cells #[.bool true,.bool false,.int .i64 0,.int .i64 5,.slice none 0 0] 43) ∧ p14 = w9.heap.size ∧ Blk w10 p14 43 #[.bool true,.bool false,.int .i64 0,.int .i64 5,.slice none 0 0] ∧ ¬ F9 p14 ∧ Lo w w10 F9 pe m9 (11 + 13 * i + 1 + 1) (30 + 31 * i + 3) (i + 1) xs jn9 (lo + 1) r zs):=hid (by
             have h1:=hL9.en.lt
             exact ⟨_,_,rfl,rfl,Blk.fresh _ _ _,fun hf => by have:=h1 _ hf; omega,hL9.quiet ((Upd.refl _ _).alloc _)⟩)
            clear hL9 HPb
            go_wp2_with (fail)
            obtain ⟨w10,p14,hw10,hp14,hb10,hnF,hL10⟩:=HB10.out
            rw [← hw10,← hp14]
            have HX10:=hid (And.intro hb10 hnF)
            have HAc:=hid (lo_actor hL10 (by omega))
            clear hw10 hb10 hnF hL10 HB10 hp14
            refine Calls.mono HAc.out ?_
            rintro e w11 ⟨q2,pj2,pi2,GJ2,GA2,F11,m11,rfl,hc0,_,hjd,_,hu11,hL11⟩
            have hx11:=(HX10.out.1.upd hu11 HX10.out.2).cell 0
            have hx11':w11.cell? ⟨p14,0,none⟩ = some (.bool true):=by simpa using hx11
            have hst:=Jn.state hjd hL11.os.jb.jo
            have hreg:=hL11.os.jb.reg
            generalize Jn.sts jn9.1 jn9.2.1 = bs at hst hreg
            have HSt:=hid hst
            have hidx:∀ w,(Instr.index 61 (.agg (Jn.arr bs)) (.int .i64 1)).run Tryz.prog w = .ok (.int .i64 (lo + 1)) w:=fun w => by
             have:=Jn.idx8 bs 1 (by omega) w
             rw [hreg] at this
             exact this
            have q1:IntKind.i64.wrap (lo + 1) = lo + 1:=IntWalk.i64_in _ (by omega)
            have HL11:=hid hL11
            clear hst hreg hL11 hjd hu11 hx11 HX10 HAc
            go_wp2_with (fail)
            refine Calls.mono HSt.out ?_
            rintro e w12 ⟨rfl,hu12⟩
            have HL12:=hid (HL11.out.quiet hu12)
            clear hu12 HL11 HSt
            go_wp2
            go_roundw
            case rel => exact ⟨i + 1,lo + 1,m11,F11,xs,jn9,r,zs,by omega,by go_num,rfl,hid (HL12.out.more (by omega) (by omega))⟩
            case measure => simp [intOf]; omega
          · have HL9:=hid (HL8.out.more (s':=1 + 13 * (i + 1)) (u':=2 + 31 * (i + 1)) (by omega) (by omega))
            clear HL8 HRw hlt3 hlt2
            by_cases hb3:b % 3 = 0
            · obtain rfl:ys = []:=Classical.byContradiction fun h9 => hgo ⟨hb3,h9⟩
              go_wp2
              go_roundw
              case rel => exact ⟨i + 1,lo,m7,F7,xs,jn,[],zs,by omega,by go_num,rfl,HL9⟩
              case measure => simp [intOf]; omega
            · go_wp2
              go_roundw
              case rel => exact ⟨i + 1,lo,m7,F7,xs,jn,ys,zs,by omega,by go_num,rfl,HL9⟩
              case measure => simp [intOf]; omega
  · obtain rfl:i = ts.length:=by omega
    go_wp2
    go_ret
    exact ⟨rfl,HL.out.upd⟩
end Go.Proofs.YtclfmpieapbfnaaGreatDoor.Eg
end
