/- Part 39: lemmas, no conditions. -/
import Derived.Test.YtclfmpieapbfnaaGreatDoorZ38
import Derived.Test.YtclfmpieapbfnaaGreatDoorZ27
import Derived.Test.YtclfmpieapbfnaaGreatDoorZ37
import Derived.Test.YtclfmpieapbfnaaGreatDoorZ30
import Derived.Test.YtclfmpieapbfnaaGreatDoorZ32
import Derived.Test.YtclfmpieapbfnaaGreatDoorZ25
set_option maxHeartbeats 4000000
namespace Go.Proofs.YtclfmpieapbfnaaGreatDoor
set_option linter.unusedVariables false
set_option linter.unusedSimpArgs false
section
namespace Ou
open Go.RowKit B Cm Cw Cr Lt Lc Nd
theorem out_at {w:World} {A:Option Addr} {ps:List Ov} (h:Rd w 5 A ps.length (ocells ps)) {i:Nat} (hi:i < ps.length) :
 ∃ ad,A = some ad ∧ w.cell? (ad.add (i * 5)) = some (.string ps[i].1.1) ∧ w.cell? ⟨(ad.add (i * 5)).block,(ad.add (i * 5)).off + 1,none⟩ = some (.string ps[i].1.2.1) ∧ w.cell? ⟨(ad.add (i * 5)).block,(ad.add (i * 5)).off + 2,none⟩ = some (.int .u64 ps[i].1.2.2.1) ∧
  w.cell? ⟨(ad.add (i * 5)).block,(ad.add (i * 5)).off + 3,none⟩ = some (.int .i64 ps[i].1.2.2.2.1) ∧ w.cell? ⟨(ad.add (i * 5)).block,(ad.add (i * 5)).off + 4,none⟩ = some ps[i].2:=by
 obtain ⟨ad,rfl,hcell⟩:=Op.row_at (f:=ocs) (k:=5) h (fun _ _ => rfl) rfl (i:=i) (by omega)
 have c0:=hcell 0 (by omega)
 have c1:=hcell 1 (by omega)
 have c2:=hcell 2 (by omega)
 have c3:=hcell 3 (by omega)
 have c4:=hcell 4 (by omega)
 rw [B.add_field _ _ _ (by omega)] at c1 c2 c3 c4
 exact ⟨ad,rfl,c0,c1,c2,c3,c4⟩
def Be (W:World) (F:Nat → Prop) (e size:Nat) (v:Value) (n:Nat) (xs:List Value):Prop:=W.ownsRow 0 e size v n xs ∧ ∀ k,v.ownBlock = some k → ¬ F k
theorem Be.moved {W W':World} {F F':Nat → Prop} {e size n:Nat} {v:Value} {xs:List Value} (h:Be W F e size v n xs) (hm:Mv F F' W W'):Be W' F' e size v n xs:=
 ⟨own_upd h.1 hm.upd h.2,fun k hk hf => (hm.sub k hf).elim (h.2 k hk) fun hs => by have:=(h.1.lt k hk).2; omega⟩
theorem wr64 (n:Nat) (h:n ≤ 9223372036854775807):IntKind.u64.wrap (n:Int) = (n:Int):=by
 rw [IntKind.wrap_u64]
 omega
theorem serb_take (s:List (ByteArray × Int)) {j:Nat} (hj:j < s.length):serb (s.take (j + 1)) = serb (s.take j) ++ txt s[j].1 ++ num s[j].2:=by
 unfold serb
 rw [List.take_succ_eq_append_getElem hj,List.flatMap_append]
 simp
theorem outb_take (l:List Oe) {j:Nat} (hj:j < l.length):outb (l.take (j + 1)) = outb (l.take j) ++ txt l[j].1 ++ txl (lb l[j].2):=by
 unfold outb
 rw [List.take_succ_eq_append_getElem hj,List.flatMap_append]
 simp
set_option maxRecDepth 100000 in
theorem encode {w:World} {F:Nat → Prop} {p n:Nat} {m:Om} {B:Int} (h:Ot w F p m n) (hok:m.ok B) (hB:B ≤ 18446744073709551615) (hn:n ≤ 1000000) :
 Calls Tryz.prog 129 #[.pointer (some ⟨p,0,none⟩)] w fun e w' => EnOut w (encO m) e w':=by
 have HN:=hid (none_ h hok.key)
 obtain ⟨v,b,h⟩:=h
 obtain ⟨A,c,rfl,hc1,hc2⟩:=h.row.len
 simp only [maxLen] at hc2
 have HX:Hid (∀ W,Upd No w W → Ox W F p m n (.slice A m.lst.length c) b):=hid fun W hu => h.upd hu fun _ _ => no_ _
 have HLen:Hid (∀ W,Upd No w W → (Builtin.len_ #[271] 3 #[.map (some b)]).run Tryz.prog W = .ok (.int .i64 m.ser.length) W):=hid fun W hu => by
  have hm:=(HX.out W hu).map
  obtain ⟨D,h1,h2⟩:=id hm
  have hl:=map_len Tryz.underlying9 hm hok.srt (fun e he => by have:=(hok.serk e he).1.2; simp only [maxLen]; omega) h1 h2
  have:=h1.len Tryz.underlying271 3
  rw [hl] at this
  exact this
 have HLk:Hid (∀ W,Upd No w W → ∀ j (hj:j < m.ser.length),(Instr.lookup 271 (.map (some b)) (.string m.ser[j].1) false).run Tryz.prog W = .ok (.int .u64 m.ser[j].2) W):=hid fun W hu j hj => by
  have:=(HX.out W hu).map.look (t:=271) (e:=23) Tryz.underlying9 Tryz.underlying271 (z:=.int .u64 0) (by kernel_rfl) (s:=m.ser[j].1) (by
   have:=(hok.serk _ (List.getElem_mem hj)).1.2
   unfold Ms.Ks
   simp only [maxLen]
   omega)
  rw [show sm m.ser m.ser[j].1 = some (.int .u64 m.ser[j].2) by
   unfold sm
   rw [at_of_mem (k:=m.ser[j].1) (n:=m.ser[j].2) (srt_nd hok.srt) (List.getElem_mem hj)]
   rfl] at this
  exact this
 have HSo:Hid (∀ W,Upd No w W → Calls Tryz.prog 169 #[.func (.func 251) #[] #[.pointer (some ⟨W.heap.size,0,none⟩)]] (W.alloc (.cells #[.map (some b)] 271)) fun e w' => Tj.SoOut (W.alloc (.cells #[.map (some b)] 271)) (m.ser.map (·.1)) e w'):=hid fun W hu =>
  Tj.sortedU (HX.out W hu).map hn (List.pairwise_map.2 hok.srt) (fun k hk => by
   unfold sm
   rw [Option.isSome_map,List.mem_map]
   constructor
   · rintro ⟨e,he,rfl⟩
     rw [at_of_mem (srt_nd hok.srt) he]
     rfl
   · intro h
     obtain ⟨v,hv⟩:=Option.isSome_iff_exists.1 h
     exact ⟨_,at_mem hv,rfl⟩) fun k hk => by
   obtain ⟨e,he,rfl⟩:=List.mem_map.1 hk
   have:=(hok.serk e he).1.2
   unfold Ms.Ks
   simp only [maxLen]
   omega
 obtain ⟨ps,hps,hsl,hin,_⟩:=h.row
 have hpl:m.lst.length = ps.length:=by rw [← hps]; simp
 rw [hpl] at hsl
 have HRow:Hid ((∀ W,Upd No w W → Rd W 5 A ps.length (ocells ps)) ∧ (∀ x ∈ ps,In w x.1.2 x.2) ∧ m.lst = ps.map (·.1) ∧ m.lst.length = ps.length):=hid ⟨fun W hu => Rd.upd (Sl.rd hsl) (by omega) hu fun _ _ => no_ _,fun x hx => (hin x hx).1,hps.symm,hpl⟩
 have HE:Hid (encO m = txt m.own ++ num m.ser.length ++ serb m.ser ++ num m.lst.length ++ outb m.lst):=hid (by simp [encO])
 have HSz:Hid ((∀ j,(serb (m.ser.take j)).length ≤ 3712) ∧ (∀ j,(outb (m.lst.take j)).length ≤ 5440) ∧ (txt m.own).length ≤ 49 ∧ (encO m).length ≤ 9300):=hid ⟨fun j => by
  have h1:=serb_le (m.ser.take j) fun e he => (hok.serk e (List.mem_of_mem_take he)).1
  rw [List.length_take] at h1
  have:=hok.many
  omega,fun j => by
  have h1:=outb_le (m.lst.take j) fun x hx => ⟨(hok.each x (List.mem_of_mem_take hx)).1,(hok.each x (List.mem_of_mem_take hx)).2.1⟩
  rw [List.length_take] at h1
  have:=hok.few
  omega,by
  have:=txt_le m.own
  have:=hok.key.2
  omega,encO_le hok⟩
 have HOk:=hid hok
 have hm64:=hok.many
 have hl32:=hok.few
 have hw1:=wr64 m.ser.length (by omega)
 have hw2:=wr64 m.lst.length (by omega)
 have hos:=hok.key.2
 clear h hok hps hsl hin hpl
 go_enter Tryz.func129,Tryz.ntmps129
 go_wp2_with (fail)
 refine HN.out.mono ?_
 rintro e w0 ⟨rfl,rfl⟩
 go_wp2_with (fail)
 refine Calls.mono (newWriter w) ?_
 rintro e w1 ⟨rfl,rfl⟩
 have HW:Hid (∃ w1 q F1,w1 = w.alloc (.cells #[.slice none 0 0] 276) ∧ q = w.heap.size ∧ Wo w w1 F1 q []):=hid ⟨_,_,_,rfl,rfl,⟨Wr.new w,fun k hk => by omega,(Upd.refl _ _).alloc _⟩⟩
 obtain ⟨w1,q,F1,hw1',hq,hO1⟩:=HW.out
 rw [← hw1',← hq]
 have HO1:=hid hO1
 clear hw1' hq hO1 HW
 obtain ⟨c0,c1,c2⟩:=(HX.out w1 HO1.out.upd).cells
 go_wp2_with (fail)
 refine Calls.mono (text_ q [] m.own F1 w1 HO1.out.wr (by simp; omega)) ?_
 rintro e w2 ⟨rfl,F2,hw2',hm2⟩
 have HO2:Hid (Wo w w2 F2 q (txt m.own)):=hid (by
  have:=HO1.out.moved hw2' hm2
  simpa [txt] using this)
 clear hw2' hm2 HO1 c0 c1 c2
 obtain ⟨c0,c1,c2⟩:=(HX.out w2 HO2.out.upd).cells
 have hlen:=HLen.out w2 HO2.out.upd
 go_wp2_with (fail)
 try rw [hw1]
 refine Calls.mono (number q (txt m.own) m.ser.length F2 w2 HO2.out.wr (by omega) (by omega) (by have:=HSz.out.2.2.1; omega)) ?_
 rintro e w3 ⟨rfl,F3,hw3,hm3⟩
 have HO3:=hid (HO2.out.moved hw3 hm3)
 clear hw3 hm3 HO2 c0 c1 c2 hlen
 obtain ⟨c0,c1,c2⟩:=(HX.out w3 HO3.out.upd).cells
 go_wp2_with (fail)
 refine Calls.mono (Tj.keysU b w3) ?_
 rintro e w4 ⟨rfl,rfl⟩
 go_wp2_with (fail)
 refine Calls.mono (HSo.out w3 HO3.out.upd) ?_
 rintro e w5 ⟨A5,c5,rfl,ho5,hu5⟩
 have hkl:(m.ser.map (·.1)).length = m.ser.length:=by simp
 have HO5:Hid (Wo w w5 F3 q (txt m.own ++ num m.ser.length)):=hid ((HO3.out.quiet ((Upd.refl No w3).alloc _)).quiet hu5)
 have HK5:Hid (Be w5 F3 9 1 (.slice A5 m.ser.length c5) m.ser.length ((m.ser.map (·.1)).map .string)):=hid ⟨by rw [hkl] at ho5; exact own_base ho5 (Nat.zero_le _),fun k hk hf => by
  have h1:=(ho5.lt k (by rw [hkl]; exact hk)).1
  have h2:=HO3.out.wr.lt k hf
  simp at h1
  omega⟩
 rw [hkl]
 clear hkl ho5 hu5 HO3 c0 c1 c2 HSo
 go_wp2_with (fail)
 go_loopw [34] (fun v34 W => ∃ (j:Nat) (F':Nat → Prop) (cs:List Int),j ≤ m.ser.length ∧ v34 = .int .i64 j ∧ Hid (cs = txt m.own ++ num m.ser.length ++ serb (m.ser.take j)) ∧ Hid (Wo w W F' q cs) ∧ Hid (Be W F' 9 1 (.slice A5 m.ser.length c5) m.ser.length ((m.ser.map (·.1)).map .string))) (fun v34 _ => m.ser.length - (intOf v34).toNat)
 case atStart => exact ⟨0,F3,_,by omega,rfl,hid (by simp [serb]),HO5,HK5⟩
 case round =>
  clear HO5 HK5
  obtain ⟨j,F',cs,hj,rfl,HCs,HO,HK⟩:=hrel
  have hb1:cs.length ≤ 9000:=by
   have h1:=HSz.out.1 j
   have h2:=HSz.out.2.2.1
   have h3:=(num_length (m.ser.length:Int)).2
   rw [HCs.out]
   simp only [List.length_append]
   omega
  by_cases hlt:j < m.ser.length
  · obtain ⟨ad,u,hA5,hu,hcell⟩:=Rd.at_ (Rd.of_own HK.out.1) hlt
    subst hA5
    have hu':u = .string m.ser[j].1:=by
     rw [List.getElem?_map,List.getElem?_map,List.getElem?_eq_getElem hlt] at hu
     simpa using hu.symm
    subst hu'
    have HLj:=hid fun W hu => HLk.out W hu j hlt
    have hsk:=HOk.out.serk _ (List.getElem_mem hlt)
    have HT:=hid (serb_take m.ser hlt)
    generalize m.ser[j] = x at *
    obtain ⟨xk,xn⟩:=x
    simp only at hcell HLj hsk HT
    have hxs:=hsk.1.2
    have hx1:=hsk.2.1
    have hx2:=hsk.2.2
    have hj1:(0:Int) ≤ (j:Int):=by omega
    have hj2:(j:Int) < (m.ser.length:Int):=by omega
    go_wp2_with (fail)
    refine Calls.mono (text_ q cs xk F' wr HO.out.wr (by omega)) ?_
    rintro e w6 ⟨rfl,F6,hw6,hm6⟩
    have HO6:=hid (HO.out.moved hw6 hm6)
    have HK6:=hid (HK.out.moved hm6)
    have hlk:=HLj.out w6 HO6.out.upd
    obtain ⟨c0,c1,c2⟩:=(HX.out w6 HO6.out.upd).cells
    obtain ⟨c6,hc6⟩:∃ c6,c6 = cs ++ num xk.size ++ sb xk:=⟨_,rfl⟩
    have hl6:c6.length ≤ 9100:=by
     rw [hc6]
     have h1:=(num_length (xk.size:Int)).2
     have h2:=sb_length xk
     simp only [List.length_append]
     omega
    rw [← hc6] at HO6
    have HC6:=hid hc6
    clear hw6 hm6 HO HK hcell hc6
    go_wp2_with (fail)
    refine Calls.mono (number q c6 xn F6 w6 HO6.out.wr (by omega) (by omega) (by omega)) ?_
    rintro e w7 ⟨rfl,F7,hw7,hm7⟩
    have HO7:=hid (HO6.out.moved hw7 hm7)
    have HK7:=hid (HK6.out.moved hm7)
    have HD:=hid (show c6 ++ num xn = txt m.own ++ num m.ser.length ++ serb (m.ser.take (j + 1)) by
     rw [HC6.out,HCs.out,HT.out]
     simp [txt])
    generalize c6 ++ num xn = c7 at *
    clear hw7 hm7 HO6 HK6 hlk c0 c1 c2
    go_wp2
    go_roundw
    case rel => exact ⟨j + 1,F7,c7,by omega,by go_num,HD,HO7,HK7⟩
    case measure => simp [intOf]; omega
  · obtain rfl:j = m.ser.length:=by omega
    rw [List.take_length] at HCs
    clear HK HLk
    obtain ⟨c0,c1,c2⟩:=(HX.out wr HO.out.upd).cells
    go_wp2_with (fail)
    try rw [hw2]
    refine Calls.mono (number q cs m.lst.length F' wr HO.out.wr (by omega) (by omega) (by omega)) ?_
    rintro e w8 ⟨rfl,F8,hw8,hm8⟩
    have HO8:=hid (HO.out.moved hw8 hm8)
    clear hw8 hm8 HO c0 c1 c2
    obtain ⟨c0,c1,c2⟩:=(HX.out w8 HO8.out.upd).cells
    have HCs2:=hid (show cs ++ num m.lst.length = txt m.own ++ num m.ser.length ++ serb m.ser ++ num m.lst.length by rw [HCs.out])
    generalize cs ++ num m.lst.length = cb at *
    obtain ⟨wo,rfl⟩:∃ wo:World,wo = wr:=⟨_,rfl⟩
    clear hb1 HCs
    go_wp2_with (fail)
    clear c0 c1 c2
    go_loopw [63] (fun v63 W => ∃ (j:Nat) (F':Nat → Prop) (cs:List Int),j ≤ m.lst.length ∧ v63 = .int .i64 j ∧ Hid (cs = cb ++ outb (m.lst.take j)) ∧ Hid (Wo w W F' q cs)) (fun v63 _ => m.lst.length - (intOf v63).toNat)
    case atStart => exact ⟨0,F8,_,by omega,rfl,hid (by simp [outb]),HO8⟩
    case round =>
     clear HO8
     obtain ⟨j,F',cs,hj,rfl,HCs,HO⟩:=hrel
     have hb1:cs.length ≤ 9320:=by
      have h1:=HSz.out.2.1 j
      have h2:=HSz.out.2.2.1
      have h3:=(num_length (m.ser.length:Int)).2
      have h4:=(num_length (m.lst.length:Int)).2
      have h5:=HSz.out.1 m.ser.length
      rw [List.take_length] at h5
      rw [HCs.out,HCs2.out]
      simp only [List.length_append]
      omega
     by_cases hlt:j < m.lst.length
     · have hjp:j < ps.length:=by have:=HRow.out.2.2.2; omega
       obtain ⟨ad,rfl,x0,x1,x2,x3,x4⟩:=out_at (HRow.out.1 wr HO.out.upd) hjp
       have HIn0:=HRow.out.2.1 _ (List.getElem_mem hjp)
       have hej:m.lst[j] = ps[j].1:=by simp [HRow.out.2.2.1]
       have hea:=HOk.out.each _ (List.getElem_mem hlt)
       have HT:=hid (outb_take m.lst hlt)
       rw [hej] at hea HT
       clear hej
       generalize ps[j] = y at *
       obtain ⟨⟨to,x⟩,u⟩:=y
       obtain ⟨Au,cu,hue,hqr⟩:=HIn0
       simp only at hue x0 x1 x2 x3 x4 hea HT
       subst hue
       have hIn:In w x (.slice Au x.2.2.2.length cu):=⟨Au,cu,rfl,hqr⟩
       have HIn:=hid fun W (hu:Upd No w W) => hIn.upd hu fun _ _ => no_ _
       have hj1:(0:Int) ≤ (j:Int):=by omega
       have hj2:(j:Int) < (m.lst.length:Int):=by omega
       have hts:=hea.1.2
       have HEa:=hid hea
       clear hqr hIn hea
       have HBx:Hid (∃ W5 p5,W5 = wr.alloc (.cells #[.string to,.string x.1,.int .u64 x.2.1,.int .i64 x.2.2.1,.slice Au x.2.2.2.length cu] 150) ∧ p5 = wr.heap.size ∧ Blk W5 p5 150 #[.string to,.string x.1,.int .u64 x.2.1,.int .i64 x.2.2.1,.slice Au x.2.2.2.length cu] ∧ Wo w W5 F' q cs ∧ ¬ F' p5):=hid ⟨_,_,rfl,rfl,Blk.fresh _ _ _,HO.out.box _,fun hf => by have:=HO.out.wr.lt _ hf; omega⟩
       obtain ⟨W5,p5,hW5,hp5,hB5,hO5,hn5⟩:=HBx.out
       have HN1:=hid (text_ q cs to F' W5 hO5.wr (by omega))
       have HX5:=hid (And.intro hB5 (And.intro hO5 hn5))
       clear hB5 hO5 hn5 HBx
       go_wp2_with (fail)
       rw [← hW5]
       try rw [← hp5]
       clear hW5 hp5 x0 x1 x2 x3 x4 HO
       refine Calls.mono HN1.out ?_
       rintro e w6 ⟨rfl,F6,hw6,hm6⟩
       have HB6:=hid (box_moved ⟨HX5.out.1,HX5.out.2.2⟩ hm6)
       have HO6:=hid (HX5.out.2.1.moved hw6 hm6)
       obtain ⟨y0,y1,y2,y3,y4⟩:=box5 HB6.out.1
       obtain ⟨c6,hc6⟩:∃ c6,c6 = cs ++ num to.size ++ sb to:=⟨_,rfl⟩
       have hl6:c6.length ≤ 9400:=by
        rw [hc6]
        have h1:=(num_length (to.size:Int)).2
        have h2:=sb_length to
        simp only [List.length_append]
        omega
       rw [← hc6] at HO6
       have HC6:=hid hc6
       have HEn:=hid (encode_ x (.slice Au x.2.2.2.length cu) w6 (HIn.out w6 HO6.out.upd) HEa.out.2.1 HEa.out.2.2.1)
       unfold Lt.val at HEn
       clear hw6 hm6 HN1 hc6 HX5
       go_wp2_with (fail)
       refine Calls.mono HEn.out ?_
       rintro e w7 ⟨v7,rfl,ho7,hb7⟩
       obtain ⟨A7,c7,rfl,hc71,hc72⟩:=own_shape ho7
       have hu7:Upd No w6 w7:=Upd.of_below No hb7
       have HO7:=hid (HO6.out.quiet hu7)
       have hcv:=conv_str (P:=Tryz.prog) (l:=lb x) (Rd.of_own ho7) 22 9 5 c7 Tryz.underlying22 Tryz.underlying5 Tryz.underlying9
       have hlb:=lb_small HEa.out.2.1
       have hst:(strOfNums (lb x)).size = (lb x).length:=strOfNums_size _
       have hsb:sb (strOfNums (lb x)) = lb x:=Nd.sb_strOf _ (Ou.lb_byte x HEa.out.2.2.1)
       have HSb:=hid (And.intro hst hsb)
       obtain ⟨st,hst2⟩:∃ st,st = strOfNums (lb x):=⟨_,rfl⟩
       rw [← hst2] at hcv HSb hst
       clear ho7 hb7 hc71 hc72 hu7 HO6 HEn HB6 y0 y1 y2 y3 y4 hsb hst2
       go_wp2_with (fail)
       refine Calls.mono (text_ q c6 st F6 w7 HO7.out.wr (by omega)) ?_
       rintro e w8 ⟨rfl,F8',hw8,hm8⟩
       have HO8':=hid (HO7.out.moved hw8 hm8)
       have HD:=hid (show c6 ++ num st.size ++ sb st = cb ++ outb (m.lst.take (j + 1)) by
        rw [HC6.out,HCs.out,HT.out,HSb.out.1,HSb.out.2]
        simp [txt,txl])
       generalize c6 ++ num st.size ++ sb st = c8 at *
       clear hw8 hm8 HO7 hcv hlb hst
       go_wp2
       go_roundw
       case rel => exact ⟨j + 1,F8',c8,by omega,by go_num,HD,HO8'⟩
       case measure => simp [intOf]; omega
     · obtain rfl:j = m.lst.length:=by omega
       rw [List.take_length] at HCs
       have e:cs = encO m:=by rw [HCs.out,HCs2.out,HE.out]
       subst e
       have HBy:=hid (bytes_ q (encO m) F' wr HO.out.wr (by omega))
       clear HCs
       go_wp2_with (fail)
       refine Calls.mono HBy.out ?_
       rintro e w10 ⟨v,rfl,ho10,hb10⟩
       obtain ⟨A10,c10,rfl,hc10,hcm⟩:=own_shape ho10
       have HE2:Hid ((encO m).length ≤ c10 ∧ c10 ≤ 9223372036854775807 ∧ Rn w10 .u8 A10 (encO m) ∧ Upd No w w10 ∧ ∀ ad,A10 = some ad → w.heap.size ≤ ad.block):=hid ⟨hc10,by simpa [maxLen] using hcm,Rd.of_own ho10,HO.out.upd.next (Upd.of_below No hb10),fun ad e => by have h1:=(ho10.lt ad.block (by simp [Value.ownBlock,e])).1; have h2:=HO.out.upd.size; omega⟩
       clear ho10 hb10 hc10 hcm HBy
       go_wp2
       go_ret
       exact .of ⟨A10,c10,rfl,HE2.out⟩
end Ou
end
section
namespace Ou
open Go.RowKit B Cm Cw Cr Lt Lc Nd
theorem conv_bytes2 {P:Program} (w:World) (src dst e:TypeId) (l:List Int) (hl:∀ c ∈ l,0 ≤ c ∧ c ≤ 255) (hn:l.length ≤ 1000000) {u:TypeDesc} (hs:P.underlying src = some u) (hd:P.underlying dst = some (.slice e)) (he:P.underlying e = some (.int .u8)) :
 ∃ w1 c,(convert src dst (.string (strOfNums l))).run P w = .ok (.slice (some ⟨w.heap.size,0,none⟩) l.length c) w1 ∧ Rn w1 .u8 (some ⟨w.heap.size,0,none⟩) l ∧ Upd No w w1 ∧ l.length ≤ c ∧ c ≤ 9223372036854775807:=by
 obtain ⟨w1,c,h1,h2,h3⟩:=conv_bytes (P:=P) w src dst e l hl hs hd he
 have h4:=Go.Lib.run_convert_string_bytes (P:=P) w src dst e (strOfNums l) hs hd he
 have hsz:=strOfNums_size l
 have hg:=grownCap_ge w (strOfNums l).size 0 e
 have hm:=grownCap_le_maxLen w (strOfNums l).size 0 e (by simp only [maxLen]; omega)
 simp only [maxLen] at hm
 rw [h1] at h4
 injection h4 with h5 h6
 injection h5 with _ _ h7
 exact ⟨w1,c,h1,h2,h3,by omega,by omega⟩
theorem at_app (s t:List (ByteArray × Int)) (k:ByteArray):at_ (s ++ t) k = (at_ s k).or (at_ t k):=by
 unfold at_
 rw [List.find?_append]
 cases s.find? fun e => decide (e.1 = k) <;> rfl
theorem sm_take {s:List (ByteArray × Int)} (h:s.Pairwise fun a b => a.1 ≠ b.1) {j:Nat} (hj:j < s.length):Ms.put (sm (s.take j)) s[j].1 (some (.int .u64 s[j].2)) = sm (s.take (j + 1)):=by
 have hn:at_ (s.take j) s[j].1 = none:=by
  rw [at_none]
  intro e he
  obtain ⟨i,hi,rfl⟩:=List.getElem_of_mem he
  rw [List.length_take] at hi
  rw [List.getElem_take]
  exact List.pairwise_iff_getElem.1 h i j (by omega) hj (by omega)
 funext k
 unfold Ms.put sm
 rw [List.take_succ_eq_append_getElem hj,at_app]
 by_cases hk:k = s[j].1
 · subst hk
   rw [if_pos rfl,hn]
   simp [at_]
 · rw [if_neg hk]
   have:at_ [s[j]] k = none:=at_none.2 fun e he => by
    obtain rfl:=List.mem_singleton.1 he
    exact Ne.symm hk
   rw [this,Option.or_none]
theorem ord_drop {s:List (ByteArray × Int)}:∀ {l:List Oe} (j:Nat),Ord s l → Ord s (l.drop j)
 | l,0,h => by simpa using h
 | [],_ + 1,h => by simpa using h
 | x :: r,j + 1,h => by
  rw [List.drop_succ_cons]
  exact ord_drop j h.2.2
theorem ord_at {s:List (ByteArray × Int)} {l:List Oe} (h:Ord s l) {j:Nat} (hj:j < l.length):(wt (l.drop j) l[j].1:Int) ≤ num0 s l[j].1 ∧ l[j].2.2.1 = num0 s l[j].1 - wt (l.drop j) l[j].1 + 1:=by
 have:=ord_drop j h
 rw [List.drop_eq_getElem_cons hj] at this ⊢
 exact ⟨this.1,this.2.1⟩
theorem wt_le (l:List Oe) (k:ByteArray):wt l k ≤ l.length:=List.countP_le_length
theorem wt_take (l:List Oe) {j:Nat} (hj:j < l.length) (k:ByteArray):wt (l.take (j + 1)) k = wt (l.take j) k + if l[j].1 = k then 1 else 0:=by
 rw [List.take_succ_eq_append_getElem hj,wt_app]
theorem wt_drop (l:List Oe) {j:Nat} (hj:j < l.length) (k:ByteArray):wt (l.drop j) k = wt (l.drop (j + 1)) k + if l[j].1 = k then 1 else 0:=by
 rw [List.drop_eq_getElem_cons hj,wt_cons]
def Cn (w:World) (b n:Nat) (f:ByteArray → Nat):Prop:=∃ m,Ms.Ms Tryz.prog w 9 b n m ∧ ∀ k,Ms.Ks k → (m k).getD (.int .u64 0) = .int .u64 (f k)
section
variable {w w':World} {b n:Nat} {f:ByteArray → Nat}
theorem Cn.upd {G:Nat → Prop} (h:Cn w b n f) (hu:Upd G w w') (hn:¬ G b):Cn w' b n f:=by
 obtain ⟨m,h1,h2⟩:=h
 exact ⟨m,h1.upd hu hn,h2⟩
theorem Cn.lt (h:Cn w b n f):b < w.heap.size:=by
 obtain ⟨m,h1,h2⟩:=h
 exact h1.lt
theorem Cn.made (w:World):Cn (w.alloc (.map #[] 0)) w.heap.size 0 fun _ => 0:=⟨_,Ms.Ms.made _ _ _,fun k _ => rfl⟩
theorem Cn.look (h:Cn w b n f) {k:ByteArray} (hk:Ms.Ks k):(Instr.lookup 271 (.map (some b)) (.string k) false).run Tryz.prog w = .ok (.int .u64 (f k)) w:=by
 obtain ⟨m,h1,h2⟩:=h
 have:=h1.look (t:=271) (e:=23) Tryz.underlying9 Tryz.underlying271 (z:=.int .u64 0) (by kernel_rfl) hk
 rw [h2 k hk] at this
 exact this
theorem Cn.ne {g:Nat} {t:TypeId} {cs:Array Value} (h:Cn w b n f) (hb:Blk w g t cs):g ≠ b:=by
 obtain ⟨m,h1,h2⟩:=h
 exact map_ne h1 hb
end
theorem ap_count {w:World} {ops:Array Oper} {o:Oper} {rest:List Oper} {a:Act} {Q:Exit → Act → World → Prop} {f g:ByteArray → Nat} (hgd:o.guard = none) (mo x v:Operand) (ho:o.op = Op.mapUpdate 271 mo x v) (b n:Nat) (k:ByteArray) (z:Int)
 (hm:a.eval mo = .map (some b)) (hx:a.eval x = .string k) (hv:a.eval v = .int .u64 z) (h:Cn w b n f) (hn:n < maxLen) (hk:Ms.Ks k) (hz:z = g k) (hg:∀ k',k' ≠ k → g k' = f k')
 (hK:∀ w',Cn w' b (n + 1) g → Upd (fun i => i = b) w w' → wpList Tryz.prog ops Q rest (a.put o.dst undef) w'):wpList Tryz.prog ops Q (o :: rest) a w:=by
 obtain ⟨m,h1,h2⟩:=h
 refine Ms.ap_store hgd mo x v 271 9 23 ho Tryz.underlying9 Tryz.underlying271 b n m k (.int .u64 z) hm hx hv h1 hn hk fun w' h3 h4 => hK w' ⟨_,h3,fun k' hk' => ?_⟩ h4
 unfold Ms.put
 by_cases hkk:k' = k
 · subst hkk
   rw [if_pos rfl,hz]
   rfl
 · rw [if_neg hkk,hg k' hkk]
   exact h2 k' hk'
structure De (w W:World) (R:Nat → Prop) (rp:Nat) (F:Nat → Prop) (p:Nat) (m:Om) (n:Nat) (rest:List Int):Prop where
 rr:∃ A c,Rr 223 W R rp A c rest false
 ot:Ot W F p m n
 rf:∀ k,R k → ¬ F k
 ro:w.heap.size ≤ rp
 fo:∀ k,F k → w.heap.size ≤ k
 upd:Upd No w W
section
variable {w W W':World} {R F F':Nat → Prop} {rp p n n':Nat} {m m':Om} {rest rest':List Int}
theorem De.read (h:De w W R rp F p m n rest) {A:Option Addr} {c:Nat} (hr:Rr 223 W' R rp A c rest' false) (hu:Upd (fun k => k = rp) W W'):De w W' R rp F p m n rest':=
 ⟨⟨A,c,hr⟩,h.ot.upd hu fun k hk e => h.rf rp hr.here (e ▸ hk),h.rf,h.ro,h.fo,h.upd.trans hu fun i hi e => by have:=h.ro; omega⟩
theorem De.added (h:De w W R rp F p m n rest) (hw:Ot W' F' p m' n') (hm:Mv F F' W W'):De w W' R rp F' p m' n' rest:=by
 obtain ⟨A,c,hr⟩:=h.rr
 refine ⟨⟨A,c,hr.keep hm.upd h.rf⟩,hw,fun k hk hf => (hm.sub k hf).elim (h.rf k hk) fun hs => ?_,h.ro,fun k hk => (hm.sub k hk).elim (h.fo k) fun hs => Nat.le_trans h.upd.size hs,h.upd.trans hm.upd fun i hi hf => ?_⟩
 · have:=hr.lt k hk
   omega
 · have:=h.fo i hf
   omega
theorem De.added2 (h:De w W R rp F p m n rest) (hw:Ot W' F' p m' n') (hu:Upd F W W') (hs:∀ k,F' k → F k ∨ (¬ R k ∧ w.heap.size ≤ k)):De w W' R rp F' p m' n' rest:=by
 obtain ⟨A,c,hr⟩:=h.rr
 exact ⟨⟨A,c,hr.keep hu h.rf⟩,hw,fun k hk hf => (hs k hf).elim (h.rf k hk) fun hn => hn.1 hk,h.ro,fun k hk => (hs k hk).elim (h.fo k) fun hn => hn.2,h.upd.trans hu fun i hi hf => by have:=h.fo i hf; omega⟩
theorem De.quiet (h:De w W R rp F p m n rest) (hu:Upd No W W'):De w W' R rp F p m n rest:=by
 obtain ⟨A,c,hr⟩:=h.rr
 exact ⟨⟨A,c,hr.keep hu fun _ _ => no_ _⟩,h.ot.quiet hu,h.rf,h.ro,h.fo,h.upd.next hu⟩
theorem De.other {g:Nat} (h:De w W R rp F p m n rest) (hu:Upd (fun k => k = g) W W') (hg:¬ R g ∧ ¬ F g ∧ w.heap.size ≤ g):De w W' R rp F p m n rest:=by
 obtain ⟨A,c,hr⟩:=h.rr
 exact ⟨⟨A,c,hr.keep hu fun k hk e => hg.1 (e ▸ hk)⟩,h.ot.upd hu fun k hk e => hg.2.1 (e ▸ hk),h.rf,h.ro,h.fo,h.upd.trans hu fun i hi e => by have:=hg.2.2; omega⟩
theorem Ox.stored {w w':World} {F:Nat → Prop} {p n b:Nat} {m:Om} {v:Value} {s:List (ByteArray × Int)} (h:Ox w F p m n v b) (hu:Upd (fun k => k = b) w w') (hm:Ms.Ms Tryz.prog w' 9 b (n + 1) (sm s)):Ot w' F p { m with ser:=s } (n + 1) ∧ Mv F F w w':=by
 refine ⟨⟨v,b,h.blk.upd hu h.ne,h.row.far hu (fun k cs hB => map_ne h.map hB) (fun k cs hB => map_ne h.map hB),hm,h.fp,h.fb,fun k hk => Nat.lt_of_lt_of_le (h.lt k hk) hu.size⟩,hu.mono fun k _ e => e ▸ h.fb,fun k hk => .inl hk⟩
end
theorem RowO.push {w w2 w3:World} {F:Nat → Prop} {v:Value} {ps:List Ov} {x:Oe} {u:Value} {A3:Option Addr} {c3:Nat}
 (h2:Sl w 0 150 5 v ps.length (ocells ps)) (h3:∀ x ∈ ps,In w x.1.2 x.2 ∧ ∀ k,x.2.ownBlock = some k → F k ∧ ∃ cs,Blk w k 2 cs) (h4:∀ k,v.ownBlock = some k → F k)
 (hv:In w2 x.2 u) (hvl:∀ k,u.ownBlock = some k → ∃ cs,Blk w2 k 2 cs)
 (hu2:Upd No w w2) (ho:Sl w3 0 150 5 (.slice A3 (ps.length + 1) c3) (ps.length + 1) (ocells ps ++ ocs (x,u))) (hg:Upd (fun k => v.ownBlock = some k) w2 w3) :
 RowO w3 (fun k => F k ∨ u.ownBlock = some k ∨ (Value.slice A3 (ps.length + 1) c3).ownBlock = some k) (.slice A3 (ps.length + 1) c3) (ps.map (·.1) ++ [x]):=by
 have keep:∀ k cs,Blk w2 k 2 cs → Blk w3 k 2 cs:=fun k cs hB => hB.upd hg fun h => by
  obtain ⟨c2,hb⟩:=h2.blk h
  exact Blk.ne_type hB (hb.upd hu2 (no_ _)) (by decide) rfl
 have nev:∀ k cs,Blk w2 k 2 cs → v.ownBlock ≠ some k:=fun k cs hB h => by
  obtain ⟨c2,hb⟩:=h2.blk h
  exact Blk.ne_type hB (hb.upd hu2 (no_ _)) (by decide) rfl
 refine ⟨ps ++ [(x,u)],by simp,?_,?_,fun k hk => .inr (.inr hk)⟩
 · have e:ocells (ps ++ [(x,u)]) = ocells ps ++ ocs (x,u):=by simp [ocells]
   rw [List.length_append,e]
   exact ho
 · intro y hy
   rcases List.mem_append.1 hy with hy | hy
   · obtain ⟨g1,g2⟩:=h3 y hy
     exact ⟨(g1.upd hu2 (fun _ _ => no_ _)).upd hg fun g hg' h => (g2 g hg').2.elim fun cs hB => nev g cs (hB.upd hu2 (no_ _)) h,fun k hk => ⟨.inl (g2 k hk).1,(g2 k hk).2.elim fun cs hB => ⟨cs,keep k cs (hB.upd hu2 (no_ _))⟩⟩⟩
   · obtain rfl:y = (x,u):=List.mem_singleton.1 hy
     exact ⟨hv.upd hg fun g hg' h => (hvl g hg').elim fun cs hB => nev g cs hB h,fun k hk => ⟨.inr (.inl hk),(hvl k hk).elim fun cs hB => ⟨cs,keep k cs hB⟩⟩⟩
theorem Ox.pushed {w wa w4:World} {F:Nat → Prop} {p n b:Nat} {m:Om} {v:Value} {ps:List Ov} {x:Oe} {u:Value} {A4:Option Addr} {c4:Nat} (h:Ox w F p m n v b)
 (hps:ps.map (·.1) = m.lst) (hs:Sl w 0 150 5 v ps.length (ocells ps)) (hin:∀ x ∈ ps,In w x.1.2 x.2 ∧ ∀ k,x.2.ownBlock = some k → F k ∧ ∃ cs,Blk w k 2 cs) (hvF:∀ k,v.ownBlock = some k → F k)
 (hx3:In wa x.2 u) (hf3:∀ k,u.ownBlock = some k → ∃ cs,Blk wa k 2 cs) (hua:Upd No w wa)
 (ho4:Sl w4 0 150 5 (.slice A4 (ps.length + 1) c4) (ps.length + 1) (ocells ps ++ ocs (x,u))) (hg4:Upd (fun k => v.ownBlock = some k) wa w4) (hat4:∀ k,(Value.slice A4 (ps.length + 1) c4).ownBlock = some k → v.ownBlock = some k ∨ wa.heap.size ≤ k)
 {G:Nat → Prop} (hG:∀ k,u.ownBlock = some k → G k) :
 ∃ F',Ot (w4.setCell ⟨p,1,none⟩ (.slice A4 (ps.length + 1) c4)) F' p { m with lst:=m.lst ++ [x] } n ∧ (∀ k,F' k → F k ∨ G k ∨ w.heap.size ≤ k) ∧ Upd F w (w4.setCell ⟨p,1,none⟩ (.slice A4 (ps.length + 1) c4)):=by
 have hR:=RowO.push hs hin hvF hx3 hf3 hua ho4 hg4
 have hvp:∀ k,v.ownBlock = some k → ¬ k = p:=fun k hk e => by
  subst e
  exact hs.ne h.blk (by decide) hk
 have p4:=(h.blk.upd hua (no_ _)).upd hg4 (fun hh => hvp p hh rfl)
 have hup:Upd (fun k => k = p) w4 (w4.setCell ⟨p,1,none⟩ (.slice A4 (ps.length + 1) c4)):=(Upd.refl _ _).set1 1 _
 have hR2:=hR.far hup (fun k cs hB e => Blk.ne_type (e ▸ hB) p4 (by decide) rfl) (fun k cs hB e => Blk.ne_type (e ▸ hB) p4 (by decide) rfl)
 have hM4:=((h.map.upd hua (no_ _)).upd hg4 fun hh => by
  obtain ⟨cs,hB⟩:=hs.blk hh
  exact map_ne h.map hB rfl).upd hup (Ne.symm h.ne)
 have hsz3:=hua.size
 have hsz4:=hg4.size
 have hz:∀ k,k < w4.heap.size → k < (w4.setCell ⟨p,1,none⟩ (.slice A4 (ps.length + 1) c4)).heap.size:=fun k hk => by simpa [World.setCell] using hk
 refine ⟨fun k => F k ∨ u.ownBlock = some k ∨ (Value.slice A4 (ps.length + 1) c4).ownBlock = some k,⟨.slice A4 (ps.length + 1) c4,b,?_,by rw [← hps]; exact hR2,hM4,.inl h.fp,.inl h.fb,?_⟩,?_,?_⟩
 · have:=p4.put 1 (.slice A4 (ps.length + 1) c4)
   simpa using this
 · rintro k (hk | hk | hk)
   · have:=h.lt k hk; exact hz k (by omega)
   · obtain ⟨cs,hB⟩:=hf3 k hk
     have:=hB.lt
     exact hz k (by omega)
   · exact hz k (ho4.lt k hk).2
 · rintro k (hk | hk | hk)
   · exact .inl hk
   · exact .inr (.inl (hG k hk))
   · rcases hat4 k hk with hh | hh
     · exact .inl (hvF k hh)
     · exact .inr (.inr (by omega))
 · exact ((hua.mono fun _ _ h => h.elim).next (hg4.mono fun k _ hk => hvF k hk)).set (.inl h.fp) _
theorem ou_info:∃ z:Value,(Tryz.prog.info? 150).map (fun i => (i.zero,i.size,i.bytes)) = some (some z,5,72) ∧ z.cells.size = 5:=
 ⟨((Tryz.prog.info? 150).bind fun i => i.zero).getD (.bool false),by kernel_rfl,by kernel_rfl⟩
theorem ocs_one {w:World} {x:Oe} {u:Value} (h:In w x.2 u):∀ y ∈ ocs (x,u),y.oneCell' = true:=by
 intro y hy
 simp only [ocs,cells,List.mem_cons,List.not_mem_nil,or_false] at hy
 rcases hy with rfl | rfl | rfl | rfl | rfl
 · rfl
 · rfl
 · rfl
 · rfl
 · exact Ib.In.one h
end Ou
end
section
namespace Bo
open Go.RowKit B Cm Cw Cr Ou
def sn (xs:List Cg):ByteArray → Option Value:=fun k => if (xs.any fun x => decide (x.1 = k)) = true then some (.bool true) else none
theorem sn_take (xs:List Cg) {j:Nat} (hj:j < xs.length):Ms.put (sn (xs.take j)) xs[j].1 (some (.bool true)) = sn (xs.take (j + 1)):=by
 funext k
 unfold Ms.put sn
 rw [List.take_succ_eq_append_getElem hj,List.any_append]
 by_cases hk:k = xs[j].1
 · subst hk
   rw [if_pos rfl,if_pos (by simp)]
 · rw [if_neg hk]
   have:(List.any [xs[j]] fun x => decide (x.1 = k)) = false:=by simp [Ne.symm hk]
   rw [this,Bool.or_false]
theorem sn_no {xs:List Cg} (h:xs.Pairwise fun a b => a.1 ≠ b.1) {j:Nat} (hj:j < xs.length):sn (xs.take j) xs[j].1 = none:=by
 unfold sn
 rw [if_neg]
 rw [List.any_eq_true]
 rintro ⟨x,hx,he⟩
 obtain ⟨i,hi,rfl⟩:=List.getElem_of_mem hx
 rw [List.length_take] at hi
 rw [List.getElem_take] at he
 exact List.pairwise_iff_getElem.1 h i j (by omega) hj (by omega) (by simpa using he)
structure Gd (xs:List Cg):Prop where
 key:∀ x ∈ xs,1 ≤ x.1.size ∧ x.1.size ≤ 64
 nd:xs.Pairwise fun a b => a.1 ≠ b.1
 val:∀ x ∈ xs,x.2.1.length ≤ 20000
 few:xs.length ≤ 100
theorem b3 {W:World} {p:Nat} {t:TypeId} {a0 a1 a2:Value} (h:Blk W p t #[a0,a1,a2]):W.cell? ⟨p,0,none⟩ = some a0 ∧ W.cell? ⟨p,1,none⟩ = some a1 ∧ W.cell? ⟨p,2,none⟩ = some a2:=
 ⟨by simpa using h.cell 0,by simpa using h.cell 1,by simpa using h.cell 2⟩
theorem Cl.get {w:World} {G:Nat → Prop} {A:Option Addr} {n c:Nat} {xs:List Cg} (h:Cl w G (.slice A n c) xs) {j:Nat} (hj:j < xs.length):∃ ad,A = some ad ∧ w.cell? (ad.add (j * 3)) = some (.string xs[j].1) ∧
 w.cell? ⟨(ad.add (j * 3)).block,(ad.add (j * 3)).off + 1,none⟩ = some xs[j].2.2.2 ∧ w.cell? ⟨(ad.add (j * 3)).block,(ad.add (j * 3)).off + 2,none⟩ = some (.bool xs[j].2.2.1) ∧ Vb w G xs[j].2.2.2 xs[j].2.1:=by
 obtain ⟨A',c',ad,hv,hA,_,_,h0,h1,h2⟩:=h.at_ hj
 simp only [Value.slice.injEq] at hv
 obtain ⟨rfl,_,rfl⟩:=hv
 obtain ⟨_,_,_,_,_,_,_,h6⟩:=h
 exact ⟨ad,hA,h0,h1,h2,h6 _ (List.getElem_mem hj)⟩
set_option maxRecDepth 100000 in
theorem wrong_ {w:World} {G:Nat → Prop} {A:Option Addr} {c:Nat} {xs:List Cg} (h:Cl w G (.slice A xs.length c) xs) (hg:Gd xs) :
 Calls Tryz.prog 107 #[.slice A xs.length c] w fun e w' => e = .returned (.int .i64 0) ∧ Upd No w w':=by
 have hmk:=@run_makeMap Tryz.prog
 have HC:=hid h
 have HG:=hid hg
 have hx100:=hg.few
 have HM:Hid (∃ w1 bs,w1 = w.alloc (.map #[] 0) ∧ bs = w.heap.size ∧ Upd No w w1 ∧ Ms.Ms Tryz.prog w1 9 bs 0 (sn (xs.take 0))):=hid ⟨_,_,rfl,rfl,(Upd.refl _ _).alloc _,by
  rw [show sn (xs.take 0) = fun _ => none from funext fun k => by simp [sn]]
  exact Ms.Ms.made _ _ _⟩
 clear h hg
 go_enter Tryz.func107,Tryz.ntmps107
 go_wp2_with (fail)
 obtain ⟨w1,bs,hw1,hbs,hu1,hm1⟩:=HM.out
 rw [← hw1,← hbs]
 have HI:Hid (Upd No w w1 ∧ Ms.Ms Tryz.prog w1 9 bs 0 (sn (xs.take 0)) ∧ w.heap.size ≤ bs):=hid ⟨hu1,hm1,by omega⟩
 clear hw1 hbs hu1 hm1 HM
 go_loopw [4,10] (fun v4 v10 W => ∃ (j:Nat),j ≤ xs.length ∧ v10 = .int .i64 j ∧ v4 = .bool false ∧ Hid (Upd No w W ∧ Ms.Ms Tryz.prog W 9 bs j (sn (xs.take j)) ∧ w.heap.size ≤ bs)) (fun _ v10 _ => xs.length - (intOf v10).toNat)
 case atStart => exact ⟨0,by omega,rfl,rfl,HI⟩
 case round =>
  clear HI
  obtain ⟨j,hj,rfl,rfl,HI⟩:=hrel
  by_cases hlt:j < xs.length
  · obtain ⟨ad,rfl,x0,x1,x2,hvb⟩:=(HC.out.quiet HI.out.1).get hlt
    have hk:=HG.out.key _ (List.getElem_mem hlt)
    have hval:=HG.out.val _ (List.getElem_mem hlt)
    have hno:=sn_no HG.out.nd hlt
    have HPt:=hid (sn_take xs hlt)
    generalize xs[j] = y at *
    obtain ⟨k,l,gn,v⟩:=y
    simp only at x0 x1 x2 hvb hk hval hno HPt
    obtain ⟨Al,cl,rfl,hcl1,hcl2,_⟩:=hvb
    have hj1:(0:Int) ≤ (j:Int):=by omega
    have hj2:(j:Int) < (xs.length:Int):=by omega
    have hnz:=str_nz hk.1
    have hk64:¬ (64:Int) < (k.size:Int):=by omega
    have hl20:¬ (20000:Int) < (l.length:Int):=by omega
    have hks:Ms.Ks k:=by unfold Ms.Ks; simp only [maxLen]; omega
    have HW:Hid (∃ w6,w6 = wr.alloc (.cells #[.string k,.slice Al l.length cl,.bool gn] 128) ∧ Blk w6 wr.heap.size 128 #[.string k,.slice Al l.length cl,.bool gn] ∧ Upd No w w6 ∧ Ms.Ms Tryz.prog w6 9 bs j (sn (xs.take j))):=
     hid ⟨_,rfl,Blk.fresh _ _ _,HI.out.1.alloc _,HI.out.2.1.upd ((Upd.refl No wr).alloc _) (no_ _)⟩
    have hlk0:=(HI.out.2.1.upd ((Upd.refl No wr).alloc (.cells #[.string k,.slice Al l.length cl,.bool gn] 128)) (no_ _)).look (t:=180) (e:=4) Tryz.underlying9 Tryz.underlying180 (z:=.bool false) (by kernel_rfl) hks
    rw [hno] at hlk0
    simp only [Option.getD_none] at hlk0
    have HB:=hid HI.out.2.2
    go_wp2_with (at_mapUpdate; obtain ⟨w6,hw6,hb6,hu6,hm6⟩:=HW.out; rw [← hw6]; go_must (refine Ms.ap_store rfl (.tmp 29) (.tmp 31) (.const (.bool true)) 180 9 4 rfl Tryz.underlying9 Tryz.underlying180 bs j (sn (xs.take j)) k (.bool true) rfl rfl rfl hm6 (by simp only [maxLen]; omega) hks ?_); intro w9 hm9 hu9; have hb9:=hb6.upd hu9 (map_ne hm6 hb6); obtain ⟨q0,q1,q2⟩:=b3 hb9)
    have HI9:Hid (Upd No w w9 ∧ Ms.Ms Tryz.prog w9 9 bs (j + 1) (sn (xs.take (j + 1))) ∧ w.heap.size ≤ bs):=hid ⟨hu6.trans hu9 fun i hi e => by have:=HB.out; omega,by rw [← HPt.out]; exact hm9,HB.out⟩
    clear hw6 hb6 hu6 hm6 hm9 hu9 hb9 q0 q1 q2 hlk0 HW HI
    go_roundw
    case rel => exact ⟨j + 1,by omega,by go_num,rfl,HI9⟩
    case measure => simp [intOf]; omega
  · obtain rfl:j = xs.length:=by omega
    go_wp2
    go_ret
    exact ⟨rfl,HI.out.1⟩
end Bo
end
