/- Part 40: lemmas, no conditions. -/
import Derived.Test.YtclfmpieapbfnaaGreatDoorZ39
set_option maxHeartbeats 8000000
set_option linter.unusedVariables false
set_option linter.unusedSimpArgs false
section
namespace Go.Proofs.YtclfmpieapbfnaaGreatDoor.Ou
open Go.RowKit B Cm Cw Cr Lt Lc Nd
theorem rtxt {F:Nat → Prop} {p c:Nat} {A:Option Addr} {r:List Int} {s:ByteArray} {w:World} (h:Rr 223 w F p A c (txt s ++ r) false) (hs:s.size ≤ 1000000) :
 Calls Tryz.prog 91 #[.pointer (some ⟨p,0,none⟩)] w fun e w' => e = .returned (.string s) ∧ ∃ A' c',Rr 223 w' F p A' c' r false ∧ Upd (fun k => k = p) w w':=by
 have:=Cd.rtext_eq h (back_txt s r (by omega))
 rw [Nd.sb_str] at this
 exact this
theorem rtxl {F:Nat → Prop} {p c:Nat} {A:Option Addr} {r l:List Int} {w:World} (h:Rr 223 w F p A c (txl l ++ r) false) (hs:l.length ≤ 1000000) :
 Calls Tryz.prog 91 #[.pointer (some ⟨p,0,none⟩)] w fun e w' => e = .returned (.string (strOfNums l)) ∧ ∃ A' c',Rr 223 w' F p A' c' r false ∧ Upd (fun k => k = p) w w':=Cd.rtext_eq h (back_txl (by omega) r)
theorem rnum {F:Nat → Prop} {p c:Nat} {A:Option Addr} {r:List Int} {n:Int} {w:World} (h:Rr 223 w F p A c (num n ++ r) false) (h0:0 ≤ n) (h1:n ≤ 18446744073709551615) :
 Calls Tryz.prog 79 #[.pointer (some ⟨p,0,none⟩)] w fun e w' => e = .returned (.int .u64 n) ∧ ∃ A' c',Rr 223 w' F p A' c' r false ∧ Upd (fun k => k = p) w w':=rnumber_eq h (Nd.back_num n r h0 h1)
def OdOut (w:World) (m:Om) (e:Ending) (w':World):Prop:=∃ p F,e = .returned (.tuple #[.pointer (some ⟨p,0,none⟩),.int .i64 0]) ∧ Ot w' F p m m.ser.length ∧ (∀ k,F k → w.heap.size ≤ k) ∧ Upd No w w'
theorem OdOut.of {w:World} {m:Om} {e:Ending} {w':World} (h:∃ p F,e = .returned (.tuple #[.pointer (some ⟨p,0,none⟩),.int .i64 0]) ∧ Ot w' F p m m.ser.length ∧ (∀ k,F k → w.heap.size ≤ k) ∧ Upd No w w'):OdOut w m e w':=h
theorem kk_key {k:ByteArray} (h:Kk k):keyB k = true:=by
 unfold keyB
 exact decide_eq_true h
theorem kk_ks {k:ByteArray} (h:Kk k):Ms.Ks k:=by
 have:=h.2
 unfold Ms.Ks
 simp only [maxLen]
 omega
theorem leq_false {k last:ByteArray} (h:bl last k = true):(Op.bytesLess k.toList last.toList || k.toList == last.toList) = false:=by
 have h1:bl k last = false:=by
  rw [← Bool.not_eq_true]
  intro h2
  have:=bl_trans h h2
  rw [bl_irrefl] at this
  cases this
 have h2:Nd.be k last = false:=be_false.2 fun e => by
  rw [e,bl_irrefl] at h
  cases h
 unfold bl at h1
 unfold Nd.be at h2
 rw [h1,h2]
 rfl
theorem bl_nil {k:ByteArray} (h:Kk k):bl ⟨#[]⟩ k = true:=by
 rcases bl_total ⟨#[]⟩ k with h1 | h1 | h1
 · exact h1
 · have:=h.1
   rw [← h1] at this
   simp [ByteArray.size] at this
 · unfold bl at h1
   have e:(⟨#[]⟩:ByteArray).toList = []:=by
    rw [toList_data]
   rw [e] at h1
   cases hk:k.toList <;> rw [hk] at h1 <;> simp [Op.bytesLess] at h1
def lastK (s:List (ByteArray × Int)) (j:Nat):ByteArray:=if j = 0 then ⟨#[]⟩ else (s.getD (j - 1) (⟨#[]⟩,0)).1
theorem lastK_lt {s:List (ByteArray × Int)} (h:s.Pairwise fun a b => bl a.1 b.1 = true) (hk:∀ e ∈ s,Kk e.1) {j:Nat} (hj:j < s.length):bl (lastK s j) s[j].1 = true:=by
 unfold lastK
 by_cases h0:j = 0
 · subst h0
   rw [if_pos rfl]
   exact bl_nil (hk _ (List.getElem_mem hj))
 · rw [if_neg h0]
   have hj1:j - 1 < s.length:=by omega
   rw [List.getD_eq_getElem?_getD,List.getElem?_eq_getElem hj1]
   exact List.pairwise_iff_getElem.1 h (j - 1) j hj1 hj (by omega)
theorem lastK_succ {s:List (ByteArray × Int)} {j:Nat} (hj:j < s.length):lastK s (j + 1) = s[j].1:=by
 unfold lastK
 rw [if_neg (by omega),Nat.add_sub_cancel,List.getD_eq_getElem?_getD,List.getElem?_eq_getElem hj]
 rfl
set_option maxRecDepth 100000 in
theorem decode {w:World} {A:Option Addr} {c:Nat} {m:Om} {B:Int} (hr:Rn w .u8 A (encO m)) (hok:m.ok B) (hB:B ≤ 18446744073709551615) :
 Calls Tryz.prog 101 #[.slice A (encO m).length c] w fun e w' => OdOut w m e w':=by
 have hel:=encO_le hok
 have HN:=hid (newReader A c (encO m) w hr (by omega) (encO_byte hok))
 have HOk:=hid hok
 have hmk:=@run_makeMap Tryz.prog
 clear hr hel
 have hos:=hok.key.2
 have hm64:=hok.many
 have hl32:=hok.few
 go_enter Tryz.func101,Tryz.ntmps101
 go_wp2_with (fail)
 refine Calls.mono HN.out ?_
 rintro e w1 ⟨R,q,A1,c1,rfl,hr1,ho1,hb1⟩
 have HT1:=hid (rtxt (s:=m.own) (r:=num m.ser.length ++ (serb m.ser ++ (num m.lst.length ++ outb m.lst))) hr1 (by omega))
 have H1:=hid (And.intro ho1 (And.intro (Upd.of_below No hb1) hr1.here))
 clear hr1 ho1 hb1 HN
 go_wp2_with (fail)
 refine Calls.mono HT1.out ?_
 rintro e w2 ⟨rfl,A2,c2,hr2,hu2⟩
 have HNw:=hid (new_ m.own (kk_key hok.key) w2)
 have HR2:=hid (And.intro hr2 hu2)
 clear hr2 hu2 HT1 hok
 go_wp2_with (fail)
 refine Calls.mono HNw.out ?_
 rintro e w3 ⟨p,F,rfl,hot,hfo,hu3⟩
 have HD3:Hid (De w w3 R q F p (newO m.own) 0 (num m.ser.length ++ (serb m.ser ++ (num m.lst.length ++ outb m.lst)))):=hid (by
  obtain ⟨hr2,hu2⟩:=HR2.out
  obtain ⟨ho1,hu1,hq⟩:=H1.out
  have s1:=hu1.size
  have s2:=hu2.size
  have hqw:=ho1 q hq
  exact ⟨⟨_,_,hr2.keep hu3 fun _ _ => no_ _⟩,hot,fun k hk hf => by have:=hr2.lt k hk; have:=hfo k hf; omega,hqw,fun k hk => by have:=hfo k hk; omega,(hu1.trans hu2 fun i hi e => by omega).next hu3⟩)
 clear hot hfo hu3 HR2 H1 HNw
 obtain ⟨A3,c3,hr3⟩:=HD3.out.rr
 have HN3:=hid (rnum hr3 (by omega) (by omega))
 clear hr3
 go_wp2_with (fail)
 refine Calls.mono HN3.out ?_
 rintro e w4 ⟨rfl,A4,c4,hr4,hu4⟩
 have HD4:=hid (HD3.out.read hr4 hu4)
 clear hr4 hu4 HD3 HN3
 have hn64:¬ (64:Int) < (m.ser.length:Int):=by omega
 go_wp2_with (fail)
 go_loopw [8,34] (fun v8 v34 W => ∃ (j:Nat) (F':Nat → Prop) (lk:ByteArray),j ≤ m.ser.length ∧ v34 = .int .u64 j ∧ v8 = .string lk ∧ Hid (lk = lastK m.ser j) ∧ Hid (De w W R q F' p ⟨m.own,[],m.ser.take j⟩ j (serb (m.ser.drop j) ++ (num m.lst.length ++ outb m.lst)))) (fun _ v34 _ => m.ser.length - (intOf v34).toNat)
 case atStart => exact ⟨0,F,_,by omega,rfl,rfl,hid rfl,by simpa [newO] using HD4⟩
 case round =>
  clear HD4
  obtain ⟨j,F',lk,hj,rfl,rfl,HLk,HD⟩:=hrel
  by_cases hlt:j < m.ser.length
  · have hsk:=HOk.out.serk _ (List.getElem_mem hlt)
    have HLt:=hid (lastK_lt HOk.out.srt (fun e he => (HOk.out.serk e he).1) hlt)
    have HSu:=hid (lastK_succ hlt)
    have HPt:=hid (sm_take (srt_nd HOk.out.srt) hlt)
    rw [serb_drop m.ser hlt] at HD
    generalize m.ser[j] = x at *
    obtain ⟨xk,xn⟩:=x
    simp only at hsk HLt HSu HPt HD
    have hj2:(j:Int) < (m.ser.length:Int):=by omega
    rw [← HLk.out] at HLt
    have HLe:=hid (leq_false HLt.out)
    have HKy:=hid fun W => key_ xk W
    rw [kk_key hsk.1] at HKy
    have hxn:(xn == 0) = false:=by have:=hsk.2.1; simp; omega
    obtain ⟨A5,c5,hr5⟩:=HD.out.rr
    rw [List.append_assoc] at hr5
    have HT5:=hid (rtxt hr5 (by have:=hsk.1.2; omega))
    clear hr5
    go_wp2_with (fail)
    refine Calls.mono HT5.out ?_
    rintro e w5 ⟨rfl,A6,c6,hr6,hu6⟩
    have HD5:=hid (HD.out.read hr6 hu6)
    rw [List.append_assoc] at hr6
    have HN5:=hid (rnum hr6 (by have:=hsk.2.1; omega) (by have:=hsk.2.2; omega))
    clear hr6 hu6 HD HT5
    go_wp2_with (fail)
    refine Calls.mono HN5.out ?_
    rintro e w6 ⟨rfl,A7,c7,hr7,hu7⟩
    have HD6:=hid (HD5.out.read hr7 hu7)
    have HBd:=hid (bad q false _ w6 hr7.blk)
    clear hr7 hu7 HD5 HN5
    go_wp2_with (fail)
    refine Calls.mono HBd.out ?_
    rintro e w7 ⟨rfl,rfl⟩
    go_wp2_with (fail)
    refine Calls.mono (HKy.out w6) ?_
    rintro e w8 ⟨rfl,rfl⟩
    have hle:=HLe.out
    obtain ⟨v,b,hx⟩:=HD6.out.ot
    obtain ⟨y0,y1,y2⟩:=hx.cells
    have HX:=hid hx
    clear hx
    go_wp2_with (at_mapUpdate; go_must (refine Ms.ap_store rfl (.tmp 60) (.tmp 61) (.tmp 62) 271 9 23 rfl Tryz.underlying9 Tryz.underlying271 b j (sm (m.ser.take j)) xk (.int .u64 xn) rfl rfl rfl HX.out.map (by simp only [maxLen]; omega) (kk_ks hsk.1) ?_); intro w9 hm9 hu9)
    have HD9:Hid (De w w9 R q F' p ⟨m.own,[],m.ser.take (j + 1)⟩ (j + 1) (serb (m.ser.drop (j + 1)) ++ (num m.lst.length ++ outb m.lst))):=hid (by
     rw [HPt.out] at hm9
     obtain ⟨h1,h2⟩:=HX.out.stored hu9 hm9
     exact HD6.out.added h1 h2)
    clear hm9 hu9 HX HD6 y0 y1 y2 hle
    go_wp2
    go_roundw
    case rel => exact ⟨j + 1,F',xk,by omega,by go_num,rfl,hid HSu.out.symm,HD9⟩
    case measure => simp [intOf]; omega
  · obtain rfl:j = m.ser.length:=by omega
    rw [List.take_length,List.drop_length] at HD
    have HD0:Hid (De w wr R q F' p ⟨m.own,[],m.ser⟩ m.ser.length (num m.lst.length ++ outb m.lst)):=hid (by simpa [serb] using HD.out)
    clear HD HLk
    obtain ⟨A5,c5,hr5⟩:=HD0.out.rr
    have HN5:=hid (rnum hr5 (by omega) (by omega))
    clear hr5
    have hn32:¬ (32:Int) < (m.lst.length:Int):=by omega
    go_wp2_with (fail)
    refine Calls.mono HN5.out ?_
    rintro e w5 ⟨rfl,A6,c6,hr6,hu6⟩
    have HD5:=hid (HD0.out.read hr6 hu6)
    clear hr6 hu6 HD0 HN5
    obtain ⟨w6,bw,hw6,hbw,hD6,hC6,hbo⟩:∃ w6 bw,w6 = w5.alloc (.map #[] 0) ∧ bw = w5.heap.size ∧ De w w6 R q F' p ⟨m.own,[],m.ser⟩ m.ser.length (outb m.lst) ∧ Cn w6 bw 0 (fun _ => 0) ∧ (¬ R bw ∧ ¬ F' bw ∧ w.heap.size ≤ bw):=⟨_,_,rfl,rfl,HD5.out.quiet ((Upd.refl _ _).alloc _),Cn.made _,fun h => by
     obtain ⟨_,_,hr⟩:=HD5.out.rr
     have:=hr.lt _ h
     omega,fun h => by have:=HD5.out.ot.lt _ h; omega,HD5.out.upd.size⟩
    have HD6:=hid (And.intro hD6 (And.intro hC6 hbo))
    clear hD6 hC6 hbo HD5
    obtain ⟨wo,rfl⟩:∃ wo:World,wo = wr:=⟨_,rfl⟩
    go_wp2_with (fail)
    rw [← hw6,← hbw]
    clear hw6 hbw
    have HX0:Hid (∃ F0,De w w6 R q F0 p ⟨m.own,m.lst.take 0,m.ser⟩ m.ser.length (outb (m.lst.drop 0)) ∧ Cn w6 bw 0 (wt (m.lst.take 0)) ∧ (¬ R bw ∧ ¬ F0 bw ∧ w.heap.size ≤ bw)):=hid ⟨F',by simpa using HD6.out.1,by rw [show wt (m.lst.take 0) = fun _ => 0 from funext fun k => by simp [wt]]; exact HD6.out.2.1,HD6.out.2.2⟩
    clear HD6
    go_loopw [70] (fun v70 W => ∃ (j:Nat),j ≤ m.lst.length ∧ v70 = .int .u64 j ∧ Hid (∃ F0,De w W R q F0 p ⟨m.own,m.lst.take j,m.ser⟩ m.ser.length (outb (m.lst.drop j)) ∧ Cn W bw j (wt (m.lst.take j)) ∧ (¬ R bw ∧ ¬ F0 bw ∧ w.heap.size ≤ bw))) (fun v70 _ => m.lst.length - (intOf v70).toNat)
    case atStart => exact ⟨0,by omega,rfl,HX0⟩
    case round =>
     clear HX0
     obtain ⟨j,hj,rfl,HX1⟩:=hrel
     by_cases hlt:j < m.lst.length
     · have HEa:=hid (HOk.out.each _ (List.getElem_mem hlt))
       have HOr:=hid (ord_at HOk.out.ord hlt)
       have HWt:=hid (wt_take m.lst hlt)
       have HWd:=hid (wt_drop m.lst hlt)
       have HTk:Hid (m.lst.take (j + 1) = m.lst.take j ++ [m.lst[j]]):=hid (List.take_succ_eq_append_getElem hlt)
       obtain ⟨F0,hD,hC,hbo⟩:=HX1.out
       rw [outb_drop m.lst hlt] at hD
       generalize m.lst[j] = y at *
       obtain ⟨to,xf,xs,xk,xa⟩:=y
       obtain rfl:xf = m.own:=HEa.out.2.2.2
       simp only at hD HOr HWt HWd HTk
       have HD:=hid hD
       have HC:=hid hC
       have HBo:=hid hbo
       obtain ⟨A5,c5,hr5⟩:=hD.rr
       have hea:=HEa.out
       simp only at hea
       have hlb:=lb_small hea.2.1
       have HT5:=hid (rtxt hr5 (by have:=hea.1.2; omega))
       have hj2:(j:Int) < (m.lst.length:Int):=by omega
       clear hD hC hbo hr5 HX1
       go_wp2_with (fail)
       refine Calls.mono HT5.out ?_
       rintro e w7 ⟨rfl,A7,c7,hr7,hu7⟩
       have HD7:=hid (HD.out.read hr7 hu7)
       have HC7:=hid (HC.out.upd hu7 fun e => by
        obtain ⟨_,_,hb⟩:=HD.out.rr
        exact HC.out.ne hb.blk e.symm)
       have HT7:=hid (rtxl hr7 (by omega))
       clear hr7 hu7 HD HC HT5
       go_wp2_with (fail)
       refine Calls.mono HT7.out ?_
       rintro e w8 ⟨rfl,A8,c8,hr8,hu8⟩
       have HD8:=hid (HD7.out.read hr8 hu8)
       have HC8:=hid (HC7.out.upd hu8 fun e => by
        obtain ⟨_,_,hb⟩:=HD7.out.rr
        exact HC7.out.ne hb.blk e.symm)
       clear hr8 hu8 HD7 HC7 HT7
       have hby:=Ou.lb_byte _ hea.2.2.1
       obtain ⟨w9,c9,hcv,hrn9,hu9,hc91,hc92⟩:=conv_bytes2 (P:=Tryz.prog) w8 9 22 5 (lb (m.own,xs,xk,xa)) hby (by omega) Tryz.underlying9 Tryz.underlying22 Tryz.underlying5
       have hdc:=Lo.decode hrn9 hc91 (by omega) hc92 hby
       rw [show Lo.decL (lb (m.own,xs,xk,xa)) = ((m.own,xs,xk,xa),0) from Pk.dec_lb _ hea.2.1 hea.2.2.1] at hdc
       have HDc:=hid hdc
       have HD9:=hid (HD8.out.quiet hu9)
       have HC9:=hid (HC8.out.upd hu9 (no_ _))
       clear hrn9 hu9 hdc HD8 HC8 hc91 hc92 hby
       go_wp2_with (fail)
       clear hcv
       refine Calls.mono HDc.out ?_
       rintro e wa ⟨v,rfl,hin,hua,hvo⟩
       obtain ⟨Av,cv,rfl,hvr,hvc⟩:=hin
       simp only at hvr hvc
       unfold Lt.val
       simp only
       have HDa:=hid (HD9.out.quiet hua)
       have HCa:=hid (HC9.out.upd hua (no_ _))
       have HVa:=hid (And.intro (show In wa (m.own,xs,xk,xa) (.slice Av xa.length cv) from ⟨Av,cv,rfl,hvr,hvc⟩) (And.intro hvo (show ∀ k,R k → k < w9.heap.size from fun k hk => by obtain ⟨_,_,hrr⟩:=HD9.out.rr; exact hrr.lt k hk)))
       have HW9:=hid HD9.out.upd.size
       clear hvr hvc hvo hua HD9 HC9 HDc
       go_wp2_with (fail)
       have HWb:Hid (∃ wb gb,wb = wa.alloc (.cells #[.string m.own,.int .u64 xs,.int .i64 xk,.slice Av xa.length cv] 60) ∧ gb = wa.heap.size ∧ Blk wb gb 60 #[.string m.own,.int .u64 xs,.int .i64 xk,.slice Av xa.length cv] ∧ Upd No wa wb):=hid ⟨_,_,rfl,rfl,Blk.fresh _ _ _,(Upd.refl _ _).alloc _⟩
       obtain ⟨wb,gb,hwb,hgb,hbb,hub⟩:=HWb.out
       rw [← hwb,← hgb]
       have HDb:=hid (HDa.out.quiet hub)
       have HCb:=hid (HCa.out.upd hub (no_ _))
       have HBb:=hid hbb
       have HVb:=hid (And.intro (HVa.out.1.upd hub fun _ _ => no_ _) (show ∀ k,(Value.slice Av xa.length cv).ownBlock = some k → (w.heap.size ≤ k ∧ ¬ R k) ∧ ∃ cs,Blk wb k 2 cs from fun k hk => ⟨⟨by have:=(HVa.out.2.1 k hk).1; have:=HW9.out; omega,fun hR => by have:=(HVa.out.2.1 k hk).1; have:=HVa.out.2.2 k hR; omega⟩,(HVa.out.2.1 k hk).2.elim fun cs hB => ⟨cs,hB.upd hub (no_ _)⟩⟩))
       clear hwb hgb hbb hub HWb HDa HCa HVa
       have HFx:Hid (∀ W,Upd No wb W → ∃ vl b,Ox W F0 p ⟨m.own,m.lst.take j,m.ser⟩ m.ser.length vl b):=hid fun W hu => HDb.out.ot.quiet hu
       obtain ⟨vl,bs,hx⟩:=HDb.out.ot
       have HX:=hid fun (W:World) (hu:Upd No wb W) => hx.upd hu fun _ _ => no_ _
       have HLs:Hid (∀ W,Upd No wb W → (Instr.lookup 271 (.map (some bs)) (.string to) false).run Tryz.prog W = .ok (.int .u64 (num0 m.ser to)) W):=hid fun W hu => by
        have:=(HX.out W hu).map.look (t:=271) (e:=23) Tryz.underlying9 Tryz.underlying271 (z:=.int .u64 0) (by kernel_rfl) (kk_ks hea.1)
        rw [this]
        unfold sm num0
        cases at_ m.ser to <;> rfl
       have hn0:¬ num0 m.ser to = 0:=by
        have h1:=HOr.out.1
        have h2:=HWd.out to
        rw [if_pos rfl] at h2
        omega
       have hn1:(num0 m.ser to == 0) = false:=by simpa using hn0
       generalize num0 m.ser to = N0 at *
       have HBd:=hid fun (W:World) (hu:Upd No wb W) => by
        obtain ⟨A',c',h⟩:=(HDb.out.quiet hu).rr
        exact bad q false _ W h.blk
       clear hx hn0 HFx
       refine wp_region_held_drew (S:=fun W => Upd No wb W) (by kernel_rfl) (Upd.refl No wb).drew (fun hS => ?_)
       refine zt 0 hS ?_
       refine zk 1 (fun K hK => ?_)
       go_simp
       refine Calls.mono (HBd.out _ hS) ?_
       rintro e wc ⟨rfl,rfl⟩
       go_wp2_with (fail)
       refine hK.out _ _ ((by exact hS)) (fun hS => ?_)
       clear hK K
       try simp only [Act.put,zA,zB,zC]
       refine zt 2 hS ?_
       refine zt 3 hS ?_
       refine zt 4 hS ?_
       refine zt 5 hS ?_
       refine zt 6 hS ?_
       refine zt 7 hS ?_
       refine zh 8 hS (fun w hw => Lt.box (HBb.out.upd hw (no_ _))) ?_
       refine zt 9 hS ?_
       refine zt 10 hS ?_
       refine zt 11 hS ?_
       refine zh 12 hS (fun w hw => (HX.out w hw).cells.1) ?_
       refine zt 13 hS ?_
       refine zt 14 hS ?_
       refine zt 15 hS ?_
       refine zt 16 hS ?_
       refine zt 17 hS ?_
       refine zt 18 hS ?_
       refine zh 19 hS (fun w hw => (HX.out w hw).cells.2.2) ?_
       refine zt 20 hS ?_
       refine zh 21 hS (fun w hw => HLs.out w hw) ?_
       refine zt 22 hS ?_
       refine zt 23 hS ?_
       refine wpAnyH_done (by kernel_rfl) ?_ _
       have HS:=hid hS
       clear hS
       have hCd0:=HCb.out.upd HS.out (no_ _)
       have hlk:=hCd0.look (kk_ks hea.1)
       have hz:IntKind.u64.wrap ((wt (m.lst.take j) to:Nat) + 1:Int) = (wt (m.lst.take (j + 1)) to:Nat):=by
        have h1:=HWt.out to
        rw [if_pos rfl] at h1
        have h2:=wt_le (m.lst.take j) to
        rw [List.length_take] at h2
        rw [IntKind.wrap_u64]
        omega
       have HCd0:=hid hCd0
       have HZ:=hid hz
       clear hCd0 hz
       generalize htj:((wt (m.lst.take j) to:Nat):Int) = t0 at *
       go_wp2_with (at_mapUpdate; go_must (refine ap_count (f:=wt (m.lst.take j)) (g:=wt (m.lst.take (j + 1))) rfl (.tmp 105) (.tmp 106) (.tmp 108) rfl bw j to (IntKind.u64.wrap (t0 + 1)) rfl rfl rfl HCd0.out (by simp only [maxLen]; omega) (kk_ks hea.1) HZ.out (fun k' hk' => by rw [HWt.out k',if_neg (Ne.symm hk'),Nat.add_zero]) ?_); intro wd hCd hud)
       have hDd:=(HDb.out.quiet HS.out).other hud HBo.out
       have HCd:=hid hCd
       have HVd:=hid (show In wd (m.own,xs,xk,xa) (.slice Av xa.length cv) ∧ ∀ k,(Value.slice Av xa.length cv).ownBlock = some k → (w.heap.size ≤ k ∧ ¬ R k) ∧ ∃ cs,Blk wd k 2 cs from ⟨(HVb.out.1.upd HS.out fun _ _ => no_ _).upd hud fun g hg e => (HVb.out.2 g hg).2.elim fun cs hB => HCb.out.ne hB e,fun k hk => ⟨(HVb.out.2 k hk).1,(HVb.out.2 k hk).2.elim fun cs hB => ⟨cs,(hB.upd HS.out (no_ _)).upd hud (HCb.out.ne hB)⟩⟩⟩)
       have hBd:=(HBb.out.upd HS.out (no_ _)).upd hud (HCb.out.ne HBb.out)
       clear hCd hlk HX HLs HBd htj HZ HCd0 HCb HBb HVb
       obtain ⟨vl2,bs2,hxd⟩:=hDd.ot
       obtain ⟨ps,hps,hsl,hip,hvF⟩:=hxd.row
       simp only at hps
       have hpl:(m.lst.take j).length = ps.length:=by rw [← hps]; simp
       have HPj:Hid (ps.length = j):=hid (by
        rw [← hpl,List.length_take]
        omega)
       obtain ⟨Al,cl,rfl,hcl,hclm⟩:=hsl.shape
       simp only [maxLen] at hclm
       have k1:=hxd.cells.2.1
       have kf:=hxd.blk.free 1
       have e1:∀ o,(wd.drew.alloc o).cell? ⟨p,1,none⟩ = some (.slice Al ps.length cl):=fun o => by
        have:=(hxd.blk.drew.alloc o).cell 1
        simpa using this
       have k2:wd.drew.cell? ⟨p,1,none⟩ = some (.slice Al ps.length cl):=k1
       have hpg:gb ≠ p:=Blk.ne_type hBd hxd.blk (by decide)
       have HP:=hid (And.intro hxd (And.intro hps (And.intro hsl (And.intro hip hvF))))
       have HDd:=hid hDd
       have hps32:ps.length ≤ 32:=by have:=HPj.out; omega
       obtain ⟨zo,hzo,hzs⟩:=ou_info
       clear hDd hps hsl hip hvF hpl
       have hBz:=hBd.drew
       have hpz:=hxd.blk.drew
       have hsz:=HP.out.2.2.1.drew
       have hUz:Upd No wd wd.drew:=(Upd.refl No wd).drew
       have HZz:Hid (wd.drew.heap.size = wd.heap.size):=hid rfl
       refine wp_region_held_drew (S:=fun W => Blk W gb 60 #[.string m.own,.int .u64 xs,.int .i64 xk,.slice Av xa.length cv]) (by kernel_rfl) hBz (fun hS => ?_)
       generalize hwz:wd.drew = wz at *
       clear hwz k1
       have HRes:Hid (∀ (w4:World) (A4:Option Addr) (c4:Nat),Sl w4 0 150 5 (.slice A4 (ps.length + 1) c4) (ps.length + 1) (ocells ps ++ ocs ((to,m.own,xs,xk,xa),.slice Av xa.length cv)) → Upd (fun k => (Value.slice Al ps.length cl).ownBlock = some k) (wz.alloc (.cells (ocs ((to,m.own,xs,xk,xa),.slice Av xa.length cv)).toArray 150)) w4 →
        (∀ g,(Value.slice A4 (ps.length + 1) c4).ownBlock = some g → (Value.slice Al ps.length cl).ownBlock = some g ∨ (wz.alloc (.cells (ocs ((to,m.own,xs,xk,xa),.slice Av xa.length cv)).toArray 150)).heap.size ≤ g) → ∃ F9,De w (w4.setCell ⟨p,1,none⟩ (.slice A4 (ps.length + 1) c4)) R q F9 p ⟨m.own,m.lst.take (j + 1),m.ser⟩ m.ser.length (outb (m.lst.drop (j + 1))) ∧ Cn (w4.setCell ⟨p,1,none⟩ (.slice A4 (ps.length + 1) c4)) bw (j + 1) (wt (m.lst.take (j + 1))) ∧ (¬ R bw ∧ ¬ F9 bw ∧ w.heap.size ≤ bw)):=hid (fun w4 A4 c4 ho4 hg4 hat4 => by
        obtain ⟨hxd,hps,hsl,hip,hvF⟩:=HP.out
        have hal:=hUz.alloc (.cells (ocs ((to,m.own,xs,xk,xa),.slice Av xa.length cv)).toArray 150)
        obtain ⟨F9,h1,h2,h3⟩:=hxd.pushed hps hsl hip hvF (x:=(to,m.own,xs,xk,xa)) (HVd.out.1.upd hal fun _ _ => no_ _) (fun k hk => (HVd.out.2 k hk).2.elim fun cs hB => ⟨cs,hB.upd hal (no_ _)⟩) hal ho4 hg4 hat4 (G:=fun k => (¬ R k ∧ w.heap.size ≤ k) ∧ k ≠ bw) (fun k hk => ⟨⟨(HVd.out.2 k hk).1.2,(HVd.out.2 k hk).1.1⟩,(HVd.out.2 k hk).2.elim fun cs hB => HCd.out.ne hB⟩)
        simp only at h1
        rw [← HTk.out] at h1
        have hsw:=HDd.out.upd.size
        refine ⟨F9,HDd.out.added2 h1 h3 fun k hk => ?_,((HCd.out.upd hal (no_ _)).upd hg4 fun hh => ?_).upd ((Upd.refl (fun k => k = p) w4).set1 1 _) fun e => HCd.out.ne hxd.blk e.symm,HBo.out.1,fun hf => ?_,HBo.out.2.2⟩
        · rcases h2 k hk with h | h | h
          · exact .inl h
          · exact .inr h.1
          · exact .inr ⟨fun hR => by obtain ⟨_,_,hrr⟩:=HDd.out.rr; have:=hrr.lt k hR; omega,by omega⟩
        · obtain ⟨cs,hB⟩:=hsl.blk hh
          exact HCd.out.ne hB rfl
        · rcases h2 bw hf with h | h | h
          · exact HBo.out.2.1 h
          · exact h.2 rfl
          · have:=HCd.out.lt; omega)
       refine zt 0 hS ?_
       refine zt 1 hS ?_
       refine zt 2 hS ?_
       refine zt 3 hS ?_
       refine zt 5 hS ?_
       refine zh 6 hS (fun w hw => Lt.box hw) ?_
       refine zt 7 hS ?_
       refine rg_two 4 8 (by kernel_rfl) ?_ ?_
       · refine zs 4 (fun K hK => ?_)
         go_simp
         refine hK.out _ _ ((by first | exact hBz | exact hBz.alloc _)) (fun hS => ?_)
         clear hK K
         try simp only [Act.put,zA,zB,zC]
         refine zk 8 (fun K hK => ?_)
         go_simp
         refine hK.out _ _ ((hBz.alloc _)) (fun hS => ?_)
         clear hK K
         try simp only [Act.put,zA,zB,zC]
         refine zk 9 (fun K hK => ?_)
         refine wp_ap_sl 0 (.tmp 113) (.tmp 117) 270 150 zo 5 72 (by rfl) Tryz.underlying270 hzo hzs (by omega) (.slice Al ps.length cl) ps.length (ocells ps) (some ⟨wz.heap.size,0,none⟩) 1 1 (ocs ((to,m.own,xs,xk,xa),.slice Av xa.length cv)) (by rfl) (by rfl) (hsz.alloc _) (Rd_lit wz _ 5 1 (ocs ((to,m.own,xs,xk,xa),.slice Av xa.length cv)) rfl) (ocs_one HVd.out.1) (by omega) (by omega) (Nat.zero_le _) ?_
         intro A4 c4 w4 ho4 hg4 hat4
         have b4:=(hBz.alloc (.cells (ocs ((to,m.own,xs,xk,xa),.slice Av xa.length cv)).toArray 150)).upd hg4 (fun h => hsz.ne hBz (by decide) h)
         have p4:=(hpz.alloc (.cells (ocs ((to,m.own,xs,xk,xa),.slice Av xa.length cv)).toArray 150)).upd hg4 (fun h => hsz.ne hpz (by decide) h)
         have f4:=p4.free 1
         have c4':=p4.cell 1
         simp at c4'
         refine hK.out _ _ ((by exact b4)) (fun hS => ?_)
         clear hK K
         try simp only [Act.put,zA,zB,zC]
         refine zt 10 hS ?_
         refine zt 11 hS ?_
         refine zk 12 (fun K hK => ?_)
         go_simp
         refine hK.out _ _ ((b4.far hpg _)) (fun hS => ?_)
         clear hK K
         try simp only [Act.put,zA,zB,zC]
         refine wpAnyH_done (by kernel_rfl) ?_ _
         have hres:=hid (HRes.out w4 A4 c4 ho4 hg4 hat4)
         clear hS ho4 hg4 hat4 b4 p4 f4 c4' hBz hpz hsz hUz HP HVd hBd HRes
         go_wp2
         go_roundw
         case rel => exact ⟨j + 1,by omega,by go_num,hres⟩
         case measure => simp [intOf]; omega
       · refine zs 8 (fun K hK => ?_)
         go_simp
         refine hK.out _ _ ((hBz.alloc _)) (fun hS => ?_)
         clear hK K
         try simp only [Act.put,zA,zB,zC]
         refine zk 4 (fun K hK => ?_)
         go_simp
         refine hK.out _ _ ((by first | exact hBz | exact hBz.alloc _)) (fun hS => ?_)
         clear hK K
         try simp only [Act.put,zA,zB,zC]
         refine zk 9 (fun K hK => ?_)
         refine wp_ap_sl 0 (.tmp 113) (.tmp 117) 270 150 zo 5 72 (by rfl) Tryz.underlying270 hzo hzs (by omega) (.slice Al ps.length cl) ps.length (ocells ps) (some ⟨wz.heap.size,0,none⟩) 1 1 (ocs ((to,m.own,xs,xk,xa),.slice Av xa.length cv)) (by rfl) (by rfl) (hsz.alloc _) (Rd_lit wz _ 5 1 (ocs ((to,m.own,xs,xk,xa),.slice Av xa.length cv)) rfl) (ocs_one HVd.out.1) (by omega) (by omega) (Nat.zero_le _) ?_
         intro A4 c4 w4 ho4 hg4 hat4
         have b4:=(hBz.alloc (.cells (ocs ((to,m.own,xs,xk,xa),.slice Av xa.length cv)).toArray 150)).upd hg4 (fun h => hsz.ne hBz (by decide) h)
         have p4:=(hpz.alloc (.cells (ocs ((to,m.own,xs,xk,xa),.slice Av xa.length cv)).toArray 150)).upd hg4 (fun h => hsz.ne hpz (by decide) h)
         have f4:=p4.free 1
         have c4':=p4.cell 1
         simp at c4'
         refine hK.out _ _ ((by exact b4)) (fun hS => ?_)
         clear hK K
         try simp only [Act.put,zA,zB,zC]
         refine zt 10 hS ?_
         refine zt 11 hS ?_
         refine zk 12 (fun K hK => ?_)
         go_simp
         refine hK.out _ _ ((b4.far hpg _)) (fun hS => ?_)
         clear hK K
         try simp only [Act.put,zA,zB,zC]
         refine wpAnyH_done (by kernel_rfl) ?_ _
         have hres:=hid (HRes.out w4 A4 c4 ho4 hg4 hat4)
         clear hS ho4 hg4 hat4 b4 p4 f4 c4' hBz hpz hsz hUz HP HVd hBd HRes
         go_wp2
         go_roundw
         case rel => exact ⟨j + 1,by omega,by go_num,hres⟩
         case measure => simp [intOf]; omega
     · obtain rfl:j = m.lst.length:=by omega
       have HX2:=HX1
       rw [List.take_length,List.drop_length] at HX2
       obtain ⟨F0,hD,hC,hbo⟩:=HX2.out
       have HD:=hid hD
       have HC:=hid hC
       have HBo:=hid hbo
       obtain ⟨vl,bs,hx⟩:=hD.ot
       obtain ⟨ps,hps,hsl,hip,_⟩:=hx.row
       simp only at hps
       have HPl:Hid (m.lst.length = ps.length):=hid (by rw [← hps]; simp)
       have hps32:ps.length ≤ 32:=by have:=HPl.out; omega
       obtain ⟨Al,cl,rfl,hcl,hclm⟩:=hsl.shape
       simp only [maxLen] at hclm
       have k1:=hx.cells.2.1
       have HX:=hid fun (W:World) (hu:Upd (fun k => k = bw) wr W) => hx.upd hu fun k hk e => hbo.2.1 (e ▸ hk)
       have HRd:=hid fun (W:World) (hu:Upd (fun k => k = bw) wr W) => (show Rd W 5 Al ps.length (ocells ps) from Rd.upd (Sl.rd hsl) (by omega) hu fun ad e hb => by
        have h1:=HC.out
        subst e
        obtain ⟨cs,hB⟩:=hsl.blk (k:=ad.block) (by simp [Value.ownBlock])
        exact h1.ne hB hb)
       have HPs:=hid hps
       have HSh:Hid (∀ x ∈ ps,∃ A c,x.2 = .slice A x.1.2.2.2.2.length c):=hid fun x hx => by
        obtain ⟨A,c,h,_⟩:=(hip x hx).1
        exact ⟨A,c,h⟩
       clear hD hC hbo hx hps hsl hip HX1 HX2
       go_wp2_with (fail)
       clear k1
       obtain ⟨wo2,hwo2⟩:∃ wo2:World,wo2 = wr:=⟨_,rfl⟩
       rw [← hwo2] at HD HC HX HRd
       rw [← hwo2]
       have HI0:Hid (Upd (fun k => k = bw) wo2 wo2 ∧ Cn wo2 bw (m.lst.length + 0) (wt (m.lst.drop 0))):=hid ⟨Upd.refl _ _,by simpa using HC.out⟩
       clear hwo2
       clear wr
       go_loopw [127] (fun v127 W => ∃ (j:Nat),j ≤ ps.length ∧ v127 = .int .i64 j ∧ Hid (Upd (fun k => k = bw) wo2 W ∧ Cn W bw (m.lst.length + j) (wt (m.lst.drop j)))) (fun v127 _ => ps.length - (intOf v127).toNat)
       case atStart => exact ⟨0,by omega,rfl,HI0⟩
       case round =>
        have HC0:=HC
        clear HI0 HC
        obtain ⟨j,hj,rfl,HI⟩:=hrel
        by_cases hlt:j < ps.length
        · have hlm:j < m.lst.length:=by have:=HPl.out; omega
          obtain ⟨ad,rfl,x0,x1,x2,x3,x4⟩:=out_at (HRd.out wr HI.out.1) hlt
          have hej:m.lst[j] = ps[j].1:=by
           have:=HPs.out
           simp [← this]
          have HEa:=hid (HOk.out.each _ (List.getElem_mem hlm))
          have HOr:=hid (ord_at HOk.out.ord hlm)
          have HWd:=hid (wt_drop m.lst hlm)
          rw [hej] at HEa HOr HWd
          clear hej
          obtain ⟨Au,cu,hue⟩:=HSh.out _ (List.getElem_mem hlt)
          generalize ps[j] = y at *
          obtain ⟨⟨to,xf,xs,xk,xa⟩,u⟩:=y
          simp only at HEa HOr HWd x0 x1 x2 x3 x4 hue
          subst hue
          have hj2:(j:Int) < (ps.length:Int):=by omega
          have hj1:(0:Int) ≤ (j:Int):=by omega
          have hks:=kk_ks HEa.out.1
          have HWb:Hid (∃ wb gb,wb = wr.alloc (.cells #[.string to,.string xf,.int .u64 xs,.int .i64 xk,.slice Au xa.length cu] 150) ∧ gb = wr.heap.size ∧ Blk wb gb 150 #[.string to,.string xf,.int .u64 xs,.int .i64 xk,.slice Au xa.length cu] ∧ Upd No wr wb):=hid ⟨_,_,rfl,rfl,Blk.fresh _ _ _,(Upd.refl _ _).alloc _⟩
          go_wp2_with (fail)
          obtain ⟨wb,gb,hwb,hgb,hbb,hub⟩:=HWb.out
          rw [← hwb,← hgb]
          have HB:=hid hbb
          have HI2:Hid (Upd (fun k => k = bw) wo2 wb ∧ Cn wb bw (m.lst.length + j) (wt (m.lst.drop j))):=hid ⟨HI.out.1.trans hub fun i hi h => h.elim,HI.out.2.upd hub (no_ _)⟩
          clear hwb hgb hbb hub HWb HI x0 x1 x2 x3 x4
          have HS1:Hid (∀ W,Upd No wb W → Upd (fun k => k = bw) wo2 W):=hid fun W hu => HI2.out.1.trans hu fun i hi h => h.elim
          have HLs:Hid (∀ W,Upd No wb W → (Instr.lookup 271 (.map (some bs)) (.string to) false).run Tryz.prog W = .ok (.int .u64 (num0 m.ser to)) W):=hid fun W hu => by
           have:=(HX.out W (HS1.out W hu)).map.look (t:=271) (e:=23) Tryz.underlying9 Tryz.underlying271 (z:=.int .u64 0) (by kernel_rfl) hks
           rw [this]
           unfold sm num0
           cases at_ m.ser to <;> rfl
          have HLw:Hid (∀ W,Upd No wb W → (Instr.lookup 271 (.map (some bw)) (.string to) false).run Tryz.prog W = .ok (.int .u64 (wt (m.lst.drop j) to)) W):=hid fun W hu => (HI2.out.2.upd hu (no_ _)).look hks
          have hnr:=num0_ge HOk.out to
          have hwl:=wt_le (m.lst.drop j) to
          rw [List.length_drop] at hwl
          have hwd:=HWd.out to
          rw [if_pos rfl] at hwd
          have hor:=HOr.out
          have hw1:IntKind.u64.wrap (num0 m.ser to - wt (m.lst.drop j) to) = num0 m.ser to - wt (m.lst.drop j) to:=by
           rw [IntKind.wrap_u64]
           omega
          have hw2:IntKind.u64.wrap (num0 m.ser to - wt (m.lst.drop j) to + 1) = xs:=by
           rw [IntKind.wrap_u64]
           omega
          have hw3:IntKind.u64.wrap ((wt (m.lst.drop j) to:Nat) - 1:Int) = (wt (m.lst.drop (j + 1)) to:Nat):=by
           rw [IntKind.wrap_u64]
           omega
          have hgt:¬ num0 m.ser to < (wt (m.lst.drop j) to:Nat):=by omega
          have HW1:=hid hw1
          have HW2:=hid hw2
          have HW3:=hid hw3
          have HBx:=hid fun (W:World) (hu:Upd No wb W) => box5 (HB.out.upd hu (no_ _))
          have HXc:=hid fun (W:World) (hu:Upd No wb W) => (HX.out W (HS1.out W hu)).cells.2.2
          clear hw1 hw2 hw3 hnr hwl hwd hor HB
          generalize num0 m.ser to = N0 at *
          generalize htj:((wt (m.lst.drop j) to:Nat):Int) = t0 at *
          refine wp_region_held_drew (S:=fun W => Upd No wb W) (by kernel_rfl) (Upd.refl No wb).drew (fun hS => ?_)
          refine zt 0 hS ?_
          refine zt 1 hS ?_
          refine zh 2 hS (fun w hw => (HBx.out w hw).1) ?_
          refine zh 3 hS (fun w hw => HLw.out w hw) ?_
          refine zt 4 hS ?_
          refine zt 5 hS ?_
          refine zt 6 hS ?_
          refine zh 7 hS (fun w hw => HXc.out w hw) ?_
          refine zt 8 hS ?_
          refine zh 9 hS (fun w hw => (HBx.out w hw).1) ?_
          refine zh 10 hS (fun w hw => HLs.out w hw) ?_
          refine zt 11 hS ?_
          refine zt 12 hS ?_
          refine zt 13 hS ?_
          refine zt 14 hS ?_
          refine zh 15 hS (fun w hw => (HBx.out w hw).2.2.1) ?_
          refine zt 16 hS ?_
          refine zt 17 hS ?_
          refine zt 18 hS ?_
          refine zh 19 hS (fun w hw => HXc.out w hw) ?_
          refine zt 20 hS ?_
          refine zh 21 hS (fun w hw => (HBx.out w hw).1) ?_
          refine zh 22 hS (fun w hw => HLs.out w hw) ?_
          refine zt 23 hS ?_
          refine zt 24 hS ?_
          refine zh 25 hS (fun w hw => (HBx.out w hw).1) ?_
          refine zh 26 hS (fun w hw => HLw.out w hw) ?_
          refine zh 27 hS (fun w hw => HW1.out) ?_
          refine zh 28 hS (fun w hw => HW2.out) ?_
          refine zt 29 hS ?_
          refine zt 30 hS ?_
          refine wpAnyH_done (by kernel_rfl) ?_ _
          have HS:=hid hS
          clear hS
          have hlk:=HLw.out wb.drew HS.out
          have hbx:=HBx.out wb.drew HS.out
          obtain ⟨y0,_⟩:=hbx
          have HCd:=hid (HI2.out.2.upd HS.out (no_ _))
          go_wp2_with (at_mapUpdate; go_must (refine ap_count (f:=wt (m.lst.drop j)) (g:=wt (m.lst.drop (j + 1))) rfl (.tmp 162) (.tmp 164) (.tmp 166) rfl bw (m.lst.length + j) to (IntKind.u64.wrap (t0 - 1)) rfl rfl rfl HCd.out (by simp only [maxLen]; omega) hks HW3.out (fun k' hk' => by have:=HWd.out k'; rw [if_neg (Ne.symm hk')] at this; omega) ?_); intro wd hCd hud)
          have HI3:Hid (Upd (fun k => k = bw) wo2 wd ∧ Cn wd bw (m.lst.length + (j + 1)) (wt (m.lst.drop (j + 1)))):=hid ⟨(HS1.out _ HS.out).trans hud fun i hi h => h,hCd⟩
          clear hCd hud hlk y0 HCd HLs HLw HBx HXc HS HI2 HS1
          go_wp2
          go_roundw
          case rel => exact ⟨j + 1,by omega,by go_num,HI3⟩
          case measure => simp [intOf]; omega
        · obtain rfl:j = ps.length:=by omega
          obtain ⟨A9,c9,hrr⟩:=HD.out.rr
          have hq:¬ q = bw:=HC0.out.ne hrr.blk
          have HEnd:=hid (end_ q 0 c9 A9 false wr (hrr.blk.upd HI.out.1 hq))
          simp only [Bool.not_false,decide_true,Bool.and_true] at HEnd
          have HFin:Hid (Ot wr F0 p m m.ser.length ∧ (∀ k,F0 k → w.heap.size ≤ k) ∧ Upd No w wr):=hid ⟨⟨_,_,HX.out wr HI.out.1⟩,HD.out.fo,HD.out.upd.trans HI.out.1 fun i hi e => by have:=HBo.out.2.2; omega⟩
          clear hrr hq HI HD
          go_wp2_with (fail)
          refine HEnd.out.mono ?_
          rintro e w9 ⟨rfl,rfl⟩
          go_wp2
          go_ret2
          exact .of ⟨p,F0,rfl,HFin.out⟩
end Go.Proofs.YtclfmpieapbfnaaGreatDoor.Ou
end
