/- Part 36: lemmas, no conditions. -/
import Derived.Test.YtclfmpieapbfnaaGreatDoorZ34
import Derived.Test.YtclfmpieapbfnaaGreatDoorZ28
set_option maxHeartbeats 4000000
set_option linter.unusedVariables false
set_option linter.unusedSimpArgs false
section
namespace Go.Proofs.YtclfmpieapbfnaaGreatDoor.Jn
open Go.RowKit B Cw Cr
open Cm (num num_length stN)
theorem evb_drop (l:List Ev) (j:Nat) (hj:j < l.length):evb (l.drop j) = num l[j].1 ++ (num (zz l[j].2) ++ evb (l.drop (j + 1))):=by
 rw [List.drop_eq_getElem_cons hj]
 unfold evb
 rw [List.flatMap_cons,List.append_assoc]
theorem ints_drop (l:List Int) (j:Nat) (hj:j < l.length):ints (l.drop j) = num (zz (gi l j)) ++ ints (l.drop (j + 1)):=by
 rw [List.drop_eq_getElem_cons hj]
 simp only [ints,gi,List.getD_eq_getElem?_getD,List.getElem?_eq_getElem hj,List.flatMap_cons,Option.getD_some]
theorem zz_pos (n:Int):0 ≤ zz n:=by unfold zz; split <;> omega
theorem encJ_byte {s:S} (hok:Ok s) (hg:Rg s):Byte (encJ s):=by
 intro c hc
 simp only [encJ,List.mem_append] at hc
 rcases hc with ((hc | hc) | hc) | hc
 · exact Cp.num_byte _ hg.v.1 c hc
 · obtain ⟨x,_,h⟩:=List.mem_flatMap.1 hc
   exact Cp.num_byte _ (zz_pos x) c h
 · exact Cp.num_byte _ (by omega) c hc
 · obtain ⟨x,hx,h⟩:=List.mem_flatMap.1 hc
   rcases List.mem_append.1 h with h | h
   · exact Cp.num_byte _ (hok.ev x hx).1 c h
   · exact Cp.num_byte _ (zz_pos _) c h
theorem gi_ext {a b:List Int} (ha:a.length = 8) (hb:b.length = 8) (h:∀ k,k < 8 → gi a k = gi b k):a = b:=by
 refine List.ext_getElem (by omega) fun i h1 h2 => ?_
 have:=h i (by omega)
 simpa [gi,List.getD_eq_getElem?_getD,List.getElem?_eq_getElem h1,List.getElem?_eq_getElem h2] using this
structure Dc (w W:World) (F:Nat → Prop) (p:Nat) (s:S) (R:Nat → Prop) (q:Nat) (l:List Int):Prop where
 jd:Jd W F p s
 own:∀ k,F k → w.heap.size ≤ k
 rr:∃ A c,Rr 223 W R q A c l false
 rown:∀ k,R k → w.heap.size ≤ k
 dis:∀ k,F k → ¬ R k
 upd:Upd No w W
section
variable {w W W1:World} {F F' R:Nat → Prop} {p q:Nat} {s s':S} {l l':List Int}
theorem Dc.read (h:Dc w W F p s R q l) {A':Option Addr} {c':Nat} (hr:Rr 223 W1 R q A' c' l' false) (hu:Upd (fun k => k = q) W W1):Dc w W1 F p s R q l' where
 jd:=h.jd.upd hu fun k hk e => h.dis k hk (e ▸ hr.here)
 own:=h.own
 rr:=⟨A',c',hr⟩
 rown:=h.rown
 dis:=h.dis
 upd:=h.upd.trans hu fun i hi e => by have:=h.rown q hr.here; omega
theorem Dc.moved (h:Dc w W F p s R q l) (hj:Jd W1 F' p s') (hm:Mv F F' W W1):Dc w W1 F' p s' R q l where
 jd:=hj
 own:=fun k hk => (hm.sub k hk).elim (h.own k) fun hn => Nat.le_trans h.upd.size hn
 rr:=by
  obtain ⟨A,c,hr⟩:=h.rr
  exact ⟨A,c,hr.keep hm.upd fun k hk hf => h.dis k hf hk⟩
 rown:=h.rown
 dis:=fun k hk hr => (hm.sub k hk).elim (fun hf => h.dis k hf hr) fun hn => by
  obtain ⟨A,c,hr'⟩:=h.rr
  have:=hr'.lt k hr
  omega
 upd:=h.upd.trans hm.upd fun i hi hf => by have:=h.own i hf; omega
end
theorem Jd.reg {w:World} {F:Nat → Prop} {p:Nat} {b:List Int} {es:List Ev} {v:Int} (h:Jd w F p (b,es,v)) (hb:b.length = 8) {i:Nat} (hi:i < 8) (x:Int) :
 Jd (w.setCell ⟨p,i,none⟩ (.int .i64 x)) F p (b.set i x,es,v) ∧ Mv F F w (w.setCell ⟨p,i,none⟩ (.int .i64 x)):=by
 obtain ⟨v',h⟩:=h
 exact ⟨⟨v',jput h.blk hb hi x,h.row.upd ((Upd.refl (fun k => k = p) _).set1 i _) fun k hk => h.vp k hk,h.fp,h.fv,fun k hk => by have:=h.lt k hk; simpa [World.setCell] using this⟩,⟨(Upd.refl _ _).set (.inl h.fp) _,fun k hk => .inl hk⟩⟩
def DecOut (w:World) (s:S) (e:Ending) (w':World):Prop:=∃ p F,e = .returned (.tuple #[.pointer (some ⟨p,0,none⟩),.int .i64 0]) ∧ Jd w' F p s ∧ (∀ k,F k → w.heap.size ≤ k) ∧ Upd No w w'
theorem DecOut.of {w:World} {s:S} {e:Ending} {w':World} (h:∃ p F,e = .returned (.tuple #[.pointer (some ⟨p,0,none⟩),.int .i64 0]) ∧ Jd w' F p s ∧ (∀ k,F k → w.heap.size ≤ k) ∧ Upd No w w'):DecOut w s e w':=h
theorem decode {w:World} {A:Option Addr} {c:Nat} {s:S} (hr:Rn w .u8 A (encJ s)) (hok:Ok s) (h16:s.2.1.length ≤ 16) (hg:Rg s) (hv:(s.2.1.length:Int) ≤ s.2.2) :
 Calls Tryz.prog 99 #[.slice A (encJ s).length c] w fun e w' => DecOut w s e w':=by
 have hel:=encJ_le s hok.b8
 have HN:=hid (newReader A c (encJ s) w hr (by omega) (encJ_byte hok hg))
 have HG:=hid (And.intro hok hg)
 clear hr hok hg hel
 go_enter Tryz.func99,Tryz.ntmps99
 go_wp2_with (fail)
 refine Calls.mono HN.out ?_
 rintro e w1 ⟨R,q,A1,c1,rfl,hr1,ho1,hb1⟩
 have hs1:stN (encJ s) false = (s.2.2,ints s.1 ++ (num s.2.1.length ++ evb s.2.1),false):=by
  unfold encJ
  rw [List.append_assoc,List.append_assoc]
  exact back_num _ _ HG.out.2.v.1 HG.out.2.v.2
 have HC:=hid (rnumber_eq hr1 hs1)
 have H1:=hid (And.intro ho1 (Upd.of_below No hb1))
 clear hr1 ho1 hb1 hs1 HN
 go_wp2_with (fail)
 refine Calls.mono HC.out ?_
 rintro e w2 ⟨rfl,A2,c2,hr2,hu2⟩
 have HR2:=hid (And.intro hr2 hu2)
 clear hr2 hu2 HC
 go_wp2_with (fail)
 have HW:Hid (∃ (w3:World) (p:Nat) (F:Nat → Prop),w3 = w2.alloc (.cells #[.int .i64 0,.int .i64 0,.int .i64 0,.int .i64 0,.int .i64 0,.int .i64 0,.int .i64 0,.int .i64 0,.slice none 0 0,.int .u64 s.2.2] 158) ∧ p = w2.heap.size ∧ Dc w w3 F p (s0.1,[],s.2.2) R q (ints s.1 ++ (num s.2.1.length ++ evb s.2.1))):=hid (by
  obtain ⟨hr2,hu2⟩:=HR2.out
  have h12:=hu2.size
  have h01:=H1.out.2.size
  have hal:Upd No w2 (w2.alloc (.cells #[.int .i64 0,.int .i64 0,.int .i64 0,.int .i64 0,.int .i64 0,.int .i64 0,.int .i64 0,.int .i64 0,.slice none 0 0,.int .u64 s.2.2] 158)):=(Upd.refl _ _).alloc _
  exact ⟨_,_,fun k => k = w2.heap.size,rfl,rfl,⟨.slice none 0 0,Blk.fresh _ _ _,Sl.nil _ _ _ _,rfl,fun k hk => by simp [Value.ownBlock] at hk,fun k hk => by subst hk; simp⟩,fun k hk => by omega,⟨_,_,hr2.keep hal fun _ _ => no_ _⟩,H1.out.1,fun k hk hR => by have:=hr2.lt k hR; omega,
   (H1.out.2.trans hu2 fun i hi e => by have:=H1.out.1 q hr2.here; omega).alloc _⟩)
 obtain ⟨w3,p,F,hw3,hp,hD⟩:=HW.out
 rw [← hw3,← hp]
 have HD:=hid hD
 clear hw3 hp hD HW HR2 H1
 go_loopw [15] (fun v15 W => ∃ (j:Nat) (b:List Int),j ≤ 8 ∧ v15 = .int .i64 j ∧ Hid (Dc w W F p (b,[],s.2.2) R q (ints (s.1.drop j) ++ (num s.2.1.length ++ evb s.2.1))) ∧ Hid (b.length = 8 ∧ ∀ k,k < j → gi b k = gi s.1 k)) (fun v15 _ => 8 - (intOf v15).toNat)
 case atStart => exact ⟨0,s0.1,by omega,rfl,hid (by rw [List.drop_zero]; exact HD.out),hid ⟨rfl,fun k hk => by omega⟩⟩
 case round =>
  clear HD
  obtain ⟨j,b,hj,rfl,HD,HB⟩:=hrel
  by_cases hlt:j < 8
  · have hb8:=HB.out.1
    obtain ⟨Ar,cr,hrr⟩:=HD.out.rr
    have hst:stN (ints (s.1.drop j) ++ (num s.2.1.length ++ evb s.2.1)) false = (zz (gi s.1 j),ints (s.1.drop (j + 1)) ++ (num s.2.1.length ++ evb s.2.1),false):=by
     rw [ints_drop s.1 j (by have:=HG.out.1.b8; omega),List.append_assoc]
     have hz:=zz_range (gi s.1 j) (HG.out.2.r _ (gi_mem s.1 j (by have:=HG.out.1.b8; omega))).1 (HG.out.2.r _ (gi_mem s.1 j (by have:=HG.out.1.b8; omega))).2
     exact back_num _ _ hz.1 hz.2
    have HRd:=hid fun W A c (h:Rr 223 W R q A c (ints (s.1.drop j) ++ (num s.2.1.length ++ evb s.2.1)) false) => rint_eq h hst (uz_zz (gi s.1 j))
    have HRr:=hid hrr
    have hj2:(j:Int) < 8:=by omega
    have hj0:(0:Int) ≤ (j:Int):=by omega
    clear hst hrr
    go_wp2_with (fail)
    refine wp_region_held_drew (S:=fun W => True) (by kernel_rfl) trivial (fun hS => ?_)
    refine zt 0 hS ?_
    refine zt 1 hS ?_
    refine zt 2 hS ?_
    refine zt 4 hS ?_
    refine zt 5 hS ?_
    refine zk 3 (fun K hK => ?_)
    go_simp
    refine Calls.mono (HRd.out _ _ _ (HRr.out.keep (Upd.refl No wr).drew fun _ _ => no_ _)) ?_
    rintro e w4 ⟨rfl,A4,c4,hr4,hu4⟩
    have hD4:=HD.out.read hr4 (Upd.of_drew hu4)
    have hreg:=hD4.jd.reg hb8 hlt (gi s.1 j)
    have hD5:=hD4.moved hreg.1 hreg.2
    have HD5:=hid hD5
    obtain ⟨v4,hx4⟩:=hD4.jd
    have k0:=hx4.blk.cell j
    rw [jc_get _ _ _ j hlt] at k0
    have f0:=hx4.blk.free j
    go_wp2_with (fail)
    refine hK.out _ _ (trivial) (fun hS => ?_)
    clear hK K
    try simp only [Act.put,zA,zB,zC]
    refine zt 6 hS ?_
    refine zk 7 (fun K hK => ?_)
    go_simp
    refine hK.out _ _ (trivial) (fun hS => ?_)
    clear hK K
    try simp only [Act.put,zA,zB,zC]
    refine wpAnyH_done (by kernel_rfl) ?_ _
    clear hS k0 f0 hx4 hD5 hreg hD4 hr4 hu4
    go_wp2
    go_roundw
    case rel => exact ⟨j + 1,b.set j (gi s.1 j),by omega,by go_num,HD5,hid ⟨by simpa using hb8,fun k hk => by
     rw [gi_set b j k _ hb8 hlt]
     by_cases hjk:j = k
     · rw [if_pos hjk,hjk]
     · rw [if_neg hjk]
       exact HB.out.2 k (by omega)⟩⟩
    case measure => simp [intOf]; omega
  · obtain rfl:j = 8:=by omega
    have HD6:Hid (Dc w wr F p (s.1,[],s.2.2) R q (num s.2.1.length ++ evb s.2.1)):=hid (by
     have h1:=HD.out
     rw [gi_ext HB.out.1 HG.out.1.b8 HB.out.2,List.drop_of_length_le (by have:=HG.out.1.b8; omega)] at h1
     simpa [ints] using h1)
    clear HD HB
    obtain ⟨Ar,cr,hrr⟩:=HD6.out.rr
    have hst:stN (num (s.2.1.length:Int) ++ evb s.2.1) false = ((s.2.1.length:Int),evb s.2.1,false):=back_num _ _ (by omega) (by omega)
    have HRd:=hid (rnumber_eq hrr hst)
    clear hst hrr
    go_wp2_with (fail)
    refine Calls.mono HRd.out ?_
    rintro e w5 ⟨rfl,A5,c5,hr5,hu5⟩
    have HD7:=hid (HD6.out.read hr5 hu5)
    obtain ⟨v7,hx7⟩:=HD7.out.jd
    obtain ⟨_,_,c9⟩:=jbox hx7.blk
    simp only at c9
    have hn16:¬ (16:Int) < (s.2.1.length:Int):=by omega
    have hnv:¬ s.2.2 < (s.2.1.length:Int):=by omega
    clear hr5 hu5 hx7 HRd HD6
    go_wp2_with (fail)
    clear c9 hn16 hnv
    go_loopw [39] (fun v39 W => ∃ (j:Nat) (F':Nat → Prop),j ≤ s.2.1.length ∧ v39 = .int .u64 j ∧ Hid (Dc w W F' p (s.1,s.2.1.take j,s.2.2) R q (evb (s.2.1.drop j)))) (fun v39 _ => s.2.1.length - (intOf v39).toNat)
    case atStart => exact ⟨0,F,by omega,rfl,hid (by rw [List.take_zero,List.drop_zero]; exact HD7.out)⟩
    case round =>
     clear HD7
     obtain ⟨j,F',hj,rfl,HD⟩:=hrel
     by_cases hlt:j < s.2.1.length
     · have hev:=HG.out.1.ev _ (List.getElem_mem hlt)
       have hi:=HG.out.2.e _ (List.getElem_mem hlt)
       have hz:=zz_range s.2.1[j].2 hi.1 hi.2
       have hs1:=back_num s.2.1[j].1 (num (zz s.2.1[j].2) ++ evb (s.2.1.drop (j + 1))) hev.1 (by have:=hev.2; omega)
       have hs2:=back_num (zz s.2.1[j].2) (evb (s.2.1.drop (j + 1))) hz.1 hz.2
       rw [← evb_drop s.2.1 j hlt] at hs1
       have HT:Hid (s.2.1.take (j + 1) = s.2.1.take j ++ [s.2.1[j]] ∧ (s.2.1.take j).length = j):=hid ⟨List.take_succ_eq_append_getElem hlt,by rw [List.length_take]; omega⟩
       have hj2:(j:Int) < (s.2.1.length:Int):=by omega
       have hwj:IntKind.u64.wrap ((j:Int) + 1) = (j:Int) + 1:=by
        rw [show IntKind.u64.wrap ((j:Int) + 1) = ((j:Int) + 1) % 18446744073709551616 from rfl]
        omega
       have HWJ:=hid hwj
       generalize s.2.1[j] = e0 at *
       obtain ⟨r,y⟩:=e0
       simp only at hev hi hz hs1 hs2 HT
       obtain ⟨Ar,cr,hrr⟩:=HD.out.rr
       have HR1:=hid (rnumber_eq hrr hs1)
       have HR2:=hid fun W A c (h:Rr 223 W R q A c (num (zz y) ++ evb (s.2.1.drop (j + 1))) false) => rint_eq h hs2 (uz_zz y)
       have hr0:¬ (8:Int) ≤ r:=by have:=hev.2; simp only at this; omega
       have hwr:IntKind.i64.wrap r = r:=IntWalk.i64_in _ (by have:=hev.1; have:=hev.2; simp only at *; omega)
       clear hs1 hs2 hrr hz hi hwj
       go_wp2_with (fail)
       refine Calls.mono HR1.out ?_
       rintro e w6 ⟨rfl,A6,c6,hr6,hu6⟩
       have HD8:=hid (HD.out.read hr6 hu6)
       have HRr:=hid hr6
       clear hr6 hu6 HR1
       go_wp2_with (fail)
       obtain ⟨v8,hx8⟩:=HD8.out.jd
       obtain ⟨A8,c8,hv8,hc81,hc82⟩:=hx8.row.shape
       subst hv8
       simp only at hc81
       obtain ⟨_,k8,_⟩:=jbox hx8.blk
       simp only at k8
       obtain ⟨es,hes⟩:∃ es,es = s.2.1.take j:=⟨_,rfl⟩
       have hlen:es.length = j:=by rw [hes]; exact HT.out.2
       have HES:=hid hes
       rw [← hes] at hx8 hc81 k8 HT
       clear hes
       have HX8:=hid hx8
       have hle:es.length ≤ 16:=by omega
       have HLn:=hid hlen
       clear hx8 hlen
       refine wp_region_held_drew (S:=fun W => True) (by kernel_rfl) trivial (fun hS => ?_)
       refine zt 0 hS ?_
       refine zt 1 hS ?_
       refine zt 2 hS ?_
       refine zt 3 hS ?_
       refine zt 5 hS ?_
       refine zt 6 hS ?_
       refine zt 7 hS ?_
       refine rg_two 4 8 (by kernel_rfl) ?_ ?_
       focus
        refine zs 4 (fun K hK => ?_)
        go_simp
        refine hK.out _ _ (trivial) (fun hS => ?_)
        clear hK K
        try simp only [Act.put,zA,zB,zC]
        refine zk 8 (fun K hK => ?_)
        go_simp
        refine Calls.mono (HR2.out _ _ _ (HRr.out.keep (Upd.refl No w6).drew fun _ _ => no_ _)) ?_
        rintro e w7 ⟨rfl,A7,c7,hr7,hu7⟩
        have hD9:=HD8.out.read hr7 (Upd.of_drew hu7)
        have hx9:=HX8.out.upd (Upd.of_drew hu7) (fun k hk e => HD8.out.dis k hk (e ▸ HRr.out.here))
        have k9:=(jbox hx9.blk).2.1
        have k9a:∀ o,(w7.alloc o).cell? ⟨p,8,none⟩ = some (.slice A8 es.length c8):=fun o => (jbox (hx9.blk.alloc o)).2.1
        go_wp2_with (fail)
        refine hK.out _ _ (trivial) (fun hS => ?_)
        clear hK K
        try simp only [Act.put,zA,zB,zC]
        refine zt 9 hS ?_
        refine zk 10 (fun K hK => ?_)
        go_simp
        refine hK.out _ _ (trivial) (fun hS => ?_)
        clear hK K
        try simp only [Act.put,zA,zB,zC]
        refine zk 11 (fun K hK => ?_)
        refine wp_ap_sl 0 (.tmp 49) (.tmp 55) 156 160 (.agg #[.int .i64 0,.int .i64 0]) 2 16 (by rfl) Tryz.underlying156 ev_info rfl (by omega) (.slice A8 es.length c8) es.length (ecs es) (some ⟨w7.heap.size,0,none⟩) 1 1 (ecs [(r,y)]) (by rfl) (by rfl) (hx9.row.alloc _) (Rd_lit w7 _ 2 1 (ecs [(r,y)]) rfl) (ecs_one _) (by omega) (by omega) (Nat.zero_le _) ?_
        intro A10 c10 w10 ho10 hg10 hat10
        have b10:=(hx9.blk.alloc _).upd hg10 (fun e => hx9.vp p e rfl)
        have x10:=(jbox b10).2.1
        have xf:=b10.free 8
        refine hK.out _ _ (trivial) (fun hS => ?_)
        clear hK K
        try simp only [Act.put,zA,zB,zC]
        refine zt 12 hS ?_
        refine zt 13 hS ?_
        refine zk 14 (fun K hK => ?_)
        go_simp
        refine hK.out _ _ (trivial) (fun hS => ?_)
        clear hK K
        try simp only [Act.put,zA,zB,zC]
        refine wpAnyH_done (by kernel_rfl) ?_ _
       rotate_left 1
       focus
        refine zs 8 (fun K hK => ?_)
        go_simp
        refine Calls.mono (HR2.out _ _ _ (HRr.out.keep (Upd.refl No w6).drew fun _ _ => no_ _)) ?_
        rintro e w7 ⟨rfl,A7,c7,hr7,hu7⟩
        have hD9:=HD8.out.read hr7 (Upd.of_drew hu7)
        have hx9:=HX8.out.upd (Upd.of_drew hu7) (fun k hk e => HD8.out.dis k hk (e ▸ HRr.out.here))
        have k9:=(jbox hx9.blk).2.1
        have k9a:∀ o,(w7.alloc o).cell? ⟨p,8,none⟩ = some (.slice A8 es.length c8):=fun o => (jbox (hx9.blk.alloc o)).2.1
        go_wp2_with (fail)
        refine hK.out _ _ (trivial) (fun hS => ?_)
        clear hK K
        try simp only [Act.put,zA,zB,zC]
        refine zt 9 hS ?_
        refine rg_two 4 10 (by kernel_rfl) ?_ ?_
        focus
         refine zs 4 (fun K hK => ?_)
         go_simp
         refine hK.out _ _ (trivial) (fun hS => ?_)
         clear hK K
         try simp only [Act.put,zA,zB,zC]
         refine zk 10 (fun K hK => ?_)
         go_simp
         refine hK.out _ _ (trivial) (fun hS => ?_)
         clear hK K
         try simp only [Act.put,zA,zB,zC]
         refine zk 11 (fun K hK => ?_)
         refine wp_ap_sl 0 (.tmp 49) (.tmp 55) 156 160 (.agg #[.int .i64 0,.int .i64 0]) 2 16 (by rfl) Tryz.underlying156 ev_info rfl (by omega) (.slice A8 es.length c8) es.length (ecs es) (some ⟨w7.heap.size,0,none⟩) 1 1 (ecs [(r,y)]) (by rfl) (by rfl) (hx9.row.alloc _) (Rd_lit w7 _ 2 1 (ecs [(r,y)]) rfl) (ecs_one _) (by omega) (by omega) (Nat.zero_le _) ?_
         intro A10 c10 w10 ho10 hg10 hat10
         have b10:=(hx9.blk.alloc _).upd hg10 (fun e => hx9.vp p e rfl)
         have x10:=(jbox b10).2.1
         have xf:=b10.free 8
         refine hK.out _ _ (trivial) (fun hS => ?_)
         clear hK K
         try simp only [Act.put,zA,zB,zC]
         refine zt 12 hS ?_
         refine zt 13 hS ?_
         refine zk 14 (fun K hK => ?_)
         go_simp
         refine hK.out _ _ (trivial) (fun hS => ?_)
         clear hK K
         try simp only [Act.put,zA,zB,zC]
         refine wpAnyH_done (by kernel_rfl) ?_ _
        rotate_left 1
        focus
         refine zs 10 (fun K hK => ?_)
         go_simp
         refine hK.out _ _ (trivial) (fun hS => ?_)
         clear hK K
         try simp only [Act.put,zA,zB,zC]
         refine zk 4 (fun K hK => ?_)
         go_simp
         refine hK.out _ _ (trivial) (fun hS => ?_)
         clear hK K
         try simp only [Act.put,zA,zB,zC]
         refine zk 11 (fun K hK => ?_)
         refine wp_ap_sl 0 (.tmp 49) (.tmp 55) 156 160 (.agg #[.int .i64 0,.int .i64 0]) 2 16 (by rfl) Tryz.underlying156 ev_info rfl (by omega) (.slice A8 es.length c8) es.length (ecs es) (some ⟨w7.heap.size,0,none⟩) 1 1 (ecs [(r,y)]) (by rfl) (by rfl) (hx9.row.alloc _) (Rd_lit w7 _ 2 1 (ecs [(r,y)]) rfl) (ecs_one _) (by omega) (by omega) (Nat.zero_le _) ?_
         intro A10 c10 w10 ho10 hg10 hat10
         have b10:=(hx9.blk.alloc _).upd hg10 (fun e => hx9.vp p e rfl)
         have x10:=(jbox b10).2.1
         have xf:=b10.free 8
         refine hK.out _ _ (trivial) (fun hS => ?_)
         clear hK K
         try simp only [Act.put,zA,zB,zC]
         refine zt 12 hS ?_
         refine zt 13 hS ?_
         refine zk 14 (fun K hK => ?_)
         go_simp
         refine hK.out _ _ (trivial) (fun hS => ?_)
         clear hK K
         try simp only [Act.put,zA,zB,zC]
         refine wpAnyH_done (by kernel_rfl) ?_ _
       all_goals
        have HE:Hid (∃ F2,Dc w (w10.setCell ⟨p,8,none⟩ (.slice A10 (es.length + 1) c10)) F2 p (s.1,es ++ [(r,y)],s.2.2) R q (evb (s.2.1.drop (j + 1)))):=hid (by
         have hpl:=hx9.lt p hx9.fp
         have hne:∀ k,(Value.slice A10 (es.length + 1) c10).ownBlock = some k → k ≠ p:=fun k hk => (hat10 k hk).elim (fun h => hx9.vp k h) fun h => by simp at h; omega
         obtain ⟨F2,h1,h2⟩:=hx9.fin (s':=(s.1,es ++ [(r,y)],s.2.2)) ((((Upd.refl F' w7).alloc _).next (hg10.mono fun k _ h => hx9.fv k h)).set (p:=⟨p,8,none⟩) (.inl hx9.fp) _) (jput8 b10 (.slice A10 (es.length + 1) c10)) (by
          have:=ho10.upd ((Upd.refl (fun k => k = p) _).set1 8 (.slice A10 (es.length + 1) c10)) fun k hk e => hne k hk e
          simpa [ecs_append] using this) (fun k hk => (hat10 k hk).imp (hx9.fv k) fun h => by simp at h; omega)
         exact ⟨F2,hD9.moved h1 h2⟩)
        clear hx9 hD9 hr7 hu7 k9 k9a ho10 hg10 hat10 b10 x10 xf hS k8
        generalize w10.setCell ⟨p,8,none⟩ (.slice A10 (es.length + 1) c10) = w11 at *
        obtain ⟨F2,hE2⟩:=HE.out
        have HE2:=hid hE2
        clear hE2 HE
        go_wp2
        go_roundw
        case rel => exact ⟨j + 1,F2,by omega,by first | go_num | (rw [HWJ.out]; go_num),hid (by rw [HT.out.1]; exact HE2.out)⟩
        case measure =>
         try rw [HWJ.out]
         simp [intOf]; omega
     · obtain rfl:j = s.2.1.length:=by omega
       have HDz:Hid (Dc w wr F' p s R q []):=hid (by
        have h:=HD.out
        rw [List.take_length,List.drop_length] at h
        exact h)
       obtain ⟨Ar,cr,hrr⟩:=HDz.out.rr
       have HEnd:=hid (end_ q 0 cr Ar false wr hrr.blk)
       clear HD hrr
       go_wp2_with (fail)
       refine Calls.mono HEnd.out ?_
       rintro e w12 ⟨rfl,rfl⟩
       go_wp2
       go_ret2
       exact .of ⟨p,F',rfl,HDz.out.jd,HDz.out.own,HDz.out.upd⟩
end Go.Proofs.YtclfmpieapbfnaaGreatDoor.Jn
end
