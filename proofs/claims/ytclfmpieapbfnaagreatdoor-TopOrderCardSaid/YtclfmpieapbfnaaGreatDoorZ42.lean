/- Part 42: lemmas, no conditions. -/
import Derived.Test.YtclfmpieapbfnaaGreatDoorZ41
import Derived.Test.YtclfmpieapbfnaaGreatDoorZ39
import Derived.Test.YtclfmpieapbfnaaGreatDoorZ40
import Derived.Test.YtclfmpieapbfnaaGreatDoorZ21
import Derived.Test.YtclfmpieapbfnaaGreatDoorZ30
import Derived.Test.YtclfmpieapbfnaaGreatDoorZ22
set_option maxHeartbeats 8000000
namespace Go.Proofs.YtclfmpieapbfnaaGreatDoor
set_option linter.unusedVariables false
set_option linter.unusedSimpArgs false
section
namespace Ac
open Go.RowKit B Cm Cw Cr Lt Lc Pk Ou Ib
structure Br (W:World) (F:Nat → Prop) (v:Value) (l:List Int):Prop where
 ex:∃ A c,v = .slice A l.length c ∧ l.length ≤ c ∧ c ≤ 9223372036854775807 ∧ Rn W .u8 A l ∧ ∀ ad,0 < l.length → A = some ad → ¬ F ad.block
theorem Br.moved {W W':World} {F F':Nat → Prop} {v:Value} {l:List Int} (h:Br W F v l) (hm:Mv F F' W W'):Br W' F' v l:=by
 obtain ⟨A,c,h1,h2,h3,h4,h5⟩:=h.ex
 refine ⟨A,c,h1,h2,h3,Rd.upd0 h4 (by omega) hm.upd fun h0 ad e => h5 ad h0 e,fun ad h0 e hf => (hm.sub _ hf).elim (h5 ad h0 e) fun hs => ?_⟩
 obtain ⟨ad',e',hl⟩:=Rd.lt h4 h0 (by omega)
 rw [e] at e'
 injection e' with e'
 subst e'
 omega
theorem Br.quiet {W W':World} {F:Nat → Prop} {v:Value} {l:List Int} (h:Br W F v l) (hu:Upd No W W'):Br W' F v l:=by
 obtain ⟨A,c,h1,h2,h3,h4,h5⟩:=h.ex
 exact ⟨A,c,h1,h2,h3,Rd.upd0 h4 (by omega) hu fun _ _ _ => no_ _,h5⟩
theorem Br.of {W W':World} {F:Nat → Prop} {l:List Int} {A:Option Addr} {c:Nat} (hF:∀ k,F k → k < W.heap.size) (h1:l.length ≤ c) (h2:c ≤ 9223372036854775807) (h3:Rn W' .u8 A l) (h4:∀ ad,A = some ad → W.heap.size ≤ ad.block):Br W' F (.slice A l.length c) l:=
 ⟨A,c,rfl,h1,h2,h3,fun ad _ e hf => by have:=h4 ad e; have:=hF _ hf; omega⟩
def EaOut (w:World) (l:List Int) (e:Ending) (w':World):Prop:=∃ A c,e = .returned (.tuple #[.slice A l.length c,.int .i64 0]) ∧ l.length ≤ c ∧ c ≤ 9223372036854775807 ∧ Rn w' .u8 A l ∧ Upd No w w' ∧ ∀ ad,A = some ad → w.heap.size ≤ ad.block
theorem EaOut.of {w:World} {l:List Int} {e:Ending} {w':World} (h:∃ A c,e = .returned (.tuple #[.slice A l.length c,.int .i64 0]) ∧ l.length ≤ c ∧ c ≤ 9223372036854775807 ∧ Rn w' .u8 A l ∧ Upd No w w' ∧ ∀ ad,A = some ad → w.heap.size ≤ ad.block):EaOut w l e w':=h
theorem lt4 {P:Nat → Prop} (h0:P 0) (h1:P 1) (h2:P 2) (h3:P 3):∀ i,i < 4 → P i:=by
 intro i hi
 match i,hi with
 | 0,_ => exact h0
 | 1,_ => exact h1
 | 2,_ => exact h2
 | 3,_ => exact h3
def four (a:Am):List (List Int):=[Jn.encJ a.jn,packL a.inb,encO a.out,packL a.poi]
def v4 (v0 v1 v2 v3:Value):List Value:=[v0,v1,v2,v3]
structure Fo (W:World) (F:Nat → Prop) (g:Nat) (vs:List Value) (ls:List (List Int)):Prop where
 be:Be W F 22 1 (.slice (some ⟨g,0,none⟩) 4 4) 4 vs
 br:∀ i,i < 4 → ∃ v l,vs[i]? = some v ∧ ls[i]? = some l ∧ Br W F v l
theorem Fo.moved {W W':World} {F F':Nat → Prop} {g:Nat} {vs:List Value} {ls:List (List Int)} (h:Fo W F g vs ls) (hm:Mv F F' W W'):Fo W' F' g vs ls:=
 ⟨h.be.moved hm,fun i hi => by
  obtain ⟨v,l,h1,h2,h3⟩:=h.br i hi
  exact ⟨v,l,h1,h2,h3.moved hm⟩⟩
set_option maxRecDepth 100000 in
theorem encode {w:World} {F:Nat → Prop} {p:Nat} {a:Am} {B:Int} (h:At w F p a) (hok:a.ok B) (hB:B ≤ 18446744073709551615) :
 Calls Tryz.prog 114 #[.pointer (some ⟨p,0,none⟩)] w fun e w' => EaOut w (encA a) e w':=by
 have HS:=hid (sound h hok)
 obtain ⟨pj,pi,po,n,v,h⟩:=h
 have HAll:Hid (∀ W,Upd No w W → Aw W F p a pj pi po n v):=hid fun W hu => h.quiet hu
 obtain ⟨A,c,rfl,hc1,hc2⟩:=h.shape
 simp only [maxLen] at hc2
 have HPk:Hid (∀ W,Upd No w W → Calls Tryz.prog 183 #[.slice A a.poi.length c] W fun e w' => PkOut W a.poi e w'):=hid fun W hu => by
  obtain ⟨_,hr,_⟩:=(HAll.out W hu).ro
  obtain ⟨ps,A',c',hps,hv,hrd,hin⟩:=Iw.row_rd hr
  simp only [Value.slice.injEq] at hv
  obtain ⟨rfl,hl,rfl⟩:=hv
  have:=pack A c ps W hrd hin (fun y hy => Iw.sm_of (hok.poi.2 y.1 (by rw [← hps]; exact List.mem_map_of_mem hy))) (by have:=hok.poi.1; omega)
  rw [hps,← hl] at this
  exact this
 have hpc:packC a.poi = 0:=by
  unfold packC
  rw [if_pos (List.all_eq_true.2 fun x hx => (hok.poi.2 x hx).1)]
 have HJ:Hid (∀ W,Upd No w W → Calls Tryz.prog 184 #[.pointer (some ⟨pj,0,none⟩)] W fun e w' => Jn.EncOut W (Jn.encJ a.jn) e w'):=hid fun W hu => by
  obtain ⟨_,hj,_⟩:=(HAll.out W hu).jn
  exact Jn.encode hj hok.jo hok.jr
 have HI:Hid (∀ W,Upd No w W → Calls Tryz.prog 185 #[.pointer (some ⟨pi,0,none⟩)] W fun e w' => Iw.EnOut W (packL a.inb) e w'):=hid fun W hu => by
  obtain ⟨_,hi,_⟩:=(HAll.out W hu).ib
  exact Iw.encode pi a.inb _ W hi hok.inb.2 hok.inb.1
 have HO:Hid (∀ W,Upd No w W → Calls Tryz.prog 129 #[.pointer (some ⟨po,0,none⟩)] W fun e w' => Nd.EnOut W (encO a.out) e w'):=hid fun W hu => by
  obtain ⟨_,ho,_⟩:=(HAll.out W hu).ot
  exact Ou.encode ho hok.out hB (by have:=h.few; omega)
 have HC:Hid (∀ W,Upd No w W → W.cell? ⟨p,0,none⟩ = some (.pointer (some ⟨pj,0,none⟩)) ∧ W.cell? ⟨p,1,none⟩ = some (.pointer (some ⟨pi,0,none⟩)) ∧ W.cell? ⟨p,2,none⟩ = some (.pointer (some ⟨po,0,none⟩)) ∧ W.cell? ⟨p,3,none⟩ = some (.int .i64 a.tries) ∧ W.cell? ⟨p,4,none⟩ = some (.slice A a.poi.length c)):=hid fun W hu => (HAll.out W hu).cells
 have HE:Hid (encA a = num a.tries ++ (four a).flatMap txl):=hid (by simp [encA,four])
 have HSz:Hid ((∀ j,(((four a).take j).flatMap txl).length ≤ 11700) ∧ ∀ l ∈ four a,l.length ≤ 9300 ∧ Byte l):=hid (by
  have h6:=encJ_small hok
  have h7:=pack_le hok.inb
  have h8:=encO_le hok.out
  have h9:=pack_le hok.poi
  have t6:=txl_le (Jn.encJ a.jn)
  have t7:=txl_le (packL a.inb)
  have t8:=txl_le (encO a.out)
  have t9:=txl_le (packL a.poi)
  refine ⟨fun j => ?_,fun l hl => ?_⟩
  · match j with
    | 0 => simp
    | 1 => simp [four]; omega
    | 2 => simp [four]; omega
    | 3 => simp [four]; omega
    | j + 4 =>
     rw [List.take_of_length_le (by simp [four])]
     simp [four]
     omega
  · simp only [four,List.mem_cons,List.not_mem_nil,or_false] at hl
    rcases hl with rfl | rfl | rfl | rfl
    · exact ⟨by omega,Jn.encJ_byte hok.jo hok.jr⟩
    · exact ⟨by omega,pack_byte hok.inb⟩
    · exact ⟨by omega,encO_byte hok.out⟩
    · exact ⟨by omega,pack_byte hok.poi⟩)
 have HTl:=hid (encA_le hok)
 have htr:=hok.tr.1
 have hw1:=wr64 a.tries (by omega)
 have hp8:=hok.poi.1
 clear h hok
 go_enter Tryz.func114,Tryz.ntmps114
 go_wp2_with (fail)
 refine HS.out.mono ?_
 rintro e w0 ⟨rfl,hu0⟩
 have HU0:=hid hu0
 obtain ⟨c0,c1,c2,c3,c4⟩:=HC.out w0 hu0
 clear hu0 HS
 go_wp2_with (fail)
 refine Calls.mono (HPk.out w0 HU0.out) ?_
 rintro e w1 ⟨Ap,cp,rfl,hp1,hp2,hpr,hpu,hpf⟩
 rw [hpc]
 have HU1:=hid (HU0.out.next hpu)
 have HPr:=hid (And.intro hp1 (And.intro hp2 (And.intro hpr hpf)))
 clear hp1 hp2 hpr hpu hpf HPk HU0 c0 c1 c2 c3 c4 hpc
 go_wp2_with (fail)
 refine Calls.mono (newWriter w1) ?_
 rintro e w2 ⟨rfl,rfl⟩
 have HW:Hid (∃ w2 q F2,w2 = w1.alloc (.cells #[.slice none 0 0] 276) ∧ q = w1.heap.size ∧ Nd.Wo w w2 F2 q [] ∧ Br w2 F2 (.slice Ap (packL a.poi).length cp) (packL a.poi)):=hid ⟨_,_,_,rfl,rfl,⟨Wr.new w1,fun k hk => by have:=HU1.out.size; omega,HU1.out.alloc _⟩,⟨Ap,cp,rfl,HPr.out.1,HPr.out.2.1,Rd.upd0 HPr.out.2.2.1 (by omega) ((Upd.refl No w1).alloc _) fun _ _ _ => no_ _,fun ad h0 e hf => by
  obtain ⟨ad',e',hl⟩:=Rd.lt HPr.out.2.2.1 h0 (by omega)
  rw [e] at e'
  injection e' with e'
  subst e'
  omega⟩⟩
 obtain ⟨w2,q,F2,hw2,hq,hO2,hB2⟩:=HW.out
 rw [← hw2,← hq]
 have HO2:=hid hO2
 have HB2:=hid hB2
 clear hw2 hq hO2 hB2 HW HPr
 obtain ⟨c0,c1,c2,c3,c4⟩:=HC.out w2 HO2.out.upd
 go_wp2_with (fail)
 try rw [hw1]
 refine Calls.mono (number q [] a.tries F2 w2 HO2.out.wr (by omega) (by omega) (by simp)) ?_
 rintro e w3 ⟨rfl,F3,hw3,hm3⟩
 have HO3:=hid (HO2.out.moved hw3 hm3)
 have HB3:=hid (HB2.out.moved hm3)
 rw [List.nil_append] at HO3
 clear hw3 hm3 HO2 HB2 c0 c1 c2 c3 c4
 have HQ:Hid (∀ W,Upd No w3 W → Upd No w W ∧ ∀ k,F3 k → k < W.heap.size):=hid fun W hu => ⟨HO3.out.upd.next hu,fun k hk => Nat.lt_of_lt_of_le (HO3.out.wr.lt k hk) hu.size⟩
 go_wp2_with (fail)
 refine wp_region_held_drew (S:=fun W => Upd No w3 W) (by kernel_rfl) (Upd.refl No w3).drew (fun hS => ?_)
 refine zt 0 hS ?_
 refine zt 1 hS ?_
 refine zt 2 hS ?_
 refine zh 3 hS (fun w hw => (HC.out w (HQ.out w hw).1).1) ?_
 refine zt 5 hS ?_
 refine zt 6 hS ?_
 refine zt 7 hS ?_
 refine zh 8 hS (fun w hw => (HC.out w (HQ.out w hw).1).2.1) ?_
 refine zt 10 hS ?_
 refine zt 11 hS ?_
 refine zt 12 hS ?_
 refine zh 13 hS (fun w hw => (HC.out w (HQ.out w hw).1).2.2.1) ?_
 refine zt 15 hS ?_
 refine zt 18 hS ?_
 refine zk 4 (fun K hK => ?_)
 go_simp
 refine Calls.mono (HJ.out _ (HQ.out _ hS).1) ?_
 rintro e wa ⟨Aa,ca,rfl,hra,hua,hca1,hca2,hfa⟩
 have HBa:=hid (Br.of (HQ.out _ hS).2 hca1 hca2 hra hfa)
 go_wp2_with (fail)
 refine hK.out _ _ ((hS.next hua)) (fun hS => ?_)
 clear hK K
 try simp only [Act.put,zA,zB,zC]
 refine zk 9 (fun K hK => ?_)
 go_simp
 refine Calls.mono (HI.out _ (HQ.out _ hS).1) ?_
 rintro e wb ⟨Ab,cb,rfl,hcb1,hcb2,hrb,hub,hfb⟩
 have HBb:=hid (Br.of (HQ.out _ hS).2 hcb1 hcb2 hrb hfb)
 go_wp2_with (fail)
 refine hK.out _ _ ((hS.next hub)) (fun hS => ?_)
 clear hK K
 try simp only [Act.put,zA,zB,zC]
 refine zk 14 (fun K hK => ?_)
 go_simp
 refine Calls.mono (HO.out _ (HQ.out _ hS).1) ?_
 rintro e wc ⟨Ac,cc,rfl,hcc1,hcc2,hrc,huc,hfc⟩
 have HBc:=hid (Br.of (HQ.out _ hS).2 hcc1 hcc2 hrc hfc)
 go_wp2_with (fail)
 refine hK.out _ _ ((hS.next huc)) (fun hS => ?_)
 clear hK K
 try simp only [Act.put,zA,zB,zC]
 refine zk 16 (fun K hK => ?_)
 go_simp
 refine hK.out _ _ ((hS.alloc _)) (fun hS => ?_)
 clear hK K
 try simp only [Act.put,zA,zB,zC]
 refine zt 17 hS ?_
 refine wpAnyH_done (by kernel_rfl) ?_ _
 have HW:Hid (∃ wd g,wd = wc.alloc (.cells #[.slice Aa (Jn.encJ a.jn).length ca,.slice Ab (packL a.inb).length cb,.slice Ac (encO a.out).length cc,.slice Ap (packL a.poi).length cp] 22) ∧ g = wc.heap.size ∧ Nd.Wo w wd F3 q (num a.tries) ∧
  Fo wd F3 g (v4 (.slice Aa (Jn.encJ a.jn).length ca) (.slice Ab (packL a.inb).length cb) (.slice Ac (encO a.out).length cc) (.slice Ap (packL a.poi).length cp)) (four a)):=hid (by
  have hal:=(Upd.refl No wc).alloc (.cells #[.slice Aa (Jn.encJ a.jn).length ca,.slice Ab (packL a.inb).length cb,.slice Ac (encO a.out).length cc,.slice Ap (packL a.poi).length cp] 22)
  refine ⟨_,_,rfl,rfl,HO3.out.quiet hS,⟨⟨rfl,.inr ⟨wc.heap.size,4,#[.slice Aa (Jn.encJ a.jn).length ca,.slice Ab (packL a.inb).length cb,.slice Ac (encO a.out).length cc,.slice Ap (packL a.poi).length cp],rfl,Nat.zero_le _,Blk.fresh _ _ _,Nat.le_refl _,by simp [maxLen],by simp,by simp [v4]⟩⟩,fun k hk hf => ?_⟩,?_⟩
  · simp only [Value.ownBlock,Option.some.injEq] at hk
    have h1:=HO3.out.wr.lt k hf
    have h2:w3.heap.size ≤ wa.heap.size:=hua.size
    have h3:=hub.size
    have h4:=huc.size
    omega
  · refine lt4 ⟨_,_,rfl,rfl,?_⟩ ⟨_,_,rfl,rfl,?_⟩ ⟨_,_,rfl,rfl,?_⟩ ⟨_,_,rfl,rfl,?_⟩
    · exact ((HBa.out.quiet hub).quiet huc).quiet hal
    · exact (HBb.out.quiet huc).quiet hal
    · exact HBc.out.quiet hal
    · exact HB3.out.quiet hS)
 obtain ⟨wd,g,hwd,hg,hO4,hF4⟩:=HW.out
 rw [← hwd]
 have HO4:=hid hO4
 have HF4:=hid hF4
 clear hwd hO4 hF4 HW HBa HBb HBc HB3 HO3 HQ HJ HI HO HC hra hua hca1 hca2 hfa hrb hub hcb1 hcb2 hfb hrc huc hcc1 hcc2 hfc hS
 try rw [← hg]
 clear hg
 generalize v4 (.slice Aa (Jn.encJ a.jn).length ca) (.slice Ab (packL a.inb).length cb) (.slice Ac (encO a.out).length cc) (.slice Ap (packL a.poi).length cp) = vs at *
 go_wp2_with (fail)
 go_loopw [46] (fun v46 W => ∃ (j:Nat) (F':Nat → Prop) (cs:List Int),j ≤ 4 ∧ v46 = .int .i64 j ∧ Hid (cs = num a.tries ++ ((four a).take j).flatMap txl) ∧ Hid (Nd.Wo w W F' q cs ∧ Fo W F' g vs (four a))) (fun v46 _ => 4 - (intOf v46).toNat)
 case atStart => exact ⟨0,F3,_,by omega,rfl,hid (by simp),hid ⟨HO4.out,HF4.out⟩⟩
 case round =>
  clear HO4 HF4
  obtain ⟨j,F',cs,hj,rfl,HCs,HI⟩:=hrel
  have hcl:cs.length ≤ 11800:=by
   have h1:=HSz.out.1 j
   have h2:=(num_length (a.tries:Int)).2
   rw [HCs.out,List.length_append]
   omega
  by_cases hlt:j < 4
  · obtain ⟨v,l,hv,hl,hbr⟩:=HI.out.2.br j hlt
    obtain ⟨ad,u,hA5,hu,hcell⟩:=Rd.at_ (Rd.of_own HI.out.2.be.1) hlt
    injection hA5 with hA5
    subst hA5
    rw [add_plain] at hcell
    rw [hv] at hu
    injection hu with hu
    subst hu
    obtain ⟨Al,cl,rfl,hcl1,hcl2,hrl,_⟩:=hbr.ex
    have hcv:=conv_str (P:=Tryz.prog) (l:=l) hrl 22 9 5 cl Tryz.underlying22 Tryz.underlying5 Tryz.underlying9
    have hlm:=HSz.out.2 l (List.mem_of_getElem? hl)
    have hst:(strOfNums l).size = l.length:=strOfNums_size _
    have hsb:sb (strOfNums l) = l:=Nd.sb_strOf _ hlm.2
    have HSb:=hid (And.intro hst hsb)
    have HT:Hid (((four a).take (j + 1)).flatMap txl = ((four a).take j).flatMap txl ++ txl l):=hid (by
     rw [List.take_add_one,hl]
     simp)
    have hl93:=hlm.1
    obtain ⟨st,hst2⟩:∃ st,st = strOfNums l:=⟨_,rfl⟩
    rw [← hst2] at hcv HSb hst
    have hj1:(0:Int) ≤ (j:Int):=by omega
    have hj2:(j:Int) < 4:=by omega
    have HTx:=hid (text_ q cs st F' wr HI.out.1.wr (by omega))
    clear hv hl hbr hrl hcl1 hcl2 hsb hst2 hlm
    go_wp2_with (fail)
    refine Calls.mono HTx.out ?_
    rintro e w8 ⟨rfl,F8,hw8,hm8⟩
    have HI8:=hid (And.intro (HI.out.1.moved hw8 hm8) (HI.out.2.moved hm8))
    have HD:=hid (show cs ++ num st.size ++ sb st = num a.tries ++ ((four a).take (j + 1)).flatMap txl by
     rw [HCs.out,HT.out,HSb.out.1,HSb.out.2]
     simp [txl])
    generalize cs ++ num st.size ++ sb st = c8 at *
    clear hw8 hm8 HI hcv hst HTx hcell
    go_wp2
    go_roundw
    case rel => exact ⟨j + 1,F8,c8,by omega,by go_num,HD,HI8⟩
    case measure => simp [intOf]; omega
  · obtain rfl:j = 4:=by omega
    have e:cs = encA a:=by
     rw [HCs.out,HE.out,List.take_of_length_le (by simp [four])]
    subst e
    have HBy:=hid (bytes_ q (encA a) F' wr HI.out.1.wr (by omega))
    have HO:=hid HI.out.1
    clear HCs HI
    go_wp2_with (fail)
    refine Calls.mono HBy.out ?_
    rintro e w10 ⟨v,rfl,ho10,hb10⟩
    obtain ⟨A10,c10,rfl,hc10,hcm⟩:=own_shape ho10
    have HE2:Hid ((encA a).length ≤ c10 ∧ c10 ≤ 9223372036854775807 ∧ Rn w10 .u8 A10 (encA a) ∧ Upd No w w10 ∧ ∀ ad,A10 = some ad → w.heap.size ≤ ad.block):=hid ⟨hc10,by simpa [maxLen] using hcm,Rd.of_own ho10,HO.out.upd.next (Upd.of_below No hb10),fun ad e => by have h1:=(ho10.lt ad.block (by simp [Value.ownBlock,e])).1; have h2:=HO.out.upd.size; omega⟩
    clear ho10 hb10 hc10 hcm HBy
    go_wp2
    go_ret2
    exact .of ⟨A10,c10,rfl,HE2.out⟩
end Ac
end
section
namespace Bo
open Go.RowKit B Cm Cw Cr Ou
open Nd (Wo EnOut box_moved)
theorem encL_take (xs:List Cg) {j:Nat} (hj:j < xs.length):encL ((xs.take (j + 1)).map bare) = encL ((xs.take j).map bare) ++ encC (bare xs[j]):=by
 unfold encL
 rw [List.take_succ_eq_append_getElem hj,List.map_append,List.flatMap_append]
 simp only [List.map_cons,List.map_nil,List.flatMap_cons,List.flatMap_nil,List.append_nil]
theorem sizeC_take (xs:List Cg) (j:Nat):sizeC ((xs.take j).map bare) ≤ sizeC (xs.map bare):=by
 induction xs generalizing j with
 | nil => simp [sizeC]
 | cons x r ih =>
  cases j with
  | zero => simp [sizeC]
  | succ j =>
   have:=ih j
   simp only [List.take_succ_cons,List.map_cons,sizeC,List.sum_cons] at *
   omega
theorem sizeC_mem (xs:List Cg) {x:Cg} (h:x ∈ xs):x.1.size + x.2.1.length ≤ sizeC (xs.map bare):=by
 induction xs with
 | nil => cases h
 | cons y r ih =>
  simp only [List.map_cons,sizeC,List.sum_cons,bare]
  rcases List.mem_cons.1 h with h | h
  · subst h; omega
  · have:=ih h
    simp only [sizeC] at this
    have e:(bare:Cg → _) = fun x => (x.1,x.2.1,x.2.2.1):=rfl
    omega
set_option maxRecDepth 100000 in
theorem encode {w:World} {G:Nat → Prop} {A:Option Addr} {c:Nat} {xs:List Cg} (h:Cl w G (.slice A xs.length c) xs) (hg:Gd xs) (hs:sizeC (xs.map bare) ≤ 40000) :
 Calls Tryz.prog 108 #[.slice A xs.length c] w fun e w' => EnOut w (encL (xs.map bare)) e w':=by
 have HC:=hid h
 have HG:=hid hg
 have hx100:=hg.few
 have HSz:Hid ((∀ j,(encL ((xs.take j).map bare)).length ≤ 42000) ∧ ∀ x ∈ xs,x.1.size ≤ 40000 ∧ x.2.1.length ≤ 40000):=hid ⟨fun j => by
  have h1:=encL_le ((xs.take j).map bare)
  have h2:=sizeC_take xs j
  rw [List.length_map,List.length_take] at h1
  omega,fun x hx => by have:=sizeC_mem xs hx; omega⟩
 clear h hg
 go_enter Tryz.func108,Tryz.ntmps108
 go_wp2_with (fail)
 refine Calls.mono (newWriter w) ?_
 rintro e w1 ⟨rfl,rfl⟩
 have HW:Hid (∃ w1 q F1,w1 = w.alloc (.cells #[.slice none 0 0] 276) ∧ q = w.heap.size ∧ Wo w w1 F1 q []):=hid ⟨_,_,_,rfl,rfl,⟨Wr.new w,fun k hk => by omega,(Upd.refl _ _).alloc _⟩⟩
 obtain ⟨w1,q,F1,hw1,hq,hO1⟩:=HW.out
 rw [← hw1,← hq]
 have HO1:=hid hO1
 clear hw1 hq hO1 HW
 go_wp2_with (fail)
 go_loopw [9] (fun v9 W => ∃ (j:Nat) (F':Nat → Prop) (cs:List Int),j ≤ xs.length ∧ v9 = .int .i64 j ∧ Hid (cs = encL ((xs.take j).map bare)) ∧ Hid (Wo w W F' q cs)) (fun v9 _ => xs.length - (intOf v9).toNat)
 case atStart => exact ⟨0,F1,_,by omega,rfl,hid rfl,by simpa [encL] using HO1⟩
 case round =>
  clear HO1
  obtain ⟨j,F',cs,hj,rfl,HCs,HO⟩:=hrel
  have hcl:cs.length ≤ 42000:=by rw [HCs.out]; exact HSz.out.1 j
  by_cases hlt:j < xs.length
  · have hv0:Vb w G xs[j].2.2.2 xs[j].2.1:=by
     obtain ⟨_,_,_,_,_,h⟩:=HC.out.get hlt
     exact h
    obtain ⟨ad,rfl,x0,x1,x2,_⟩:=(HC.out.quiet HO.out.upd).get hlt
    have hm:=HSz.out.2 _ (List.getElem_mem hlt)
    have HT:=hid (encL_take xs hlt)
    generalize xs[j] = y at *
    obtain ⟨k,l,gn,v⟩:=y
    simp only at x0 x1 x2 hv0 hm HT
    obtain ⟨Al,cl,rfl,hcl1,hcl2,hrl,hG,hbl⟩:=hv0
    have HRl:=hid (And.intro (fun (W:World) (hu:Upd No w W) => (show Rn W .u8 Al l from Rd.upd hrl (by omega) hu fun _ _ => no_ _)) hbl)
    have HBx:Hid (∃ W5 p5,W5 = wr.alloc (.cells #[.string k,.slice Al l.length cl,.bool gn] 128) ∧ p5 = wr.heap.size ∧ Blk W5 p5 128 #[.string k,.slice Al l.length cl,.bool gn] ∧ Wo w W5 F' q cs ∧ ¬ F' p5):=hid ⟨_,_,rfl,rfl,Blk.fresh _ _ _,HO.out.box _,fun hf => by have:=HO.out.wr.lt _ hf; omega⟩
    have hj1:(0:Int) ≤ (j:Int):=by omega
    have hj2:(j:Int) < (xs.length:Int):=by omega
    obtain ⟨W5,p5,hW5,hp5,hB5,hO5,hn5⟩:=HBx.out
    have HN1:=hid (text_ q cs k F' W5 hO5.wr (by omega))
    have HX5:=hid (And.intro hB5 (And.intro hO5 hn5))
    clear hB5 hO5 hn5 HBx hrl hG hbl
    go_wp2_with (fail)
    rw [← hW5]
    try rw [← hp5]
    clear hW5 hp5 x0 x1 x2 HO
    refine Calls.mono HN1.out ?_
    rintro e w6 ⟨rfl,F6,hw6,hm6⟩
    have HB6:=hid (box_moved ⟨HX5.out.1,HX5.out.2.2⟩ hm6)
    have HO6:=hid (HX5.out.2.1.moved hw6 hm6)
    obtain ⟨y0,y1,y2⟩:=b3 HB6.out.1
    obtain ⟨c6,hc6⟩:∃ c6,c6 = cs ++ num k.size ++ sb k:=⟨_,rfl⟩
    have hl6:c6.length ≤ 83000:=by
     rw [hc6]
     have h1:=(num_length (k.size:Int)).2
     have h2:=sb_length k
     simp only [List.length_append]
     omega
    rw [← hc6] at HO6
    have HC6:=hid hc6
    clear hw6 hm6 HN1 hc6 HX5
    rcases gn with _ | _
    case' true =>
     have HN2:=hid (number q c6 0 F6 w6 HO6.out.wr (by omega) (by omega) (by omega))
     go_wp2_with (fail)
     refine Calls.mono HN2.out ?_
     rintro e w7 ⟨rfl,F7,hw7,hm7⟩
     have HO7:=hid (HO6.out.moved hw7 hm7)
     have HD:=hid (show c6 ++ num 0 = encL ((xs.take (j + 1)).map bare) by
      rw [HC6.out,HCs.out,HT.out]
      have e0:num 0 = [0]:=rfl
      simp [encC,bare,txt,e0])
     generalize c6 ++ num 0 = c8 at *
     clear hw7 hm7 HN2 HO6 HB6 y0 y1 y2
     go_wp2
     go_roundw
     case rel => exact ⟨j + 1,F7,c8,by omega,by go_num,HD,HO7⟩
     case measure => simp [intOf]; omega
    case' false =>
     have HN2:=hid (number q c6 1 F6 w6 HO6.out.wr (by omega) (by omega) (by omega))
     go_wp2_with (fail)
     refine Calls.mono HN2.out ?_
     rintro e w7 ⟨rfl,F7,hw7,hm7⟩
     have HO7:=hid (HO6.out.moved hw7 hm7)
     have HB7:=hid (box_moved HB6.out hm7)
     clear y0 y1 y2
     obtain ⟨y0,y1,y2⟩:=b3 HB7.out.1
     have hcv:=conv_str (P:=Tryz.prog) (l:=l) (HRl.out.1 w7 HO7.out.upd) 22 9 5 cl Tryz.underlying22 Tryz.underlying5 Tryz.underlying9
     have hst:(strOfNums l).size = l.length:=strOfNums_size _
     have hsb:sb (strOfNums l) = l:=Nd.sb_strOf _ HRl.out.2
     have HSb:=hid (And.intro hst hsb)
     obtain ⟨st,hst2⟩:∃ st,st = strOfNums l:=⟨_,rfl⟩
     rw [← hst2] at hcv HSb hst
     obtain ⟨c7,hc7⟩:∃ c7,c7 = c6 ++ num 1:=⟨_,rfl⟩
     have hl7:c7.length ≤ 83100:=by
      rw [hc7]
      have h1:=(num_length 1).2
      simp only [List.length_append]
      omega
     rw [← hc7] at HO7
     have HC7:=hid hc7
     have HN3:=hid (text_ q c7 st F7 w7 HO7.out.wr (by omega))
     clear hw7 hm7 HN2 HO6 HB6 hc7 hsb hst2 HRl
     go_wp2_with (fail)
     refine Calls.mono HN3.out ?_
     rintro e w8 ⟨rfl,F8,hw8,hm8⟩
     have HO8:=hid (HO7.out.moved hw8 hm8)
     have HD:=hid (show c7 ++ num st.size ++ sb st = encL ((xs.take (j + 1)).map bare) by
      rw [HC7.out,HC6.out,HCs.out,HT.out,HSb.out.1,HSb.out.2]
      have e1:num 1 = [1]:=rfl
      simp [encC,bare,txt,txl,e1])
     generalize c7 ++ num st.size ++ sb st = c8 at *
     clear hw8 hm8 HN3 HO7 HB7 y0 y1 y2 hcv hst
     go_wp2
     go_roundw
     case rel => exact ⟨j + 1,F8,c8,by omega,by go_num,HD,HO8⟩
     case measure => simp [intOf]; omega
  · obtain rfl:j = xs.length:=by omega
    rw [List.take_length] at HCs
    subst_eqs
    have e:cs = encL (xs.map bare):=HCs.out
    subst e
    have HBy:=hid (bytes_ q (encL (xs.map bare)) F' wr HO.out.wr (by omega))
    clear HCs
    go_wp2_with (fail)
    refine Calls.mono HBy.out ?_
    rintro e w10 ⟨v,rfl,ho10,hb10⟩
    obtain ⟨A10,c10,rfl,hc10,hcm⟩:=own_shape ho10
    have HE2:Hid ((encL (xs.map bare)).length ≤ c10 ∧ c10 ≤ 9223372036854775807 ∧ Rn w10 .u8 A10 (encL (xs.map bare)) ∧ Upd No w w10 ∧ ∀ ad,A10 = some ad → w.heap.size ≤ ad.block):=hid ⟨hc10,by simpa [maxLen] using hcm,Rd.of_own ho10,HO.out.upd.next (Upd.of_below No hb10),fun ad e => by have h1:=(ho10.lt ad.block (by simp [Value.ownBlock,e])).1; have h2:=HO.out.upd.size; omega⟩
    clear ho10 hb10 hc10 hcm HBy
    go_wp2
    go_ret
    exact .of ⟨A10,c10,rfl,HE2.out⟩
end Bo
end
section
namespace Ac
open Go.RowKit B Cm Cw Cr Lt Lc Pk Ou Ib
structure Ad (w W:World) (R:Nat → Prop) (rp:Nat) (F:Nat → Prop) (obs:List Ob) (p ge:Nat) (cs es:Array Value) (rest:List Int):Prop where
 rr:∃ A c,Rr 223 W R rp A c rest false
 st:Star obs W F
 bp:Blk W p 57 cs
 bg:Blk W ge 228 es
 rf:∀ k,R k → ¬ F k
 np:¬ R p ∧ ¬ F p ∧ w.heap.size ≤ p
 ng:¬ R ge ∧ ¬ F ge ∧ w.heap.size ≤ ge
 ro:w.heap.size ≤ rp
 fo:∀ k,F k → w.heap.size ≤ k
 upd:Upd No w W
section
variable {w W W':World} {R F:Nat → Prop} {rp p ge:Nat} {obs:List Ob} {cs es:Array Value} {rest rest':List Int}
theorem Ad.read (h:Ad w W R rp F obs p ge cs es rest) {A:Option Addr} {c:Nat} (hr:Rr 223 W' R rp A c rest' false) (hu:Upd (fun k => k = rp) W W'):Ad w W' R rp F obs p ge cs es rest':=
 ⟨⟨A,c,hr⟩,h.st.keep hu fun k hk e => h.rf rp hr.here (e ▸ hk),h.bp.upd hu fun e => h.np.1 (e ▸ hr.here),h.bg.upd hu fun e => h.ng.1 (e ▸ hr.here),h.rf,h.np,h.ng,h.ro,h.fo,h.upd.trans hu fun i hi e => by have:=h.ro; omega⟩
theorem Ad.quiet (h:Ad w W R rp F obs p ge cs es rest) (hu:Upd No W W'):Ad w W' R rp F obs p ge cs es rest:=by
 obtain ⟨A,c,hr⟩:=h.rr
 exact ⟨⟨A,c,hr.keep hu fun _ _ => no_ _⟩,h.st.quiet hu,h.bp.upd hu (no_ _),h.bg.upd hu (no_ _),h.rf,h.np,h.ng,h.ro,h.fo,h.upd.next hu⟩
theorem Ad.push (h:Ad w W R rp F obs p ge cs es rest) (hu:Upd No W W') {o:Ob} {G:Nat → Prop} (ho:o.is W' G) (hG:∀ k,G k → W.heap.size ≤ k):∃ F',Ad w W' R rp F' (o :: obs) p ge cs es rest:=by
 have hq:=h.quiet hu
 obtain ⟨F',h1,h2⟩:=h.st.push hu ho hG
 have hsub:∀ k,F' k → F k ∨ W.heap.size ≤ k:=fun k hk => h2.sub k hk
 have hp:=h.bp.lt
 have hg:=h.bg.lt
 have hs:=h.upd.size
 refine ⟨F',hq.rr,h1,hq.bp,hq.bg,fun k hk hf => ?_,⟨h.np.1,fun hf => ?_,h.np.2.2⟩,⟨h.ng.1,fun hf => ?_,h.ng.2.2⟩,h.ro,fun k hk => ?_,hq.upd⟩
 · obtain ⟨A,c,hr⟩:=h.rr
   rcases hsub k hf with h3 | h3
   · exact h.rf k hk h3
   · have:=hr.lt k hk; omega
 · rcases hsub p hf with h3 | h3
   · exact h.np.2.1 h3
   · omega
 · rcases hsub ge hf with h3 | h3
   · exact h.ng.2.1 h3
   · omega
 · rcases hsub k hk with h3 | h3
   · exact h.fo k h3
   · omega
theorem Ad.ne (h:Ad w W R rp F obs p ge cs es rest):p ≠ ge:=Blk.ne_type h.bp h.bg (by decide)
theorem Ad.putp (h:Ad w W R rp F obs p ge cs es rest) (i:Nat) (u:Value):Ad w (W.setCell ⟨p,i,none⟩ u) R rp F obs p ge (cs.setIfInBounds i u) es rest:=by
 obtain ⟨A,c,hr⟩:=h.rr
 have hu:Upd (fun k => k = p) W (W.setCell ⟨p,i,none⟩ u):=(Upd.refl _ _).set1 i u
 exact ⟨⟨A,c,hr.keep hu fun k hk e => h.np.1 (e ▸ hk)⟩,h.st.keep hu fun k hk e => h.np.2.1 (e ▸ hk),h.bp.put i u,h.bg.upd hu (Ne.symm h.ne),h.rf,h.np,h.ng,h.ro,h.fo,h.upd.trans hu fun k hk e => by have:=h.np.2.2; omega⟩
theorem Ad.putg (h:Ad w W R rp F obs p ge cs es rest) (i:Nat) (u:Value):Ad w (W.setCell ⟨ge,i,none⟩ u) R rp F obs p ge cs (es.setIfInBounds i u) rest:=by
 obtain ⟨A,c,hr⟩:=h.rr
 have hu:Upd (fun k => k = ge) W (W.setCell ⟨ge,i,none⟩ u):=(Upd.refl _ _).set1 i u
 exact ⟨⟨A,c,hr.keep hu fun k hk e => h.ng.1 (e ▸ hk)⟩,h.st.keep hu fun k hk e => h.ng.2.1 (e ▸ hk),h.bp.upd hu h.ne,h.bg.put i u,h.rf,h.np,h.ng,h.ro,h.fo,h.upd.trans hu fun k hk e => by have:=h.ng.2.2; omega⟩
end
def DaOut (w:World) (a:Am) (e:Ending) (w':World):Prop:=∃ p F,e = .returned (.tuple #[.pointer (some ⟨p,0,none⟩),.int .i64 0]) ∧ At w' F p a ∧ (∀ k,F k → w.heap.size ≤ k) ∧ Upd No w w'
theorem DaOut.of {w:World} {a:Am} {e:Ending} {w':World} (h:∃ p F,e = .returned (.tuple #[.pointer (some ⟨p,0,none⟩),.int .i64 0]) ∧ At w' F p a ∧ (∀ k,F k → w.heap.size ≤ k) ∧ Upd No w w'):DaOut w a e w':=h
theorem b4 {W:World} {p:Nat} {t:TypeId} {a0 a1 a2 a3:Value} (h:Blk W p t #[a0,a1,a2,a3]):W.cell? ⟨p,0,none⟩ = some a0 ∧ W.cell? ⟨p,1,none⟩ = some a1 ∧ W.cell? ⟨p,2,none⟩ = some a2 ∧ W.cell? ⟨p,3,none⟩ = some a3:=
 ⟨by simpa using h.cell 0,by simpa using h.cell 1,by simpa using h.cell 2,by simpa using h.cell 3⟩
theorem b5 {W:World} {p:Nat} {t:TypeId} {a0 a1 a2 a3 a4:Value} (h:Blk W p t #[a0,a1,a2,a3,a4]):W.cell? ⟨p,0,none⟩ = some a0 ∧ W.cell? ⟨p,1,none⟩ = some a1 ∧ W.cell? ⟨p,2,none⟩ = some a2 ∧ W.cell? ⟨p,3,none⟩ = some a3 ∧ W.cell? ⟨p,4,none⟩ = some a4:=
 ⟨by simpa using h.cell 0,by simpa using h.cell 1,by simpa using h.cell 2,by simpa using h.cell 3,by simpa using h.cell 4⟩
theorem eq_err (w:World):(Op.equalIn 10000 228 (.agg #[.int .i64 0,.int .i64 0,.int .i64 0,.int .i64 0]) (.agg #[.int .i64 0,.int .i64 0,.int .i64 0,.int .i64 0])).run Tryz.prog w = .ok true w:=by kernel_rfl
theorem row_tight {w:World} {F:Nat → Prop} {v:Value} {xs:List L} (h:Ib.Row w F v xs):Ib.Row w (fun k => F k ∧ k < w.heap.size) v xs:=Iw.Row.tight h
set_option maxRecDepth 100000 in
theorem decode {w:World} {A:Option Addr} {c:Nat} {a:Am} {B:Int} (hr:Rn w .u8 A (encA a)) (hok:a.ok B) (hB:B ≤ 18446744073709551615) :
 Calls Tryz.prog 38 #[.slice A (encA a).length c] w fun e w' => DaOut w a e w':=by
 have hel:=encA_le hok
 have HN:=hid (newReader A c (encA a) w hr (by omega) (encA_byte hok))
 have HOk:=hid hok
 have htr:=hok.tr.1
 have HLj:=encJ_small hok
 have HLi:=pack_le hok.inb
 have HLo:=encO_le hok.out
 have HLp:=pack_le hok.poi
 clear hr hel hok
 go_enter Tryz.func38,Tryz.ntmps38
 go_wp2_with (fail)
 refine Calls.mono HN.out ?_
 rintro e w1 ⟨R,q,A1,c1,rfl,hr1,ho1,hb1⟩
 have HT1:=hid (rnum (n:=a.tries) (r:=txl (Jn.encJ a.jn) ++ (txl (packL a.inb) ++ (txl (encO a.out) ++ txl (packL a.poi)))) hr1 (by omega) (by omega))
 have H1:=hid (And.intro (ho1 q hr1.here) (Upd.of_below No hb1))
 clear hr1 ho1 hb1 HN
 go_wp2_with (fail)
 refine Calls.mono HT1.out ?_
 rintro e w2 ⟨rfl,A2,c2,hr2,hu2⟩
 have HR2:=hid (And.intro hr2 hu2)
 have hmin:min (a.tries:Int) 3 = (a.tries:Int):=by omega
 have hmin2:(min a.tries 3) = a.tries:=by omega
 have hwt:IntKind.i64.wrap (a.tries:Int) = (a.tries:Int):=IntWalk.i64_in _ (by omega)
 clear hr2 hu2 HT1
 go_wp2_with (fail)
 have HW:Hid (∃ w3 p ge,w3 = (w2.alloc (.cells #[.pointer none,.pointer none,.pointer none,.int .i64 a.tries,.slice none 0 0] 57)).alloc (.cells #[.int .i64 0,.int .i64 0,.int .i64 0,.int .i64 0] 228) ∧ p = w2.heap.size ∧ ge = p + 1 ∧
  Ad w w3 R q No [] p ge #[.pointer none,.pointer none,.pointer none,.int .i64 a.tries,.slice none 0 0] #[.int .i64 0,.int .i64 0,.int .i64 0,.int .i64 0] (txl (Jn.encJ a.jn) ++ (txl (packL a.inb) ++ (txl (encO a.out) ++ txl (packL a.poi))))):=hid (by
  obtain ⟨hr2,hu2⟩:=HR2.out
  obtain ⟨hq,hu1⟩:=H1.out
  have s1:=hu1.size
  have s2:=hu2.size
  have hp:=Blk.fresh w2 57 #[.pointer none,.pointer none,.pointer none,.int .i64 a.tries,.slice none 0 0]
  have hg:=Blk.fresh (w2.alloc (.cells #[.pointer none,.pointer none,.pointer none,.int .i64 a.tries,.slice none 0 0] 57)) 228 #[.int .i64 0,.int .i64 0,.int .i64 0,.int .i64 0]
  have hal:=((Upd.refl No w2).alloc (.cells #[.pointer none,.pointer none,.pointer none,.int .i64 a.tries,.slice none 0 0] 57)).alloc (.cells #[.int .i64 0,.int .i64 0,.int .i64 0,.int .i64 0] 228)
  refine ⟨_,_,_,rfl,rfl,rfl,⟨⟨_,_,hr2.keep hal fun _ _ => no_ _⟩,fun k hk => hk.elim,hp.alloc _,by simpa using hg,fun _ _ => no_ _,⟨fun hR => ?_,no_ _,by omega⟩,⟨fun hR => ?_,no_ _,by omega⟩,hq,fun k hk => hk.elim,(hu1.trans hu2 fun i hi e => by omega).next hal⟩⟩
  · have:=hr2.lt _ hR; omega
  · have:=hr2.lt _ hR; omega)
 obtain ⟨w3,p,ge,hw3,hp3,hg3,hD3⟩:=HW.out
 rw [← hw3,← hp3,← hg3]
 have HD:=hid hD3
 clear hw3 hp3 hg3 hD3 HW HR2 H1 hmin hmin2 hwt
 obtain ⟨A5,c5,hr5⟩:=HD.out.rr
 have HT:=hid (rtxl (l:=(Jn.encJ a.jn)) (r:=(txl (packL a.inb) ++ (txl (encO a.out) ++ txl (packL a.poi)))) hr5 (by omega))
 clear hr5
 refine HT.out.mono ?_
 rintro e w4 ⟨rfl,A6,c6,hr6,hu4⟩
 have HD2:=hid (HD.out.read hr6 hu4)
 clear hr6 hu4 HD HT
 obtain ⟨w5,cc,hcv,hrn,hu5,hc1,hc2⟩:=conv_bytes2 (P:=Tryz.prog) w4 9 22 5 (Jn.encJ a.jn) (Jn.encJ_byte HOk.out.jo HOk.out.jr) (by omega) Tryz.underlying9 Tryz.underlying22 Tryz.underlying5
 have hdc:=Jn.decode (c:=cc) hrn HOk.out.jo HOk.out.j16 HOk.out.jr HOk.out.jv
 have HDc:=hid hdc
 have HD3:=hid (HD2.out.quiet hu5)
 clear hrn hu5 hdc HD2 hc1 hc2
 go_wp2_with (fail)
 clear hcv
 refine Calls.mono HDc.out ?_
 rintro e w6 ⟨pj,Fj,rfl,hj,hfj,hu6⟩
 obtain ⟨F,hD4⟩:=HD3.out.push hu6 (o:=jnO pj a.jn) hj hfj
 obtain ⟨y0,y1,y2,y3,y4⟩:=b5 hD4.bp
 obtain ⟨z0,z1,z2,z3⟩:=b4 hD4.bg
 have g0:=hD4.bp.free 0
 have g1:=hD4.bg.free 0
 have hpge:=hD4.ne
 have HD:Hid (Ad w ((w6.setCell ⟨p,0,none⟩ (.pointer (some ⟨pj,0,none⟩))).setCell ⟨ge,0,none⟩ (.int .i64 0)) R q F [jnO pj a.jn] p ge #[.pointer (some ⟨pj,0,none⟩),.pointer none,.pointer none,.int .i64 a.tries,.slice none 0 0] #[.int .i64 0,.int .i64 0,.int .i64 0,.int .i64 0] (txl (packL a.inb) ++ (txl (encO a.out) ++ txl (packL a.poi)))):=hid (by simpa using (hD4.putp 0 (.pointer (some ⟨pj,0,none⟩))).putg 0 (.int .i64 0))
 clear hu6 hD4 HD3 HDc
 obtain ⟨A5,c5,hr5⟩:=HD.out.rr
 have HT:=hid (rtxl (l:=(packL a.inb)) (r:=(txl (encO a.out) ++ txl (packL a.poi))) hr5 (by omega))
 clear hr5
 go_wp2_with (fail)
 clear y0 y1 y2 y3 y4 z0 z1 z2 z3 g0 g1
 generalize hwx:(w6.setCell _ _).setCell _ _ = wx at *
 clear hwx
 refine HT.out.mono ?_
 rintro e w4 ⟨rfl,A6,c6,hr6,hu4⟩
 have HD2:=hid (HD.out.read hr6 hu4)
 clear hr6 hu4 HD HT
 obtain ⟨w5,cc,hcv,hrn,hu5,hc1,hc2⟩:=conv_bytes2 (P:=Tryz.prog) w4 9 22 5 (packL a.inb) (pack_byte HOk.out.inb) (by omega) Tryz.underlying9 Tryz.underlying22 Tryz.underlying5
 have hdc:=Iw.decode hrn hc1 (by omega) hc2 (pack_byte HOk.out.inb)
 rw [(dec_pack HOk.out.inb).1] at hdc
 have HDc:=hid hdc
 have HD3:=hid (HD2.out.quiet hu5)
 clear hrn hu5 hdc HD2 hc1 hc2
 go_wp2_with (fail)
 clear hcv
 refine Calls.mono HDc.out ?_
 rintro e w6 ⟨pi,Fi,rfl,hi,hfi,hu6⟩
 obtain ⟨F,hD4⟩:=HD3.out.push hu6 (o:=ibO pi a.inb) hi hfi
 obtain ⟨y0,y1,y2,y3,y4⟩:=b5 hD4.bp
 obtain ⟨z0,z1,z2,z3⟩:=b4 hD4.bg
 have g0:=hD4.bp.free 1
 have g1:=hD4.bg.free 1
 have hpge:=hD4.ne
 have HD:Hid (Ad w ((w6.setCell ⟨p,1,none⟩ (.pointer (some ⟨pi,0,none⟩))).setCell ⟨ge,1,none⟩ (.int .i64 0)) R q F [ibO pi a.inb,jnO pj a.jn] p ge #[.pointer (some ⟨pj,0,none⟩),.pointer (some ⟨pi,0,none⟩),.pointer none,.int .i64 a.tries,.slice none 0 0] #[.int .i64 0,.int .i64 0,.int .i64 0,.int .i64 0] (txl (encO a.out) ++ txl (packL a.poi))):=hid (by simpa using (hD4.putp 1 (.pointer (some ⟨pi,0,none⟩))).putg 1 (.int .i64 0))
 clear hu6 hD4 HD3 HDc
 obtain ⟨A5,c5,hr5⟩:=HD.out.rr
 have HT:=hid (rtxl (l:=(encO a.out)) (r:=(txl (packL a.poi))) hr5 (by omega))
 clear hr5
 go_wp2_with (fail)
 clear y0 y1 y2 y3 y4 z0 z1 z2 z3 g0 g1
 generalize hwx:(w6.setCell _ _).setCell _ _ = wx at *
 clear hwx
 refine HT.out.mono ?_
 rintro e w4 ⟨rfl,A6,c6,hr6,hu4⟩
 have HD2:=hid (HD.out.read hr6 hu4)
 clear hr6 hu4 HD HT
 obtain ⟨w5,cc,hcv,hrn,hu5,hc1,hc2⟩:=conv_bytes2 (P:=Tryz.prog) w4 9 22 5 (encO a.out) (encO_byte HOk.out.out) (by omega) Tryz.underlying9 Tryz.underlying22 Tryz.underlying5
 have hdc:=Ou.decode (c:=cc) hrn HOk.out.out hB
 have HDc:=hid hdc
 have HD3:=hid (HD2.out.quiet hu5)
 clear hrn hu5 hdc HD2 hc1 hc2
 go_wp2_with (fail)
 clear hcv
 refine Calls.mono HDc.out ?_
 rintro e w6 ⟨po,Fo,rfl,ho,hfo,hu6⟩
 obtain ⟨F,hD4⟩:=HD3.out.push hu6 (o:=otO po a.out a.out.ser.length) ho hfo
 obtain ⟨y0,y1,y2,y3,y4⟩:=b5 hD4.bp
 obtain ⟨z0,z1,z2,z3⟩:=b4 hD4.bg
 have g0:=hD4.bp.free 2
 have g1:=hD4.bg.free 2
 have hpge:=hD4.ne
 have HD:Hid (Ad w ((w6.setCell ⟨p,2,none⟩ (.pointer (some ⟨po,0,none⟩))).setCell ⟨ge,2,none⟩ (.int .i64 0)) R q F [otO po a.out a.out.ser.length,ibO pi a.inb,jnO pj a.jn] p ge #[.pointer (some ⟨pj,0,none⟩),.pointer (some ⟨pi,0,none⟩),.pointer (some ⟨po,0,none⟩),.int .i64 a.tries,.slice none 0 0] #[.int .i64 0,.int .i64 0,.int .i64 0,.int .i64 0] (txl (packL a.poi))):=hid (by simpa using (hD4.putp 2 (.pointer (some ⟨po,0,none⟩))).putg 2 (.int .i64 0))
 clear hu6 hD4 HD3 HDc
 obtain ⟨A5,c5,hr5⟩:=HD.out.rr
 rw [← List.append_nil (txl (packL a.poi))] at hr5
 have HT:=hid (rtxl (l:=(packL a.poi)) (r:=[]) hr5 (by omega))
 clear hr5
 go_wp2_with (fail)
 clear y0 y1 y2 y3 y4 z0 z1 z2 z3 g0 g1
 generalize hwx:(w6.setCell _ _).setCell _ _ = wx at *
 clear hwx
 refine HT.out.mono ?_
 rintro e w4 ⟨rfl,A6,c6,hr6,hu4⟩
 have HD2:=hid (HD.out.read hr6 hu4)
 clear hr6 hu4 HD HT
 obtain ⟨w5,cc,hcv,hrn,hu5,hc1,hc2⟩:=conv_bytes2 (P:=Tryz.prog) w4 9 22 5 (packL a.poi) (pack_byte HOk.out.poi) (by omega) Tryz.underlying9 Tryz.underlying22 Tryz.underlying5
 have hdc:=Pk.unpack_ hrn hc1 (by omega) hc2 (pack_byte HOk.out.poi)
 rw [(dec_pack HOk.out.poi).2] at hdc
 have HDc:=hid hdc
 have HD3:=hid (HD2.out.quiet hu5)
 clear hrn hu5 hdc HD2 hc1 hc2
 go_wp2_with (fail)
 clear hcv
 refine Calls.mono HDc.out ?_
 rintro e w6 ⟨Av,cv,rfl,⟨Fv,hv,hfv⟩,hu6⟩
 obtain ⟨F,hD4⟩:=HD3.out.push hu6 (o:=roO (.slice Av a.poi.length cv) a.poi) ⟨row_tight hv,fun k hk => hk.2⟩ (fun k hk => hfv k hk.1)
 obtain ⟨y0,y1,y2,y3,y4⟩:=b5 hD4.bp
 obtain ⟨z0,z1,z2,z3⟩:=b4 hD4.bg
 have g0:=hD4.bp.free 4
 have g1:=hD4.bg.free 3
 have hpge:=hD4.ne
 have HD:Hid (Ad w ((w6.setCell ⟨p,4,none⟩ (.slice Av a.poi.length cv)).setCell ⟨ge,3,none⟩ (.int .i64 0)) R q F [roO (.slice Av a.poi.length cv) a.poi,otO po a.out a.out.ser.length,ibO pi a.inb,jnO pj a.jn] p ge #[.pointer (some ⟨pj,0,none⟩),.pointer (some ⟨pi,0,none⟩),.pointer (some ⟨po,0,none⟩),.int .i64 a.tries,.slice Av a.poi.length cv] #[.int .i64 0,.int .i64 0,.int .i64 0,.int .i64 0] []):=hid (by simpa using (hD4.putp 4 (.slice Av a.poi.length cv)).putg 3 (.int .i64 0))
 clear hu6 hD4 HD3 HDc
 go_wp2_with (fail)
 clear y0 y1 y2 y3 y4 z0 z1 z2 z3 g0 g1
 generalize hwx:(w6.setCell _ _).setCell _ _ = wx at *
 clear hwx
 obtain ⟨A9,c9,hrr⟩:=HD.out.rr
 have HEnd:=hid (end_ q 0 c9 A9 false wx hrr.blk)
 simp only [Bool.not_false,decide_true,Bool.and_true] at HEnd
 have hat:∃ F',At wx F' p a ∧ ∀ k,F' k → w.heap.size ≤ k:=by
  have hd:=HD.out
  have hst:=hd.st.perm (List.reverse_perm [roO (.slice Av a.poi.length cv) a.poi,otO po a.out a.out.ser.length,ibO pi a.inb,jnO pj a.jn]).symm
  refine ⟨fun k => k = p ∨ F k,⟨pj,pi,po,a.out.ser.length,.slice Av a.poi.length cv,⟨⟨fun k => k = p,F,Ob.blk_is hd.bp,hst,fun k hk hf => hd.np.2.1 (hk ▸ hf),fun k hk => .inl hk,fun k hk => .inr hk,fun k hk => ?_⟩,by have:=HOk.out.out.many; omega⟩⟩,fun k hk => ?_⟩
  · rcases hk with rfl | hk
    · exact hd.bp.lt
    · exact hd.st.lt k hk
  · rcases hk with rfl | hk
    · exact hd.np.2.2
    · exact hd.fo k hk
 obtain ⟨Fp,hat,hfp⟩:=hat
 have HSo:=hid (sound hat HOk.out)
 have HAt:=hid (And.intro hat (And.intro hfp HD.out.upd))
 obtain ⟨z0,z1,z2,z3⟩:=b4 HD.out.bg
 have hee:=eq_err wx
 clear hrr hat hfp HD
 refine HEnd.out.mono ?_
 rintro e w9 ⟨rfl,rfl⟩
 go_wp2_with (fail)
 refine HSo.out.mono ?_
 rintro e w10 ⟨rfl,hu10⟩
 have HU:=hid hu10
 clear hu10
 go_wp2
 go_ret2
 exact .of ⟨p,Fp,rfl,HAt.out.1.quiet HU.out,HAt.out.2.1,HAt.out.2.2.next HU.out⟩
theorem copied {w:World} {F:Nat → Prop} {p:Nat} {a:Am} {B:Int} (h:At w F p a) (hok:a.ok B) (hB:B ≤ 18446744073709551615) :
 Calls Tryz.prog 49 #[.pointer (some ⟨p,0,none⟩)] w fun e w' => ∃ q G,e = .returned (.pointer (some ⟨q,0,none⟩)) ∧ At w' G q a ∧ (∀ k,G k → w.heap.size ≤ k) ∧ Upd No w w':=by
 have HE:=hid (encode h hok hB)
 go_enter Tryz.func49,Tryz.ntmps49
 go_wp2_with (fail)
 refine HE.out.mono ?_
 rintro e w1 ⟨A1,c1,rfl,h1,h2,hr1,hu1,_⟩
 have HD:=hid (decode (c:=c1) hr1 hok hB)
 have HU:=hid hu1
 clear hr1 hu1 h1 h2 HE
 go_wp2_with (fail)
 refine HD.out.mono ?_
 rintro e w2 ⟨q,G,rfl,hat,hfr,hu2⟩
 have HR:Hid (At w2 G q a ∧ (∀ k,G k → w.heap.size ≤ k) ∧ Upd No w w2):=hid ⟨hat,fun k hk => by have:=hfr k hk; have:=HU.out.size; omega,HU.out.next hu2⟩
 clear hat hfr hu2 HD
 go_wp2
 go_ret
 exact ⟨q,G,rfl,HR.out⟩
end Ac
end
section
namespace Bo
open Go.RowKit B Cm Cw Cr Ou
open Dk (Dm)
open Gl (Lm)
structure Bp where
 q:Nat
 pd:Nat
 pl:Nat
 b1:Nat
 b2:Nat
 vs:Value
 vp:Value
 vt:Value
 ep:Int
structure Bm where
 d:Dm
 lg:Lm
 tab:ByteArray → Option (List Int)
 ch:ByteArray → Bool
 pend:Nat
 over:Bool
def dkO (p:Nat) (d:Dm):Ob:=⟨fun w F => Dk.Dk w F p d,fun h hu hn => h.upd hu hn,fun h => h.lt⟩
def lgO (q p:Nat) (m:Lm):Ob:=⟨fun w F => Gl.Lg w F q p m,fun h hu hn => h.upd hu hn,fun h => h.lt⟩
def bcs (b:Bp) (m:Bm):Array Value:=#[.pointer (some ⟨b.pd,0,none⟩),b.vs,.pointer (some ⟨b.pl,0,none⟩),b.vp,b.vt,.int .u64 b.ep,.map (some b.b1),.map (some b.b2),.int .i64 m.pend,.bool m.over]
def bst (b:Bp) (m:Bm) (n1 n2:Nat) (R:Ob):List Ob:=[Ob.blk b.q 186 (bcs b m),tbO b.b1 n1 m.tab,chO b.b2 n2 m.ch,dkO b.pd m.d,lgO b.pl b.pd m.lg,R]
theorem bcells {w:World} {b:Bp} {m:Bm} (h:Blk w b.q 186 (bcs b m)):(w.cell? ⟨b.q,0,none⟩ = some (.pointer (some ⟨b.pd,0,none⟩)) ∧ w.cell? ⟨b.q,1,none⟩ = some b.vs ∧ w.cell? ⟨b.q,2,none⟩ = some (.pointer (some ⟨b.pl,0,none⟩)) ∧ w.cell? ⟨b.q,3,none⟩ = some b.vp ∧ w.cell? ⟨b.q,4,none⟩ = some b.vt) ∧
 w.cell? ⟨b.q,5,none⟩ = some (.int .u64 b.ep) ∧ w.cell? ⟨b.q,6,none⟩ = some (.map (some b.b1)) ∧ w.cell? ⟨b.q,7,none⟩ = some (.map (some b.b2)) ∧ w.cell? ⟨b.q,8,none⟩ = some (.int .i64 m.pend) ∧ w.cell? ⟨b.q,9,none⟩ = some (.bool m.over):=
 ⟨⟨h.cell 0,h.cell 1,h.cell 2,h.cell 3,h.cell 4⟩,h.cell 5,h.cell 6,h.cell 7,h.cell 8,h.cell 9⟩
section
variable {w w2 w3:World} {F H:Nat → Prop} {b n:Nat} {tab:ByteArray → Option (List Int)} {m:ByteArray → Option Value} {G:Nat → Prop}
structure Tx (w:World) (F:Nat → Prop) (b n:Nat) (tab:ByteArray → Option (List Int)) (m:ByteArray → Option Value) (G:Nat → Prop):Prop where
 ms:Ms.Ms Tryz.prog w 9 b n m
 at_:∀ s,Ms.Ks s → (match tab s with
  | none => m s = none
  | some l => ∃ v,m s = some v ∧ Vb w G v l)
 fb:F b
 fg:∀ k,G k → F k ∧ k ≠ b
 lt:∀ k,F k → k < w.heap.size
theorem Tb.open_ (h:Tb w F b n tab):∃ m G,Tx w F b n tab m G:=by
 obtain ⟨m,G,h1,h2,h3,h4,h5⟩:=h
 exact ⟨m,G,h1,h2,h3,h4,h5⟩
theorem Tx.stored (h:Tx w F b n tab m G) {k:ByteArray} {l:List Int} {v:Value} (hu2:Upd No w w2) (hv:Vb w2 H v l) (hH:∀ i,H i → w.heap.size ≤ i ∧ i < w2.heap.size) (hu3:Upd (fun i => i = b) w2 w3) (hm:Ms.Ms Tryz.prog w3 9 b (n + 1) (Ms.put m k (some v))) :
 ∃ F',Tb w3 F' b (n + 1) (layT tab (k,l,false)) ∧ Mv F F' w w3:=by
 have hb:=h.lt b h.fb
 have hs2:=hu2.size
 have hs3:=hu3.size
 refine ⟨fun i => F i ∨ H i,⟨_,fun i => G i ∨ H i,hm,fun s hs => ?_,.inl h.fb,fun i hi => ?_,fun i hi => ?_⟩,⟨(hu2.mono fun _ _ h => h.elim).trans hu3 fun i hi e => e ▸ h.fb,fun i hi => ?_⟩⟩
 · unfold layT Ms.put
   by_cases hk:s = k
   · subst hk
     simp only [if_true,Bool.false_eq_true,if_false]
     exact ⟨v,rfl,(hv.upd hu3 fun i hi e => by have:=(hH i hi).1; omega).mono fun i hi => .inr hi⟩
   · rw [if_neg hk]
     have:=h.at_ s hs
     cases ht:tab s with
     | none => rw [ht] at this; simpa [hk,ht] using this
     | some l' =>
      rw [ht] at this
      obtain ⟨v',e,hv'⟩:=this
      simp only [hk,if_false,ht]
      exact ⟨v',e,((hv'.quiet hu2).upd hu3 fun i hi e => (h.fg i hi).2 e).mono fun i hi => .inl hi⟩
 · rcases hi with hi | hi
   · exact ⟨.inl (h.fg i hi).1,(h.fg i hi).2⟩
   · exact ⟨.inr hi,by have:=(hH i hi).1; omega⟩
 · rcases hi with hi | hi
   · have:=h.lt i hi; omega
   · have:=(hH i hi).2; omega
 · rcases hi with hi | hi
   · exact .inl hi
   · exact .inr (hH i hi).1
theorem Tx.dropped (h:Tx w F b n tab m G) {k:ByteArray} {l:List Int} (hu3:Upd (fun i => i = b) w w3) (hm:Ms.Ms Tryz.prog w3 9 b n (Ms.put m k none)):Tb w3 F b n (layT tab (k,l,true)) ∧ Mv F F w w3:=by
 refine ⟨⟨_,G,hm,fun s hs => ?_,h.fb,h.fg,fun i hi => Nat.lt_of_lt_of_le (h.lt i hi) hu3.size⟩,hu3.mono fun i hi e => e ▸ h.fb,fun i hi => .inl hi⟩
 unfold layT Ms.put
 by_cases hk:s = k
 · subst hk
   simp
 · rw [if_neg hk]
   have:=h.at_ s hs
   cases ht:tab s with
   | none => rw [ht] at this; simpa [hk,ht] using this
   | some l' =>
    rw [ht] at this
    obtain ⟨v',e,hv'⟩:=this
    simp only [hk,if_false,ht]
    exact ⟨v',e,hv'.upd hu3 fun i hi e => (h.fg i hi).2 e⟩
theorem Tx.look (h:Tx w F b n tab m G) {s:ByteArray} (hs:Ms.Ks s):∃ v,(Instr.lookup 179 (.map (some b)) (.string s) true).run Tryz.prog w = .ok (.tuple #[v,.bool (tab s).isSome]) w ∧ Vb w G v ((tab s).getD []):=by
 have hl:=h.ms.look_ok (t:=179) (e:=22) Tryz.underlying9 Tryz.underlying179 (z:=.slice none 0 0) (by kernel_rfl) hs
 have:=h.at_ s hs
 cases ht:tab s with
 | none =>
  rw [ht] at this
  rw [this] at hl
  exact ⟨_,hl,none,0,rfl,Nat.le_refl _,by omega,Rd.nil_ _ _ _,fun h => absurd h (by simp),fun c hc => by cases hc⟩
 | some l =>
  rw [ht] at this
  obtain ⟨v,e,hv⟩:=this
  rw [e] at hl
  exact ⟨v,hl,hv⟩
end
def chP (ch:ByteArray → Bool) (k:ByteArray):ByteArray → Bool:=fun s => decide (s = k) || ch s
theorem Ch.marked {w w3:World} {F:Nat → Prop} {b n:Nat} {ch:ByteArray → Bool} {k:ByteArray} (h:Ch w F b n ch) (hu:Upd (fun i => i = b) w w3) (hm:Ms.Ms Tryz.prog w3 9 b (n + 1) (Ms.put (fun s => if ch s then some (.bool true) else none) k (some (.bool true)))):Ch w3 F b (n + 1) (chP ch k) ∧ Mv F F w w3:=by
 refine ⟨⟨?_,h.2⟩,hu.mono fun i _ e => (h.2 i).2 e,fun i hi => .inl hi⟩
 have e:(fun s => if chP ch k s then some (Value.bool true) else none) = Ms.put (fun s => if ch s then some (.bool true) else none) k (some (.bool true)):=by
  funext s
  unfold chP Ms.put
  by_cases hs:s = k
  · simp [hs]
  · simp [hs]
 rw [e]
 exact hm
end Bo
end
section
namespace Bo
open Go.RowKit B Cm Cw Cr Ou
open Dk (Dm)
open Gl (Lm)
def chs (ch:ByteArray → Bool) (ks:List ByteArray):ByteArray → Bool:=ks.foldl chP ch
def Bm.laid (m:Bm) (xs:List Cg):Bm:={ m with tab:=lays m.tab (xs.map bare),ch:=chs m.ch (xs.map (·.1)) }
theorem laid_take (m:Bm) (xs:List Cg) {j:Nat} (hj:j < xs.length):m.laid (xs.take (j + 1)) = { m.laid (xs.take j) with tab:=layT (m.laid (xs.take j)).tab (bare xs[j]),ch:=chP (m.laid (xs.take j)).ch xs[j].1 }:=by
 unfold Bm.laid lays chs
 rw [List.take_succ_eq_append_getElem hj]
 simp only [List.map_append,List.map_cons,List.map_nil,List.foldl_append,List.foldl_cons,List.foldl_nil]
structure La (w W:World) (F:Nat → Prop) (b:Bp) (m:Bm) (R:Ob) (n1 n2 j:Nat):Prop where
 ex:∃ F' n1' n2',Star (bst b m n1' n2' R) W F' ∧ Mv F F' w W ∧ n1' ≤ n1 + j ∧ n2' ≤ n2 + j
section
variable {w W W':World} {F V:Nat → Prop} {b:Bp} {m:Bm} {R:Ob} {n1 n2 j:Nat}
theorem La.quiet (h:La w W F b m R n1 n2 j) (hu:Upd No W W'):La w W' F b m R n1 n2 j:=by
 obtain ⟨F',a,c,h1,h2,h3⟩:=h
 exact ⟨F',a,c,h1.quiet hu,⟨h2.upd.next (hu.mono fun _ _ h => h.elim),h2.sub⟩,h3⟩
theorem La.book (h:La w W F b m R n1 n2 j):Blk W b.q 186 (bcs b m):=by
 obtain ⟨F',a,c,h1,h2,h3⟩:=h
 obtain ⟨G,hG,_⟩:=h1.at_ 0 (o:=Ob.blk b.q 186 (bcs b m)) rfl
 exact hG.1
theorem La.far (h:La w W F b m R n1 n2 j) (hV:∀ k,V k → ¬ F k ∧ k < w.heap.size):Upd F w W:=by
 obtain ⟨F',a,c,h1,h2,h3⟩:=h
 exact h2.upd
theorem La.marks (h:La w W F b m R n1 n2 j) (hn:n2 + j < maxLen):∃ n,n < maxLen ∧ Ms.Ms Tryz.prog W 9 b.b2 n (fun s => if m.ch s then some (.bool true) else none) ∧
 ∀ k W',Upd (fun i => i = b.b2) W W' → Ms.Ms Tryz.prog W' 9 b.b2 (n + 1) (Ms.put (fun s => if m.ch s then some (.bool true) else none) k (some (.bool true))) → La w W' F b { m with ch:=chP m.ch k } R n1 (n2 + 1) j:=by
 obtain ⟨F',a,c,h1,h2,h3⟩:=h
 obtain ⟨G,hG,_,hput⟩:=h1.at_ 2 (o:=chO b.b2 c m.ch) rfl
 refine ⟨c,by omega,hG.1,fun k W' hu hm => ?_⟩
 obtain ⟨g1,g2⟩:=Ch.marked hG hu hm
 obtain ⟨F2,k1,k2⟩:=hput W' G (chO b.b2 (c + 1) (chP m.ch k)) g2 g1
 exact ⟨F2,a,c + 1,k1,h2.trans k2,h3.1,by omega⟩
theorem La.table (h:La w W F b m R n1 n2 j) (hn:n1 + j < maxLen):∃ n T G,n < maxLen ∧ Tx W G b.b1 n m.tab T (fun k => G k ∧ k ≠ b.b1) ∧ (∀ k,G k → k < W.heap.size) ∧
 (∀ k l W',Upd (fun i => i = b.b1) W W' → Ms.Ms Tryz.prog W' 9 b.b1 n (Ms.put T k none) → La w W' F b { m with tab:=layT m.tab (k,l,true) } R n1 n2 (j + 1)) ∧
 ∀ k l v W2 W' (H:Nat → Prop),Upd No W W2 → Vb W2 H v l → (∀ i,H i → W.heap.size ≤ i ∧ i < W2.heap.size) → Upd (fun i => i = b.b1) W2 W' → Ms.Ms Tryz.prog W' 9 b.b1 (n + 1) (Ms.put T k (some v)) → La w W' F b { m with tab:=layT m.tab (k,l,false) } R n1 n2 (j + 1):=by
 obtain ⟨F',a,c,h1,h2,h3⟩:=h
 obtain ⟨G,hG,_,hput⟩:=h1.at_ 1 (o:=tbO b.b1 a m.tab) rfl
 obtain ⟨T,G',hT⟩:=Tb.open_ hG
 refine ⟨a,T,G,by omega,⟨hT.ms,fun s hs => ?_,hT.fb,fun k hk => hk,hT.lt⟩,hT.lt,fun k l W' hu hm => ?_,fun k l v W2 W' H hu2 hv hH hu hm => ?_⟩
 · have:=hT.at_ s hs
   cases ht:m.tab s with
   | none => rw [ht] at this; exact this
   | some l =>
    rw [ht] at this
    obtain ⟨v,e,hv⟩:=this
    exact ⟨v,e,hv.mono hT.fg⟩
 · obtain ⟨g1,g2⟩:=hT.dropped (l:=l) hu hm
   obtain ⟨F2,k1,k2⟩:=hput W' G (tbO b.b1 a (layT m.tab (k,l,true))) g2 g1
   exact ⟨F2,a,c,k1,h2.trans k2,by omega,by omega⟩
 · obtain ⟨G2,g1,g2⟩:=hT.stored hu2 hv hH hu hm
   obtain ⟨F2,k1,k2⟩:=hput W' G2 (tbO b.b1 (a + 1) (layT m.tab (k,l,false))) g2 g1
   exact ⟨F2,a + 1,c,k1,h2.trans k2,by omega,by omega⟩
theorem La.of (h:Star (bst b m n1 n2 R) w F):La w w F b m R n1 n2 0:=⟨F,n1,n2,h,Mv.refl _ _,by omega,by omega⟩
end
set_option maxRecDepth 100000 in
theorem lay {w:World} {F V:Nat → Prop} {b:Bp} {m:Bm} {R:Ob} {n1 n2:Nat} {A:Option Addr} {c:Nat} {xs:List Cg} (h:Star (bst b m n1 n2 R) w F) (hc:Cl w V (.slice A xs.length c) xs) (hV:∀ k,V k → ¬ F k ∧ k < w.heap.size)
 (hg:Gd xs) (hn:n1 < 100000000 ∧ n2 < 100000000) :
 Calls Tryz.prog 88 #[.pointer (some ⟨b.q,0,none⟩),.slice A xs.length c] w fun e w' => e = .returned (.tuple #[]) ∧ La w w' F b (m.laid xs) R n1 (n2 + xs.length) xs.length:=by
 have HC:Hid (∀ W,Upd F w W → Cl W V (.slice A xs.length c) xs):=hid fun W hu => hc.upd hu fun k hk => (hV k hk).1
 have HG:=hid hg
 have HV:=hid hV
 have hx100:=hg.few
 have HI0:=hid (show La w w F b (m.laid (xs.take 0)) R n1 (n2 + 0) 0 from La.of h)
 clear h hg hc hV
 go_enter Tryz.func88,Tryz.ntmps88
 go_wp2_with (fail)
 go_loopw [8] (fun v8 W => ∃ (j:Nat),j ≤ xs.length ∧ v8 = .int .i64 j ∧ Hid (La w W F b (m.laid (xs.take j)) R n1 (n2 + j) j)) (fun v8 _ => xs.length - (intOf v8).toNat)
 case atStart => exact ⟨0,by omega,rfl,HI0⟩
 case round =>
  clear HI0
  obtain ⟨j,hj,rfl,HI⟩:=hrel
  by_cases hlt:j < xs.length
  · have hcl:=HC.out wr (HI.out.far HV.out)
    have hv0:∀ W,Upd F w W → Vb W V xs[j].2.2.2 xs[j].2.1:=fun W hu => by
     obtain ⟨_,_,_,_,_,h⟩:=(HC.out W hu).get hlt
     exact h
    obtain ⟨ad,rfl,x0,x1,x2,_⟩:=hcl.get hlt
    have hk:=HG.out.key _ (List.getElem_mem hlt)
    have hval:=HG.out.val _ (List.getElem_mem hlt)
    have HL:=hid (laid_take m xs hlt)
    clear hcl
    obtain ⟨m3,hm3⟩:∃ m3,m3 = m.laid (xs.take (j + 1)):=⟨_,rfl⟩
    rw [← hm3] at HL
    have HM3:=hid hm3
    clear hm3
    generalize m.laid (xs.take j) = m1 at *
    generalize xs[j] = y at *
    obtain ⟨k,l,gn,v⟩:=y
    simp only [bare] at x0 x1 x2 hv0 hk hval HL
    have HVb:=hid hv0
    obtain ⟨Al,cl,rfl,hcl1,hcl2,_⟩:=hv0 wr (HI.out.far HV.out)
    have hks:Ms.Ks k:=by unfold Ms.Ks; simp only [maxLen]; omega
    have HB:Hid (∃ W5,W5 = wr.alloc (.cells #[.string k,.slice Al l.length cl,.bool gn] 128) ∧ Blk W5 wr.heap.size 128 #[.string k,.slice Al l.length cl,.bool gn] ∧ Upd No wr W5 ∧ La w W5 F b m1 R n1 (n2 + j) j):=
     hid ⟨_,rfl,Blk.fresh _ _ _,(Upd.refl _ _).alloc _,HI.out.quiet ((Upd.refl _ _).alloc _)⟩
    obtain ⟨W5,hW5,hB5,hu5,hI5⟩:=HB.out
    have hj1:(0:Int) ≤ (j:Int):=by omega
    have hj2:(j:Int) < (xs.length:Int):=by omega
    clear HI HB hv0
    go_wp2_with (fail)
    rw [← hW5]
    clear hW5 x0 x1 x2
    obtain ⟨nm,hnm,hM5,hM6⟩:=hI5.marks (by simp only [maxLen]; omega)
    have HF5:=hid (And.intro hI5.book hB5)
    have hne:b.q ≠ b.b2 ∧ wr.heap.size ≠ b.b2:=⟨map_ne hM5 HF5.out.1,map_ne hM5 hB5⟩
    have HCell:=hid (fun (W:World) (hw:Upd (fun i => i = b.b2) W5 W) => And.intro (bcells (HF5.out.1.upd hw hne.1)).2.2.2.1 (b3 (HF5.out.2.upd hw hne.2)).1)
    refine wp_region_held_drew (S:=fun W => Upd (fun i => i = b.b2) W5 W) (by kernel_rfl) (Upd.refl _ _).drew (fun hS => ?_)
    refine zt 0 hS ?_
    refine zt 1 hS ?_
    refine zt 2 hS ?_
    refine zh 3 hS (fun w hw => (HCell.out w hw).1) ?_
    refine zt 4 hS ?_
    refine zh 5 hS (fun w hw => (HCell.out w hw).2) ?_
    refine zk 6 (fun K hK => ?_)
    refine Ms.wp_store (.tmp 15) (.tmp 17) (.const (.bool true)) 180 9 4 (by rfl) Tryz.underlying9 Tryz.underlying180 b.b2 nm _ k (.bool true) (by rfl) (by rfl) (by rfl) hM5.drew hnm hks ?_
    intro w7 hM7 hu7
    replace hu7:=Upd.of_drew hu7
    refine hK.out _ _ ((by exact hu7)) (fun hS => ?_)
    clear hK K
    try simp only [Act.put,zA,zB,zC]
    refine wpAnyH_done (by kernel_rfl) ?_ _
    have hI7:=hM6 k w7 hu7 hM7
    have hB7:=hB5.upd hu7 hne.2
    have HX7:=hid (And.intro hI7.book hB7)
    obtain ⟨y0,y1,y2⟩:=b3 hB7
    obtain ⟨nt,T,G,hnt,hT,hGl,hdel,hput⟩:=hI7.table (by simp only [maxLen]; omega)
    have HTn:=hid (And.intro (fun k l W' h1 h2 => hdel k l W' h1 h2) (And.intro hGl (fun k l v W2 W' H h1 h2 h3 h4 h5 => hput k l v W2 W' H h1 h2 h3 h4 h5)))
    have HVb7:=hid (HVb.out w7 (hI7.far HV.out))
    have hMt:=hT.ms
    have hne7:b.q ≠ b.b1 ∧ wr.heap.size ≠ b.b1:=⟨map_ne hMt HX7.out.1,map_ne hMt hB7⟩
    clear HF5 HCell hM5 hM6 hM7 hB5 hI5 hB7 hI7 hT hGl hdel hput HVb hu7 hu5 hne
    have HCell:=hid (fun (W:World) (hw:Upd (fun i => i = b.b1) w7 W) => And.intro (bcells (HX7.out.1.upd hw hne7.1)).2.2.1 (b3 (HX7.out.2.upd hw hne7.2)))
    rcases gn with _ | _
    case' true =>
     go_wp2_with (fail)
     refine wp_region_held_drew (S:=fun W => Upd (fun i => i = b.b1) w7 W) (by kernel_rfl) (Upd.refl _ _).drew (fun hS => ?_)
     refine zt 0 hS ?_
     refine zt 1 hS ?_
     refine zt 2 hS ?_
     refine zh 3 hS (fun w hw => (HCell.out w hw).1) ?_
     refine zt 4 hS ?_
     refine zh 5 hS (fun w hw => (HCell.out w hw).2.1) ?_
     refine zk 6 (fun K hK => ?_)
     refine Ms.wp_drop (.tmp 23) (.tmp 25) 179 9 22 (by rfl) Tryz.underlying9 Tryz.underlying179 b.b1 nt T k (by rfl) (by rfl) hMt.drew hks ?_
     intro w8 hM8 hu8
     replace hu8:=Upd.of_drew hu8
     refine hK.out _ _ ((by exact hu8)) (fun hS => ?_)
     clear hK K
     try simp only [Act.put,zA,zB,zC]
     refine wpAnyH_done (by kernel_rfl) ?_ _
     have HN:Hid (La w w8 F b m3 R n1 (n2 + (j + 1)) (j + 1)):=hid (by
      have h:=HTn.out.1 k l w8 hu8 hM8
      rw [HL.out]
      exact h)
     clear hM8 hu8 HTn HX7 HVb7 hMt hne7 HCell y0 y1 y2 HL
     go_wp2
     go_roundw
     case rel => exact ⟨j + 1,by omega,by go_num,hid (by rw [← HM3.out]; exact HN.out)⟩
     case measure => simp [intOf]; omega
    case' false =>
     have HCl:=hid (fun (W:World) (hu:Upd No w7 W) => Sw.clone Al cl l W (by
      obtain ⟨A',c',e,_,_,hr,_⟩:=HVb7.out.quiet hu
      injection e with e1 e2 e3
      rw [e1]
      exact hr) (by omega))
     have HBy:=hid (show Byte l by
      obtain ⟨_,_,_,_,_,_,_,h⟩:=HVb7.out
      exact h)
     have hN:Upd No w7 w7.drew:=(Upd.refl _ _).drew
     go_wp2_with (fail)
     refine wp_region_held_drew (S:=fun W => Upd (fun i => i = b.b1) w7 W) (by kernel_rfl) (Upd.refl _ _).drew (fun hS => ?_)
     refine zt 0 hS ?_
     refine zt 1 hS ?_
     refine zt 2 hS ?_
     refine zh 3 hS (fun w hw => (HCell.out w hw).1) ?_
     refine zt 4 hS ?_
     refine zh 5 hS (fun w hw => (HCell.out w hw).2.1) ?_
     refine zt 6 hS ?_
     refine zh 7 hS (fun w hw => (HCell.out w hw).2.2.1) ?_
     refine zk 8 (fun K hK => ?_)
     go_simp
     refine Calls.mono (HCl.out _ hN) ?_
     rintro e w8 ⟨A8,c8,rfl,ho8,hu8⟩
     have HVn:=hid (Vb.of_own ho8 HBy.out)
     replace hN:=hN.next hu8
     go_wp2_with (fail)
     refine hK.out _ _ ((hN.mono fun _ _ h => h.elim)) (fun hS => ?_)
     clear hK K
     try simp only [Act.put,zA,zB,zC]
     refine zk 9 (fun K hK => ?_)
     refine Ms.wp_store (.tmp 29) (.tmp 31) (.tmp 34) 179 9 22 (by rfl) Tryz.underlying9 Tryz.underlying179 b.b1 nt T k (.slice A8 l.length c8) (by rfl) (by rfl) (by rfl) (hMt.upd hN (no_ _)) hnt hks ?_
     intro w9 hM9 hu9
     refine hK.out _ _ ((by exact (hN.mono fun _ _ h => h.elim).next hu9)) (fun hS => ?_)
     clear hK K
     try simp only [Act.put,zA,zB,zC]
     refine wpAnyH_done (by kernel_rfl) ?_ _
     have HN:Hid (La w w9 F b m3 R n1 (n2 + (j + 1)) (j + 1)):=hid (by
      have h:=HTn.out.2.2 k l _ w8 w9 _ hN HVn.out (fun i hi => hi) hu9 hM9
      rw [HL.out]
      exact h)
     clear hM9 hu9 HTn HX7 HVb7 hMt hne7 HCell y0 y1 y2 HL HVn hN ho8 hu8
     go_wp2
     go_roundw
     case rel => exact ⟨j + 1,by omega,by go_num,hid (by rw [← HM3.out]; exact HN.out)⟩
     case measure => simp [intOf]; omega
  · obtain rfl:j = xs.length:=by omega
    rw [List.take_length] at HI
    go_wp2
    go_end0
    exact ⟨rfl,HI.out⟩
end Bo
end
section
namespace Bo
open Go.RowKit B Cm Cw Cr Ou
open Dk (Dm)
open Gl (Lm)
theorem get {w:World} {F:Nat → Prop} {b:Bp} {m:Bm} {R:Ob} {n1 n2:Nat} (h:Star (bst b m n1 n2 R) w F) (hn:n1 < 100000000) {k:ByteArray} (hk:Ms.Ks k) (hl:((m.tab k).getD []).length ≤ 140737488355328) :
 Calls Tryz.prog 30 #[.pointer (some ⟨b.q,0,none⟩),.string k] w fun e w' => ∃ A c,e = .returned (.tuple #[.slice A ((m.tab k).getD []).length c,.bool (m.tab k).isSome]) ∧
  w'.ownsRow w.heap.size 5 1 (.slice A ((m.tab k).getD []).length c) ((m.tab k).getD []).length (nums .u8 ((m.tab k).getD [])) ∧ Byte ((m.tab k).getD []) ∧ Upd No w w':=by
 have hL:=La.of h
 have hq:=(bcells hL.book).2.2.1
 obtain ⟨nt,T,G,hnt,hT,hGl,_⟩:=hL.table (by simp only [maxLen]; omega)
 obtain ⟨v,hlk,hv⟩:=hT.look hk
 generalize (m.tab k).getD [] = l at *
 generalize (m.tab k).isSome = ok at *
 obtain ⟨A,c,rfl,hc1,hc2,hr,_,hb⟩:=hv
 have HB:=hid hb
 have HCl:=hid (Sw.clone A c l w hr hl)
 clear h hL hT hGl hr hb
 go_enter Tryz.func30,Tryz.ntmps30
 go_wp2_with (fail)
 refine Calls.mono HCl.out ?_
 rintro e w1 ⟨A1,c1,rfl,ho1,hu1⟩
 have HE:=hid (And.intro ho1 hu1)
 clear ho1 hu1 HCl
 go_wp2
 go_ret2
 exact ⟨A1,c1,rfl,HE.out.1,HB.out,HE.out.2⟩
structure Bm.ok (m:Bm):Prop where
 snd:Gl.Snd m.lg m.d
 lgo:m.lg.over = false
 down:m.d.down = false
 fuse:m.d.fuse < 0
 over:m.over = false
 pend:m.pend < 1000000
def Bm.app (m:Bm) (u:List Int):Bm:={ m with lg:=m.lg.add u,d:=Gl.wrs m.d (m.lg.fr + m.lg.used) (Gp.blk m.lg.ep m.lg.used u) (Gp.nbl u) }
def Bm.com (m:Bm) (xs:List Cg):Bm:={ (m.app (encL (xs.map bare))).laid xs with pend:=m.pend + 1 }
theorem sizeC_step (xs:List Cg) {j:Nat} (hj:j < xs.length):sizeC ((xs.take (j + 1)).map bare) = sizeC ((xs.take j).map bare) + (xs[j].1.size + xs[j].2.1.length):=by
 unfold sizeC
 rw [List.take_succ_eq_append_getElem hj,List.map_append,List.map_append,List.sum_append]
 simp only [List.map_cons,List.map_nil,List.sum_cons,List.sum_nil,Nat.add_zero,bare]
theorem app_perm (b:Bp) (m:Bm) (n1 n2:Nat) (R:Ob):(bst b m n1 n2 R).Perm (lgO b.pl b.pd m.lg :: dkO b.pd m.d :: Ob.blk b.q 186 (bcs b m) :: tbO b.b1 n1 m.tab :: chO b.b2 n2 m.ch :: [R]):=by
 have h:([Ob.blk b.q 186 (bcs b m),tbO b.b1 n1 m.tab,chO b.b2 n2 m.ch] ++ [dkO b.pd m.d,lgO b.pl b.pd m.lg]).Perm ([dkO b.pd m.d,lgO b.pl b.pd m.lg] ++ [Ob.blk b.q 186 (bcs b m),tbO b.b1 n1 m.tab,chO b.b2 n2 m.ch]):=List.perm_append_comm
 exact (h.append_right [R]).trans (List.Perm.swap _ _ _)
theorem append {w:World} {F:Nat → Prop} {b:Bp} {m:Bm} {R:Ob} {n1 n2:Nat} (h:Star (bst b m n1 n2 R) w F) (hok:m.ok) {A:Option Addr} {c:Nat} {u:List Int} (hr:Rn w .u8 A u) (hc:u.length ≤ c) (hcm:c ≤ 9223372036854775807) (hA:∀ ad,A = some ad → ¬ F ad.block)
 (hby:Byte u) (hu:0 < u.length ∧ u.length ≤ 60000) (hroom:Gp.nbl u ≤ m.lg.count - m.lg.used) :
 Calls Tryz.prog 109 #[.pointer (some ⟨b.pl,0,none⟩),.slice A u.length c] w fun e w' => e = .returned (.int .i64 0) ∧ ∃ F',Star (bst b (m.app u) n1 n2 R) w' F' ∧ Mv F F' w w':=by
 obtain ⟨G,D,h1,h2,hgd,hgf,hdf,hput⟩:=(h.perm (app_perm b m n1 n2 R)).two
 have hca:Gl.apC m.lg u = 0:=by
  unfold Gl.apC
  rw [if_neg (by omega),if_neg (by omega),if_neg (by omega)]
 have:=Gl.append b.pl b.pd m.lg m.d G D A c u w h1 h2 hok.snd.ok hok.snd.dok hgd hr hc hcm (fun ad e => ⟨fun hk => hA ad e (hdf _ hk),fun hk => hA ad e (hgf _ hk)⟩) hby hok.snd.area hok.snd.size
 rw [Gl.ap_alive hok.lgo hok.down hok.fuse hca] at this
 refine this.mono ?_
 rintro e w' ⟨rfl,⟨G',D',g1,g2,g3,g4,g5⟩,hup⟩
 refine ⟨rfl,?_⟩
 obtain ⟨F',k1,k2⟩:=hput w' G' D' (lgO b.pl b.pd (m.app u).lg) (dkO b.pd (m.app u).d) hup (fun k hk => (g3 k hk).elim .inl fun h => .inr (.inr h)) (fun k hk => (g4 k hk).elim (fun h => .inr (.inl h)) fun h => .inr (.inr h)) g5 g1 g2
 exact ⟨F',k1.perm (app_perm b (m.app u) n1 n2 R).symm,k2⟩
theorem La.back {w w1 w2 W:World} {F F1:Nat → Prop} {b:Bp} {m:Bm} {R:Ob} {n1 n2 j:Nat} (h:La w1 W F1 b m R n1 n2 j) (hu:Upd No w w2) (hm:Mv F F1 w2 w1):La w W F b m R n1 n2 j:=by
 obtain ⟨F',a,c,h1,h2,h3⟩:=h
 refine ⟨F',a,c,h1,?_,h3⟩
 have h:=hm.trans h2
 exact ⟨(hu.mono fun _ _ h => h.elim).next h.upd,fun k hk => (h.sub k hk).elim .inl fun hs => .inr (Nat.le_trans hu.size hs)⟩
theorem La.pend {w W:World} {F:Nat → Prop} {b:Bp} {m:Bm} {R:Ob} {n1 n2 j:Nat} (h:La w W F b m R n1 n2 j) (p:Nat):La w (W.setCell ⟨b.q,8,none⟩ (.int .i64 p)) F b { m with pend:=p } R n1 n2 j:=by
 obtain ⟨F',a,c,h1,h2,h3⟩:=h
 obtain ⟨G,hG,_,hput⟩:=h1.at_ 0 (o:=Ob.blk b.q 186 (bcs b m)) rfl
 obtain ⟨g1,g2⟩:=Ob.blk_put hG 8 (.int .i64 p)
 have e:(bcs b m).setIfInBounds 8 (.int .i64 p) = bcs b { m with pend:=p }:=by simp [bcs]
 rw [e] at g1
 obtain ⟨F2,k1,k2⟩:=hput _ G (Ob.blk b.q 186 (bcs b { m with pend:=p })) g2 g1
 exact ⟨F2,a,c,k1,h2.trans k2,h3⟩
set_option maxRecDepth 100000 in
theorem commit {w:World} {F V:Nat → Prop} {b:Bp} {m:Bm} {R:Ob} {n1 n2:Nat} {A:Option Addr} {c:Nat} {xs:List Cg} (h:Star (bst b m n1 n2 R) w F) (hok:m.ok) (hc:Cl w V (.slice A xs.length c) xs) (hV:∀ k,V k → ¬ F k ∧ k < w.heap.size)
 (hg:Gd xs) (hne:xs ≠ []) (hsz:sizeC (xs.map bare) ≤ 40000) (hroom:Gp.nbl (encL (xs.map bare)) ≤ m.lg.count - m.lg.used) (hn:n1 < 100000000 ∧ n2 < 100000000) :
 Calls Tryz.prog 42 #[.pointer (some ⟨b.q,0,none⟩),.slice A xs.length c] w fun e w' => e = .returned (.int .i64 0) ∧ La w w' F b (m.com xs) R n1 (n2 + xs.length) xs.length:=by
 have hbl:=(La.of h).book
 obtain ⟨⟨c0,c1,c2,c3,c4⟩,c5,c6,c7,c8,c9⟩:=bcells hbl
 rw [hok.over] at c9
 have HW:=hid (wrong_ hc hg)
 have HH:=hid (And.intro h (And.intro hok (And.intro hc (And.intro hV (And.intro hg (And.intro hne (And.intro hsz (And.intro hroom hn))))))))
 have hx0:0 < xs.length:=List.length_pos_iff.2 hne
 have hx100:=hg.few
 have hsz':(sizeC (xs.map bare):Int) ≤ 40000:=by omega
 clear h hok hc hV hg hne hroom hn hbl
 go_enter Tryz.func42,Tryz.ntmps42
 go_wp2_with (fail)
 refine Calls.mono HW.out ?_
 rintro e w1 ⟨rfl,hu1⟩
 have HU1:=hid hu1
 clear hu1 HW
 go_wp2_with (fail)
 go_loopw [6,24] (fun v6 v24 W => ∃ (j:Nat) (s:Nat),j ≤ xs.length ∧ v24 = .int .i64 j ∧ v6 = .int .i64 s ∧ s ≤ 40000 ∧ Hid (s = sizeC ((xs.take j).map bare)) ∧ Hid (Upd No w W)) (fun _ v24 _ => xs.length - (intOf v24).toNat)
 case atStart => exact ⟨0,0,by omega,rfl,rfl,by omega,hid rfl,HU1⟩
 case round =>
  clear HU1
  obtain ⟨j,s,hj,rfl,rfl,hs4,HS,HU⟩:=hrel
  by_cases hlt:j < xs.length
  · obtain ⟨ad,rfl,x0,x1,x2,hvb⟩:=(HH.out.2.2.1.quiet HU.out).get hlt
    have HSt:=hid (sizeC_step xs hlt)
    have HSl:=hid (sizeC_take xs (j + 1))
    generalize xs[j] = y at *
    obtain ⟨k,l,gn,v⟩:=y
    simp only at x0 x1 x2 hvb HSt
    obtain ⟨Al,cl,rfl,hcl1,hcl2,_⟩:=hvb
    have hj1:(0:Int) ≤ (j:Int):=by omega
    have hj2:(j:Int) < (xs.length:Int):=by omega
    have hle:s + k.size + l.length ≤ 40000:=by
     have h1:=HSt.out
     have h2:=HSl.out
     have h3:=HS.out
     omega
    have HB:Hid (∃ W5,W5 = wr.alloc (.cells #[.string k,.slice Al l.length cl,.bool gn] 128) ∧ (W5.cell? ⟨wr.heap.size,0,none⟩ = some (.string k) ∧ W5.cell? ⟨wr.heap.size,1,none⟩ = some (.slice Al l.length cl) ∧ W5.cell? ⟨wr.heap.size,2,none⟩ = some (.bool gn)) ∧ Upd No w W5):=
     hid ⟨_,rfl,b3 (Blk.fresh _ _ _),HU.out.alloc _⟩
    obtain ⟨W5,hW5,⟨y0,y1,y2⟩,hu5⟩:=HB.out
    have HU5:=hid hu5
    have HS5:Hid (s + k.size + l.length = sizeC ((xs.take (j + 1)).map bare)):=hid (by
     have h1:=HSt.out
     have h3:=HS.out
     omega)
    clear HB hu5 HU
    go_wp2_with (fail)
    rw [← hW5]
    clear hW5 x0 x1 x2
    go_wp2
    go_roundw
    case rel => exact ⟨j + 1,s + k.size + l.length,by omega,by go_num,by go_num,hle,HS5,HU5⟩
    case measure => simp [intOf]; omega
  · obtain rfl:j = xs.length:=by omega
    rw [List.take_length] at HS
    have HE:=hid (encode (HH.out.2.2.1.quiet HU.out) HH.out.2.2.2.2.1 HH.out.2.2.2.2.2.2.1)
    have hs40:¬ (40000:Int) < (s:Int):=by omega
    go_wp2_with (fail)
    refine Calls.mono HE.out ?_
    rintro e w2 ⟨A2,c2',rfl,hc2,hcm2,hr2,hu2,hf2⟩
    have HH2:Hid (Upd No w w2):=hid (HU.out.next hu2)
    have hS2:=HH.out.1.quiet HH2.out
    obtain ⟨⟨d0,d1,d2,d3,d4⟩,_⟩:=bcells (La.of hS2).book
    have HA:=hid (append hS2 HH.out.2.1 hr2 hc2 hcm2 (fun ad e hf => by
     have h1:=hf2 ad e
     have h2:=HH.out.1.lt _ hf
     have h3:=HU.out.size
     omega) (encL_byte fun x hx => by
      obtain ⟨y,hy,rfl⟩:=List.mem_map.1 hx
      obtain ⟨_,_,_,_,_,_,_,h6⟩:=HH.out.2.2.1
      obtain ⟨_,_,_,_,_,_,_,h⟩:=h6 y hy
      exact h) (by
      have h1:=encL_pos (xs:=xs.map bare) (by simpa using HH.out.2.2.2.2.2.1)
      have h2:=encL_le (xs.map bare)
      rw [List.length_map] at h2
      have h3:=HH.out.2.2.2.2.2.2.1
      omega) HH.out.2.2.2.2.2.2.2.1)
    generalize hu:encL (xs.map bare) = u at *
    have HUe:=hid hu
    clear hr2 hc2 hcm2 hf2 hu2 hS2 HE HS hu
    go_wp2_with (fail)
    refine Calls.mono HA.out ?_
    rintro e w3 ⟨rfl,F3,hS3,hm3⟩
    have hn:=HH.out.2.2.2.2.2.2.2.2
    have HL:=hid (lay hS3 (V:=V) ((HH.out.2.2.1.quiet HH2.out).upd hm3.upd fun k hk => (HH.out.2.2.2.1 k hk).1) (fun k hk => by
     obtain ⟨h1,h2⟩:=HH.out.2.2.2.1 k hk
     have h3:=HH2.out.size
     have h4:=hm3.upd.size
     exact ⟨fun hf => (hm3.sub k hf).elim h1 fun h => by omega,by omega⟩) HH.out.2.2.2.2.1 hn)
    have HM3:=hid hm3
    clear hS3 hm3 HA d0 d1 d2 d3 d4
    go_wp2_with (fail)
    refine Calls.mono HL.out ?_
    rintro e w4 ⟨rfl,hL4⟩
    have hB4:=hL4.book
    obtain ⟨_,_,_,_,e8,_⟩:=bcells hB4
    have hfr:=hB4.free 8
    have hp:((m.app u).laid xs).pend = m.pend:=rfl
    rw [hp] at e8
    have hp1:=HH.out.2.1.pend
    have HL4:=hid hL4
    clear hL4 hB4 HL
    go_wp2
    go_ret
    refine ⟨rfl,?_⟩
    have h:=(HL4.out.back HH2.out HM3.out).pend (m.pend + 1)
    have e:m.com xs = { (m.app u).laid xs with pend:=m.pend + 1 }:=by
     unfold Bm.com
     rw [HUe.out]
    rw [e]
    exact h
end Bo
end
