/- Part 30: lemmas, no conditions. -/
import Derived.Test.YtclfmpieapbfnaaGreatDoorZ25
import Derived.Test.YtclfmpieapbfnaaGreatDoorZ15
import Derived.Test.YtclfmpieapbfnaaGreatDoorZ09
import Derived.Test.YtclfmpieapbfnaaGreatDoorZ02
import Derived.Test.YtclfmpieapbfnaaGreatDoorZ26
import Derived.Test.YtclfmpieapbfnaaGreatDoorZ10
import Derived.Test.YtclfmpieapbfnaaGreatDoorZ19
import Derived.Test.YtclfmpieapbfnaaGreatDoorZ24
set_option maxHeartbeats 4000000
namespace Go.Proofs.YtclfmpieapbfnaaGreatDoor
set_option linter.unusedVariables false
set_option linter.unusedSimpArgs false
section
namespace Lk
open Go.RowKit B Cw Cr Cd Lt Ib
open Cm (stN)
def tk (l:List Int) (b:Bool):Nat → List Int × List Int × Bool
 | 0 => ([],l,b)
 | j + 1 => ((tk l b j).1 ++ [uz (stN (tk l b j).2.1 (tk l b j).2.2).1],(stN (tk l b j).2.1 (tk l b j).2.2).2.1,(stN (tk l b j).2.1 (tk l b j).2.2).2.2)
theorem tk_length (l:List Int) (b:Bool) (j:Nat):(tk l b j).1.length = j:=by
 induction j with
 | zero => rfl
 | succ j ih => simp [tk,ih]
def hd (l:List Int) (b:Bool):ByteArray × Int × Int × Int × List Int × Bool:=
 let t:=stT l b
 let n:=stN t.2.1 t.2.2
 let k:=stN n.2.1 n.2.2
 let m:=stN k.2.1 k.2.2
 (strOfNums t.1,n.1,uz k.1,m.1,m.2.1,m.2.2)
def takeL (l:List Int) (b:Bool):L × List Int × Bool × Bool:=
 let h:=hd l b
 if 4 < h.2.2.2.1 then (zero,h.2.2.2.2.1,h.2.2.2.2.2,false)
 else
  let a:=tk h.2.2.2.2.1 h.2.2.2.2.2 h.2.2.2.1.toNat
  if a.2.2 || !formed (h.1,h.2.1,h.2.2.1,a.1) then (zero,a.2.1,a.2.2,false) else ((h.1,h.2.1,h.2.2.1,a.1),a.2.1,a.2.2,true)
def TkOut (T:TypeId) (F:Nat → Prop) (p:Nat) (q:L × List Int × Bool × Bool) (w:World) (e:Ending) (w':World):Prop:=
 ∃ v A c,e = .returned (.tuple #[val q.1 v,.bool q.2.2.2]) ∧ In w' q.1 v ∧ (∀ k,v.ownBlock = some k → w.heap.size ≤ k ∧ ∃ cs,Blk w' k 2 cs) ∧ Rr T w' F p A c q.2.1 q.2.2.1 ∧ Upd (fun k => k = p) w w'
theorem TkOut.of {T:TypeId} {F:Nat → Prop} {p:Nat} {q:L × List Int × Bool × Bool} {w:World} {e:Ending} {w':World}
 (h:∃ v A c,e = .returned (.tuple #[val q.1 v,.bool q.2.2.2]) ∧ In w' q.1 v ∧ (∀ k,v.ownBlock = some k → w.heap.size ≤ k ∧ ∃ cs,Blk w' k 2 cs) ∧ Rr T w' F p A c q.2.1 q.2.2.1 ∧ Upd (fun k => k = p) w w'):TkOut T F p q w e w':=h
def Tin (w:World) (F:Nat → Prop) (p:Nat) (st:ByteArray) (n kk:Int) (r:List Int) (b:Bool) (j:Nat) (W:World):Prop:=
 ∃ va A c,Blk W w.heap.size 60 #[.string st,.int .u64 n,.int .i64 kk,va] ∧ W.ownsRow (w.heap.size + 1) 2 1 va (tk r b j).1.length (nums .i64 (tk r b j).1) ∧ Rr 223 W F p A c (tk r b j).2.1 (tk r b j).2.2 ∧ Upd (fun k => k = p) w W
set_option maxRecDepth 100000 in
theorem take_ (F:Nat → Prop) (p c:Nat) (A:Option Addr) (l:List Int) (bd:Bool) (w:World) (h:Rr 223 w F p A c l bd) :
 Calls Tryz.prog 173 #[.pointer (some ⟨p,0,none⟩)] w (TkOut 223 F p (takeL l bd) w):=by
 have hpl:=h.lt p h.here
 have hal:Upd No w (w.alloc (.cells #[.string ⟨#[]⟩,.int .u64 0,.int .i64 0,.slice none 0 0] 60)):=(Upd.refl _ _).alloc _
 have hb1:=Blk.fresh w 60 #[.string ⟨#[]⟩,.int .u64 0,.int .i64 0,.slice none 0 0]
 have h1:=h.keep hal (fun k _ => no_ k)
 obtain ⟨t,r1,b1,hs1⟩:∃ t r1 b1,stT l bd = (t,r1,b1):=⟨_,_,_,rfl⟩
 obtain ⟨n,r2,b2,hs2⟩:∃ n r2 b2,stN r1 b1 = (n,r2,b2):=⟨_,_,_,rfl⟩
 obtain ⟨k,r3,b3,hs3⟩:∃ k r3 b3,stN r2 b2 = (k,r3,b3):=⟨_,_,_,rfl⟩
 obtain ⟨m,r4,b4,hs4⟩:∃ m r4 b4,stN r3 b3 = (m,r4,b4):=⟨_,_,_,rfl⟩
 have hhd:hd l bd = (strOfNums t,n,uz k,m,r4,b4):=by simp only [hd,hs1,hs2,hs3,hs4]
 have hHD:=hid hhd
 have hS1:=hid hs1
 have hS2:=hid hs2
 have hS3:=hid hs3
 have hS4:=hid hs4
 clear hhd hs1 hs2 hs3 hs4
 obtain ⟨y0,y1,y2,y3⟩:=box hb1
 go_enter Tryz.func173,Tryz.ntmps173
 go_wp2_with (fail)
 generalize w.alloc (.cells #[.string ⟨#[]⟩,.int .u64 0,.int .i64 0,.slice none 0 0] 60) = w1 at *
 refine (rtext_eq h1 hS1.out).mono ?_
 rintro e w2 ⟨rfl,A2,c2,h2,hu2⟩
 go_wp2_with (fail)
 refine (rnumber_eq h2 hS2.out).mono ?_
 rintro e w3 ⟨rfl,A3,c3,h3,hu3⟩
 go_wp2_with (fail)
 refine (rint_eq h3 hS3.out rfl).mono ?_
 rintro e w4 ⟨rfl,A4,c4,h4,hu4⟩
 have hu24:Upd (fun k => k = p) w w4:=(((hal.mono fun _ _ h => h.elim).next hu2).next hu3).next hu4
 have hne:¬ w.heap.size = p:=by omega
 have hb4:=((hb1.upd hu2 hne).upd hu3 hne).upd hu4 hne
 clear y0 y1 y2 y3
 obtain ⟨y0,y1,y2,y3⟩:=box hb4
 have f0:=hb4.free 0
 have f1:=hb4.free 1
 have f2:=hb4.free 2
 have hb7:=((hb4.put 0 (.string (strOfNums t))).put 1 (.int .u64 n)).put 2 (.int .i64 (uz k))
 simp only [List.setIfInBounds_toArray,List.set_cons_zero,List.set_cons_succ] at hb7
 have hu7:Upd (fun k => k = p) w (((w4.setCell ⟨w.heap.size,0,none⟩ (.string (strOfNums t))).setCell ⟨w.heap.size,1,none⟩ (.int .u64 n)).setCell ⟨w.heap.size,2,none⟩ (.int .i64 (uz k))):=((hu24.set (.inr (Nat.le_refl _)) _).set (.inr (Nat.le_refl _)) _).set (.inr (Nat.le_refl _)) _
 have hF:∀ k,F k → ¬ k = w.heap.size:=fun k hk e => by have:=h.lt k hk; omega
 have h7:=h4.keep ((((Upd.refl (fun k => k = w.heap.size) w4).set1 0 (.string (strOfNums t))).set1 1 (.int .u64 n)).set1 2 (.int .i64 (uz k))) hF
 clear hu2 hu3 hu4 h2 h3 h4 hb1 hb4 h1 hal hu24
 go_wp2_with (fail)
 generalize (((w4.setCell ⟨w.heap.size,0,none⟩ (.string (strOfNums t))).setCell ⟨w.heap.size,1,none⟩ (.int .u64 n)).setCell ⟨w.heap.size,2,none⟩ (.int .i64 (uz k))) = w7 at *
 refine (rnumber_eq h7 hS4.out).mono ?_
 rintro e w8 ⟨rfl,A8,c8,h8,hu8⟩
 have hu8':=hu7.next hu8
 have hb8:=hb7.upd hu8 hne
 have hmr:0 ≤ m:=by
  have:=(stN_range r3 b3 h7.byte).1
  rw [hS4.out] at this
  exact this
 clear hu7 hu8 hb7 h7 f0 f1 f2 y0 y1 y2 y3
 by_cases hm:4 < m
 · have hout:takeL l bd = (zero,r4,b4,false):=by simp [takeL,hHD.out,hm]
   have hout':=hid hout
   clear hout
   obtain ⟨y0,y1,y2,y3⟩:=box hb8
   have f0:=hb8.free 0
   have f1:=hb8.free 1
   have f2:=hb8.free 2
   have f3:=hb8.free 3
   have hle:=Nat.le_refl w.heap.size
   have HB:=hid (put4_blk hb8 zero (.slice none 0 0))
   have HU:Hid (Upd (fun k => k = p) w (put4 w8 w.heap.size zero (.slice none 0 0))):=hid ((((hu8'.set (.inr hle) _).set (.inr hle) _).set (.inr hle) _).set (.inr hle) _)
   have HR:=hid (h8.keep (put4_upd w8 w.heap.size zero (.slice none 0 0)) hF)
   clear hb8 hu8' h8 hF h
   go_wp2
   simp only [put4,zero] at HB HU HR
   generalize (((w8.setCell ⟨w.heap.size,0,none⟩ (.string ⟨#[]⟩)).setCell ⟨w.heap.size,1,none⟩ (.int .u64 0)).setCell ⟨w.heap.size,2,none⟩ (.int .i64 0)).setCell ⟨w.heap.size,3,none⟩ (.slice none 0 0) = W5 at *
   obtain ⟨q0,q1,q2,q3⟩:=box HB.out
   exact bodyPost_ret (v:=.tuple #[val zero (.slice none 0 0),.bool false]) (by simp [results,go_sem,q0,q1,q2,q3,val,zero]) rfl (by rw [hout'.out]; exact .of ⟨_,_,_,rfl,In.nil _,fun k hk => by simp [Value.ownBlock] at hk,HR.out,HU.out⟩)
 · obtain ⟨mm,rfl⟩:=Int.eq_ofNat_of_zero_le hmr
   have hm4:mm ≤ 4:=by omega
   have hout:takeL l bd = (if (tk r4 b4 mm).2.2 || !formed (strOfNums t,n,uz k,(tk r4 b4 mm).1) then (zero,(tk r4 b4 mm).2.1,(tk r4 b4 mm).2.2,false) else ((strOfNums t,n,uz k,(tk r4 b4 mm).1),(tk r4 b4 mm).2.1,(tk r4 b4 mm).2.2,true)):=by
    simp only [takeL,hHD.out,hm,if_false,Int.toNat_natCast]
   have hout':=hid hout
   clear hout
   have hI0:Tin w F p (strOfNums t) n (uz k) r4 b4 0 w8:=⟨_,_,_,hb8,World.ownsRow_nil _ _ _ _,h8,hu8'⟩
   clear hb8 h8 hu8'
   go_wp2_with (fail)
   obtain ⟨wo,hwo⟩:∃ wo:World,wo = w8:=⟨_,rfl⟩
   go_loopw [20] (fun vv W => ∃ j:Nat,j ≤ mm ∧ vv = .int .u64 j ∧ Hid (Tin w F p (strOfNums t) n (uz k) r4 b4 j W)) (fun vv _ => mm - (intOf vv).toNat)
   case atStart => exact ⟨0,by omega,rfl,hid hI0⟩
   case round =>
    obtain ⟨j,hj,rfl,hH⟩:=hrel
    obtain ⟨va,A9,c9,hb,ho,hr,hu⟩:=hH.out
    obtain ⟨Aa,ca,rfl,_,_⟩:=own_shape ho
    have htl:=tk_length r4 b4 j
    by_cases hlt:j < mm
    · obtain ⟨z,r',b',hz⟩:∃ z r' b',stN (tk r4 b4 j).2.1 (tk r4 b4 j).2.2 = (z,r',b'):=⟨_,_,_,rfl⟩
      have HN:Hid (tk r4 b4 (j + 1) = ((tk r4 b4 j).1 ++ [uz z],r',b')):=hid (by simp only [tk,hz])
      have HZ:=hid hz
      clear hz hH
      generalize tk r4 b4 j = q at *
      obtain ⟨xs,rr,bb⟩:=q
      simp only at hb ho hr htl HN HZ
      have hsz:=hu.size
      have hbl:=hb.lt
      have HO:=hid ho
      have HR:=hid hr
      have c0:=box hb
      have hbF:¬ w.heap.size = p:=hne
      have HM:=hid htl
      have hxl:xs.length ≤ 4:=by omega
      clear htl
      go_wp2_with (fail)
      refine wp_region_held_drew (S:=fun _ => True) (by kernel_rfl) trivial (fun hS => ?_)
      refine zt 0 hS ?_
      refine zt 2 hS ?_
      refine rg_two 1 3 (by kernel_rfl) ?_ ?_
      · refine zs 1 (fun K hK => ?_)
        go_simp
        refine hK.out _ _ (trivial) (fun hS => ?_)
        clear hK K
        try simp only [Act.put,zA,zB,zC]
        refine zk 3 (fun K hK => ?_)
        go_simp
        refine (rint_eq (w:=wr.drew) (HR.out.keep (Upd.drew (Upd.refl No wr)) (fun k _ => no_ k)) HZ.out rfl).mono ?_
        rintro e w3 ⟨rfl,A3,c3,h3,hu3⟩
        have hu3':=Upd.of_drew hu3
        have b3':=hb.upd hu3' hbF
        have d3:=box b3'
        have e3:∀ o,(w3.alloc o).cell? ⟨w.heap.size,3,none⟩ = some (.slice Aa xs.length ca):=fun o => (box (b3'.alloc o)).2.2.2
        go_wp2_with (fail)
        refine hK.out _ _ (trivial) (fun hS => ?_)
        clear hK K
        try simp only [Act.put,zA,zB,zC]
        refine zk 4 (fun K hK => ?_)
        go_simp
        refine hK.out _ _ (trivial) (fun hS => ?_)
        clear hK K
        try simp only [Act.put,zA,zB,zC]
        refine zk 5 (fun K hK => ?_)
        refine wp_ap_one (base:=w.heap.size + 1) (.tmp 23) (.tmp 26) 40 2 (.int .i64 0) 8 (by rfl) Tryz.underlying40 i64_info rfl (.slice Aa xs.length ca) xs.length (nums .i64 xs) (.int .i64 (uz z)) (by rfl) (by rfl) (Blk.fresh w3 _ _) rfl (own_upd HO.out (hu3'.alloc _) (fun k hk e => by have:=(World.ownsRow.lt HO.out k hk).1; omega)) (by omega) (by omega) ?_ (by have:=hu3'.size; simp; omega)
        intro g1 c1 w1 ho1 hg1 hat1
        have hgu:∀ k,(Value.slice Aa xs.length ca).ownBlock = some k → w.heap.size + 1 ≤ k:=fun k hk => (World.ownsRow.lt HO.out k hk).1
        have bg:=(b3'.alloc (.cells #[.int .i64 (uz z)] 2)).grown hg1 (fun e => by have:=hgu _ e.symm; omega)
        have dg:=box bg
        have fg:=bg.free 3
        refine hK.out _ _ (trivial) (fun hS => ?_)
        clear hK K
        try simp only [Act.put,zA,zB,zC]
        refine zt 6 hS ?_
        refine zk 7 (fun K hK => ?_)
        go_simp
        refine hK.out _ _ (trivial) (fun hS => ?_)
        clear hK K
        try simp only [Act.put,zA,zB,zC]
        refine wpAnyH_done (by kernel_rfl) ?_ _
        have hRes:Hid (Tin w F p (strOfNums t) n (uz k) r4 b4 (j + 1) (w1.setCell ⟨w.heap.size,3,none⟩ (.slice (some ⟨g1,0,none⟩) (xs.length + 1) c1))):=hid (by
        have U:=((((Upd.refl (fun k => w.heap.size ≤ k) w3).alloc (.cells #[.int .i64 (uz z)] 2)).grown hg1 (fun k hk => .inl (by have:=hgu k hk; omega))).set (p:=⟨w.heap.size,3,none⟩) (.inl (Nat.le_refl _)) (.slice (some ⟨g1,0,none⟩) (xs.length + 1) c1))
        have V:=(((hu.next hu3').alloc (.cells #[.int .i64 (uz z)] 2)).grown hg1 (fun k hk => .inr (by have:=hgu k hk; omega))).set (p:=⟨w.heap.size,3,none⟩) (.inr (Nat.le_refl _)) (.slice (some ⟨g1,0,none⟩) (xs.length + 1) c1)
        have P:=bg.put 3 (.slice (some ⟨g1,0,none⟩) (xs.length + 1) c1)
        unfold Tin
        rw [HN.out]
        refine ⟨.slice (some ⟨g1,0,none⟩) (xs.length + 1) c1,A3,c3,by simpa using P,?_,h3.keep U (fun k hk e => by have:=h.lt k hk; omega),V⟩
        rw [nums_append,List.length_append]
        exact own_upd ho1 ((Upd.refl (fun k => k = w.heap.size) w1).set1 3 _) (fun k hk e => by have:=(World.ownsRow.lt ho1 k hk).1; omega))
        go_wp2
        go_roundw
        case rel => exact ⟨j + 1,by omega,by go_num,hRes⟩
        case measure => simp [intOf]; omega
      · refine zs 3 (fun K hK => ?_)
        go_simp
        refine (rint_eq (w:=wr.drew) (HR.out.keep (Upd.drew (Upd.refl No wr)) (fun k _ => no_ k)) HZ.out rfl).mono ?_
        rintro e w3 ⟨rfl,A3,c3,h3,hu3⟩
        have hu3':=Upd.of_drew hu3
        have b3':=hb.upd hu3' hbF
        have d3:=box b3'
        have e3:∀ o,(w3.alloc o).cell? ⟨w.heap.size,3,none⟩ = some (.slice Aa xs.length ca):=fun o => (box (b3'.alloc o)).2.2.2
        go_wp2_with (fail)
        refine hK.out _ _ (trivial) (fun hS => ?_)
        clear hK K
        try simp only [Act.put,zA,zB,zC]
        refine rg_two 1 4 (by kernel_rfl) ?_ ?_
        · refine zs 1 (fun K hK => ?_)
          go_simp
          refine hK.out _ _ (trivial) (fun hS => ?_)
          clear hK K
          try simp only [Act.put,zA,zB,zC]
          refine zk 4 (fun K hK => ?_)
          go_simp
          refine hK.out _ _ (trivial) (fun hS => ?_)
          clear hK K
          try simp only [Act.put,zA,zB,zC]
          refine zk 5 (fun K hK => ?_)
          refine wp_ap_one (base:=w.heap.size + 1) (.tmp 23) (.tmp 26) 40 2 (.int .i64 0) 8 (by rfl) Tryz.underlying40 i64_info rfl (.slice Aa xs.length ca) xs.length (nums .i64 xs) (.int .i64 (uz z)) (by rfl) (by rfl) (Blk.fresh w3 _ _) rfl (own_upd HO.out (hu3'.alloc _) (fun k hk e => by have:=(World.ownsRow.lt HO.out k hk).1; omega)) (by omega) (by omega) ?_ (by have:=hu3'.size; simp; omega)
          intro g1 c1 w1 ho1 hg1 hat1
          have hgu:∀ k,(Value.slice Aa xs.length ca).ownBlock = some k → w.heap.size + 1 ≤ k:=fun k hk => (World.ownsRow.lt HO.out k hk).1
          have bg:=(b3'.alloc (.cells #[.int .i64 (uz z)] 2)).grown hg1 (fun e => by have:=hgu _ e.symm; omega)
          have dg:=box bg
          have fg:=bg.free 3
          refine hK.out _ _ (trivial) (fun hS => ?_)
          clear hK K
          try simp only [Act.put,zA,zB,zC]
          refine zt 6 hS ?_
          refine zk 7 (fun K hK => ?_)
          go_simp
          refine hK.out _ _ (trivial) (fun hS => ?_)
          clear hK K
          try simp only [Act.put,zA,zB,zC]
          refine wpAnyH_done (by kernel_rfl) ?_ _
          have hRes:Hid (Tin w F p (strOfNums t) n (uz k) r4 b4 (j + 1) (w1.setCell ⟨w.heap.size,3,none⟩ (.slice (some ⟨g1,0,none⟩) (xs.length + 1) c1))):=hid (by
          have U:=((((Upd.refl (fun k => w.heap.size ≤ k) w3).alloc (.cells #[.int .i64 (uz z)] 2)).grown hg1 (fun k hk => .inl (by have:=hgu k hk; omega))).set (p:=⟨w.heap.size,3,none⟩) (.inl (Nat.le_refl _)) (.slice (some ⟨g1,0,none⟩) (xs.length + 1) c1))
          have V:=(((hu.next hu3').alloc (.cells #[.int .i64 (uz z)] 2)).grown hg1 (fun k hk => .inr (by have:=hgu k hk; omega))).set (p:=⟨w.heap.size,3,none⟩) (.inr (Nat.le_refl _)) (.slice (some ⟨g1,0,none⟩) (xs.length + 1) c1)
          have P:=bg.put 3 (.slice (some ⟨g1,0,none⟩) (xs.length + 1) c1)
          unfold Tin
          rw [HN.out]
          refine ⟨.slice (some ⟨g1,0,none⟩) (xs.length + 1) c1,A3,c3,by simpa using P,?_,h3.keep U (fun k hk e => by have:=h.lt k hk; omega),V⟩
          rw [nums_append,List.length_append]
          exact own_upd ho1 ((Upd.refl (fun k => k = w.heap.size) w1).set1 3 _) (fun k hk e => by have:=(World.ownsRow.lt ho1 k hk).1; omega))
          go_wp2
          go_roundw
          case rel => exact ⟨j + 1,by omega,by go_num,hRes⟩
          case measure => simp [intOf]; omega
        · refine zs 4 (fun K hK => ?_)
          go_simp
          refine hK.out _ _ (trivial) (fun hS => ?_)
          clear hK K
          try simp only [Act.put,zA,zB,zC]
          refine zk 1 (fun K hK => ?_)
          go_simp
          refine hK.out _ _ (trivial) (fun hS => ?_)
          clear hK K
          try simp only [Act.put,zA,zB,zC]
          refine zk 5 (fun K hK => ?_)
          refine wp_ap_one (base:=w.heap.size + 1) (.tmp 23) (.tmp 26) 40 2 (.int .i64 0) 8 (by rfl) Tryz.underlying40 i64_info rfl (.slice Aa xs.length ca) xs.length (nums .i64 xs) (.int .i64 (uz z)) (by rfl) (by rfl) (Blk.fresh w3 _ _) rfl (own_upd HO.out (hu3'.alloc _) (fun k hk e => by have:=(World.ownsRow.lt HO.out k hk).1; omega)) (by omega) (by omega) ?_ (by have:=hu3'.size; simp; omega)
          intro g1 c1 w1 ho1 hg1 hat1
          have hgu:∀ k,(Value.slice Aa xs.length ca).ownBlock = some k → w.heap.size + 1 ≤ k:=fun k hk => (World.ownsRow.lt HO.out k hk).1
          have bg:=(b3'.alloc (.cells #[.int .i64 (uz z)] 2)).grown hg1 (fun e => by have:=hgu _ e.symm; omega)
          have dg:=box bg
          have fg:=bg.free 3
          refine hK.out _ _ (trivial) (fun hS => ?_)
          clear hK K
          try simp only [Act.put,zA,zB,zC]
          refine zt 6 hS ?_
          refine zk 7 (fun K hK => ?_)
          go_simp
          refine hK.out _ _ (trivial) (fun hS => ?_)
          clear hK K
          try simp only [Act.put,zA,zB,zC]
          refine wpAnyH_done (by kernel_rfl) ?_ _
          have hRes:Hid (Tin w F p (strOfNums t) n (uz k) r4 b4 (j + 1) (w1.setCell ⟨w.heap.size,3,none⟩ (.slice (some ⟨g1,0,none⟩) (xs.length + 1) c1))):=hid (by
          have U:=((((Upd.refl (fun k => w.heap.size ≤ k) w3).alloc (.cells #[.int .i64 (uz z)] 2)).grown hg1 (fun k hk => .inl (by have:=hgu k hk; omega))).set (p:=⟨w.heap.size,3,none⟩) (.inl (Nat.le_refl _)) (.slice (some ⟨g1,0,none⟩) (xs.length + 1) c1))
          have V:=(((hu.next hu3').alloc (.cells #[.int .i64 (uz z)] 2)).grown hg1 (fun k hk => .inr (by have:=hgu k hk; omega))).set (p:=⟨w.heap.size,3,none⟩) (.inr (Nat.le_refl _)) (.slice (some ⟨g1,0,none⟩) (xs.length + 1) c1)
          have P:=bg.put 3 (.slice (some ⟨g1,0,none⟩) (xs.length + 1) c1)
          unfold Tin
          rw [HN.out]
          refine ⟨.slice (some ⟨g1,0,none⟩) (xs.length + 1) c1,A3,c3,by simpa using P,?_,h3.keep U (fun k hk e => by have:=h.lt k hk; omega),V⟩
          rw [nums_append,List.length_append]
          exact own_upd ho1 ((Upd.refl (fun k => k = w.heap.size) w1).set1 3 _) (fun k hk e => by have:=(World.ownsRow.lt ho1 k hk).1; omega))
          go_wp2
          go_roundw
          case rel => exact ⟨j + 1,by omega,by go_num,hRes⟩
          case measure => simp [intOf]; omega
    · obtain rfl:j = mm:=by omega
      clear hH
      have HO:=hid ho
      generalize tk r4 b4 j = q at *
      obtain ⟨xs,rr,bb⟩:=q
      simp only at hb ho hr htl HO hout'
      have hxl:xs.length ≤ 4:=by omega
      have hBad:=bad p bb _ wr hr.blk
      have HBad:=hid hBad
      have HS:=hid (And.intro hb (And.intro hu hr))
      have hus:=hu.size
      clear hBad htl ho hb hu hr
      rcases bb with _ | _
      · obtain ⟨y0,y1,y2,y3⟩:=box HS.out.1
        go_wp2_with (fail)
        refine HBad.out.mono ?_
        rintro e w9 ⟨rfl,rfl⟩
        have hIn:In wr (strOfNums t,n,uz k,xs) (.slice Aa xs.length ca):=by
         obtain ⟨_,_,he,q1,q2⟩:=Sl.shape (Sl.of_own HO.out)
         simp only [Value.slice.injEq,true_and] at he
         obtain ⟨_,rfl⟩:=he
         exact ⟨Aa,ca,rfl,Rd.of_own HO.out,q1,q2⟩
        have HF:=hid (formed_ (strOfNums t,n,uz k,xs) (.slice Aa xs.length ca) wr hIn)
        unfold val at HF
        simp only at HF
        have HIn:=hid hIn
        clear hIn
        rcases hfo:formed (strOfNums t,n,uz k,xs) with _ | _
        · have hout2:Hid (takeL l bd = (zero,rr,false,false)):=hid (by rw [hout'.out,hfo]; rfl)
          rw [hfo] at HF
          clear hfo hout'
          go_wp2_with (fail)
          refine HF.out.mono ?_
          rintro e w10 ⟨rfl,hu10⟩
          have hb10:=HS.out.1.upd hu10 (no_ _)
          have hu10':=HS.out.2.1.next (hu10.mono fun _ _ h => h.elim)
          have hr10:=HS.out.2.2.keep hu10 (fun _ _ => no_ _)
          clear y0 y1 y2 y3
          obtain ⟨y0,y1,y2,y3⟩:=box hb10
          have f0:=hb10.free 0
          have f1:=hb10.free 1
          have f2:=hb10.free 2
          have f3:=hb10.free 3
          have hle:=Nat.le_refl w.heap.size
          have HB:=hid (put4_blk hb10 zero (.slice none 0 0))
          have HU:Hid (Upd (fun k => k = p) w (put4 w10 w.heap.size zero (.slice none 0 0))):=hid ((((hu10'.set (.inr hle) _).set (.inr hle) _).set (.inr hle) _).set (.inr hle) _)
          have HR:=hid (hr10.keep (put4_upd w10 w.heap.size zero (.slice none 0 0)) hF)
          clear hb10 hu10' hr10
          go_wp2
          simp only [put4,zero] at HB HU HR
          generalize (((w10.setCell ⟨w.heap.size,0,none⟩ (.string ⟨#[]⟩)).setCell ⟨w.heap.size,1,none⟩ (.int .u64 0)).setCell ⟨w.heap.size,2,none⟩ (.int .i64 0)).setCell ⟨w.heap.size,3,none⟩ (.slice none 0 0) = W5 at *
          obtain ⟨q0,q1,q2,q3⟩:=box HB.out
          exact bodyPost_ret (v:=.tuple #[val zero (.slice none 0 0),.bool false]) (by simp [results,go_sem,q0,q1,q2,q3,val,zero]) rfl (by rw [hout2.out]; exact .of ⟨_,_,_,rfl,In.nil _,fun k hk => by simp [Value.ownBlock] at hk,HR.out,HU.out⟩)
        · have hout2:Hid (takeL l bd = ((strOfNums t,n,uz k,xs),rr,false,true)):=hid (by rw [hout'.out,hfo]; rfl)
          rw [hfo] at HF
          clear hfo hout'
          go_wp2_with (fail)
          refine HF.out.mono ?_
          rintro e w10 ⟨rfl,hu10⟩
          have hb10:=HS.out.1.upd hu10 (no_ _)
          have hu10':=HS.out.2.1.next (hu10.mono fun _ _ h => h.elim)
          have hr10:=HS.out.2.2.keep hu10 (fun _ _ => no_ _)
          have HW10:Hid (In w10 (strOfNums t,n,uz k,xs) (.slice Aa xs.length ca) ∧ ∀ g,(Value.slice Aa xs.length ca).ownBlock = some g → w.heap.size + 1 ≤ g ∧ ∃ cs,Blk w10 g 2 cs):=hid ⟨HIn.out.upd hu10 (fun _ _ => no_ _),fun g hg => ⟨(HO.out.lt g hg).1,(Sl.blk (Sl.of_own HO.out) hg).elim fun cs h => ⟨cs,h.upd hu10 (no_ _)⟩⟩⟩
          clear y0 y1 y2 y3
          obtain ⟨y0,y1,y2,y3⟩:=box hb10
          have f0:=hb10.free 0
          have f1:=hb10.free 1
          have f2:=hb10.free 2
          have f3:=hb10.free 3
          have hle:=Nat.le_refl w.heap.size
          have HB:=hid (put4_blk hb10 (strOfNums t,n,uz k,xs) (.slice Aa xs.length ca))
          have HU:Hid (Upd (fun k => k = p) w (put4 w10 w.heap.size (strOfNums t,n,uz k,xs) (.slice Aa xs.length ca))):=hid ((((hu10'.set (.inr hle) _).set (.inr hle) _).set (.inr hle) _).set (.inr hle) _)
          have hpu:=put4_upd w10 w.heap.size (strOfNums t,n,uz k,xs) (.slice Aa xs.length ca)
          have HR:=hid (hr10.keep hpu hF)
          have HV:=hid (And.intro (HW10.out.1.upd hpu fun g hg e => by have:=(HW10.out.2 g hg).1; omega) (fun g hg => (HW10.out.2 g hg).2.elim fun cs h => (⟨cs,h.upd hpu fun e => by have:=(HW10.out.2 g hg).1; omega⟩:∃ cs,Blk _ g 2 cs)))
          have HG:=hid (fun g hg => (HW10.out.2 g hg).1)
          clear hb10 hu10' hr10 hpu HW10 hu10
          go_wp2
          simp only [put4] at HB HU HR HV
          generalize (((w10.setCell ⟨w.heap.size,0,none⟩ (.string (strOfNums t))).setCell ⟨w.heap.size,1,none⟩ (.int .u64 n)).setCell ⟨w.heap.size,2,none⟩ (.int .i64 (uz k))).setCell ⟨w.heap.size,3,none⟩ (.slice Aa xs.length ca) = W5 at *
          obtain ⟨q0,q1,q2,q3⟩:=box HB.out
          exact bodyPost_ret (v:=.tuple #[val (strOfNums t,n,uz k,xs) (.slice Aa xs.length ca),.bool true]) (by simp [results,go_sem,q0,q1,q2,q3,val]) rfl (by rw [hout2.out]; exact .of ⟨_,_,_,rfl,HV.out.1,fun g hg => ⟨by have:=HG.out g hg; omega,HV.out.2 g hg⟩,HR.out,HU.out⟩)
      · have hout2:Hid (takeL l bd = (zero,rr,true,false)):=hid (by rw [hout'.out]; rfl)
        clear hout'
        obtain ⟨y0,y1,y2,y3⟩:=box HS.out.1
        go_wp2_with (fail)
        refine HBad.out.mono ?_
        rintro e w9 ⟨rfl,rfl⟩
        have hb10:=HS.out.1
        have hu10':=HS.out.2.1
        have hr10:=HS.out.2.2
        clear y0 y1 y2 y3
        obtain ⟨y0,y1,y2,y3⟩:=box hb10
        have f0:=hb10.free 0
        have f1:=hb10.free 1
        have f2:=hb10.free 2
        have f3:=hb10.free 3
        have hle:=Nat.le_refl w.heap.size
        have HB:=hid (put4_blk hb10 zero (.slice none 0 0))
        have HU:Hid (Upd (fun k => k = p) w (put4 wr w.heap.size zero (.slice none 0 0))):=hid ((((hu10'.set (.inr hle) _).set (.inr hle) _).set (.inr hle) _).set (.inr hle) _)
        have HR:=hid (hr10.keep (put4_upd wr w.heap.size zero (.slice none 0 0)) hF)
        clear hb10 hu10' hr10
        go_wp2
        simp only [put4,zero] at HB HU HR
        generalize (((wr.setCell ⟨w.heap.size,0,none⟩ (.string ⟨#[]⟩)).setCell ⟨w.heap.size,1,none⟩ (.int .u64 0)).setCell ⟨w.heap.size,2,none⟩ (.int .i64 0)).setCell ⟨w.heap.size,3,none⟩ (.slice none 0 0) = W5 at *
        obtain ⟨q0,q1,q2,q3⟩:=box HB.out
        exact bodyPost_ret (v:=.tuple #[val zero (.slice none 0 0),.bool false]) (by simp [results,go_sem,q0,q1,q2,q3,val,zero]) rfl (by rw [hout2.out]; exact .of ⟨_,_,_,rfl,In.nil _,fun k hk => by simp [Value.ownBlock] at hk,HR.out,HU.out⟩)
end Lk
end
section
namespace Lj
open Go.RowKit B Cw Cr Cd Lt Ib Lk
def decL (l:List Int):L × Int:=if (takeL l false).2.2.2 && (!(takeL l false).2.2.1 && decide ((takeL l false).2.1.length = 0)) then ((takeL l false).1,0) else (zero,2)
end Lj
end
section
namespace Lc
open Go.RowKit B Cw Lt
open Cm (num num_length)
open Ib (In.updn In.block)
def ints (l:List Int):List Int:=l.flatMap fun z => num (zz z)
theorem ints_take (l:List Int) (j:Nat) (hj:j < l.length):ints (l.take (j + 1)) = ints (l.take j) ++ num (zz (gi l j)):=by
 rw [List.take_succ_eq_append_getElem hj]
 simp only [ints,gi,List.getD_eq_getElem?_getD,List.getElem?_eq_getElem hj,List.flatMap_append,List.flatMap_cons,List.flatMap_nil,List.append_nil,Option.getD_some]
theorem ints_le (l:List Int):(ints l).length ≤ 9 * l.length:=by
 induction l with
 | nil => simp [ints]
 | cons z r ih =>
  have:=num_length (zz z)
  simp only [ints,List.flatMap_cons,List.length_append,List.length_cons] at *
  omega
def hb (x:L):List Int:=num x.1.size ++ sb x.1 ++ num x.2.1 ++ num (zz x.2.2.1) ++ num x.2.2.2.length
def lb (x:L):List Int:=hb x ++ ints x.2.2.2
theorem lb_le (x:L):(lb x).length ≤ x.1.size + 9 * x.2.2.2.length + 36:=by
 have h1:=num_length (x.1.size:Int)
 have h2:=num_length x.2.1
 have h3:=num_length (zz x.2.2.1)
 have h4:=num_length (x.2.2.2.length:Int)
 have h5:=ints_le x.2.2.2
 simp only [lb,hb,List.length_append,sb_length]
 omega
structure Wf (x:L):Prop where
 u:0 ≤ x.2.1 ∧ x.2.1 ≤ 18446744073709551615
 k:-9223372036854775808 ≤ x.2.2.1 ∧ x.2.2.1 ≤ 9223372036854775807
 a:∀ i,i < x.2.2.2.length → -9223372036854775808 ≤ gi x.2.2.2 i ∧ gi x.2.2.2 i ≤ 9223372036854775807
set_option maxRecDepth 100000 in
theorem lay_ (p:Nat) (bs:List Int) (x:L) (u:Value) (F:Nat → Prop) (w:World) (hw:Wr w F p bs) (hx:In w x u) (hn:0 < x.2.2.2.length → ∀ k,u.ownBlock = some k → ¬ F k) (hwf:Wf x) (hl:bs.length + x.1.size + 9 * x.2.2.2.length ≤ 140737488350000) :
 Calls Tryz.prog 238 #[.pointer (some ⟨p,0,none⟩),val x u] w fun e w' => e = .returned (.tuple #[]) ∧ ∃ F',Wr w' F' p (bs ++ lb x) ∧ Mv F F' w w':=by
 have hx0:=hx
 obtain ⟨A,c,hue,_,hq1,hq2⟩:=hx0
 subst hue
 simp only [maxLen] at hq1 hq2
 unfold val
 have hal:Upd No w (w.alloc (.cells #[.string x.1,.int .u64 x.2.1,.int .i64 x.2.2.1,.slice A x.2.2.2.length c] 60)):=(Upd.refl _ _).alloc _
 have hbx:=Blk.fresh w 60 #[.string x.1,.int .u64 x.2.1,.int .i64 x.2.2.1,.slice A x.2.2.2.length c]
 have hw1:=hw.keep hal fun k _ => no_ k
 have hm1:Mv F F w (w.alloc (.cells #[.string x.1,.int .u64 x.2.1,.int .i64 x.2.2.1,.slice A x.2.2.2.length c] 60)):=⟨hal.mono fun _ _ h => h.elim,fun k hk => .inl hk⟩
 have hx1:=hx.upd hal (fun _ _ => no_ _)
 have hlt:=hw.lt
 have HK:Hid (∀ W F',Mv F F' (w.alloc (.cells #[.string x.1,.int .u64 x.2.1,.int .i64 x.2.2.1,.slice A x.2.2.2.length c] 60)) W → Blk W w.heap.size 60 #[.string x.1,.int .u64 x.2.1,.int .i64 x.2.2.1,.slice A x.2.2.2.length c] ∧ Rn W .i64 A x.2.2.2 ∧ Mv F F' w W):=
  hid fun W F' hm => ⟨hbx.upd hm.upd fun h => by have:=hlt _ h; omega,(In.updn hx1 hm.upd hn).elim fun A' h => h.elim fun c' h => by
   obtain ⟨h1,h2,_⟩:=h
   simp only [Value.slice.injEq,true_and] at h1
   obtain ⟨rfl,rfl⟩:=h1
   exact h2,hm1.trans hm⟩
 obtain ⟨y0,y1,y2,y3⟩:=box hbx
 have hh:Hid (lb x = num x.1.size ++ sb x.1 ++ num x.2.1 ++ num (zz x.2.2.1) ++ num x.2.2.2.length ++ ints x.2.2.2):=hid rfl
 have n1:=num_length (x.1.size:Int)
 have n2:=num_length x.2.1
 have n3:=num_length (zz x.2.2.1)
 have n4:=num_length (x.2.2.2.length:Int)
 have n5:=sb_length x.1
 have hwf':=hid hwf
 have hu:=hwf.u
 have hk:=hwf.k
 clear hwf
 go_enter Tryz.func238,Tryz.ntmps238
 go_wp2_with (fail)
 generalize w.alloc (.cells #[.string x.1,.int .u64 x.2.1,.int .i64 x.2.2.1,.slice A x.2.2.2.length c] 60) = w1 at *
 refine (text_ p bs x.1 F w1 hw1 (by omega)).mono ?_
 rintro e w2 ⟨rfl,F2,hw2,hm2⟩
 clear y0 y1 y2 y3 hbx hal hx1 hw1 hm1
 obtain ⟨y0,y1,y2,y3⟩:=box (HK.out w2 F2 hm2).1
 go_wp2_with (fail)
 refine (number p _ x.2.1 F2 w2 hw2 hu.1 hu.2 (by simp only [List.length_append]; omega)).mono ?_
 rintro e w3 ⟨rfl,F3,hw3,hm3⟩
 have hm3:=hm2.trans hm3
 clear y0 y1 y2 y3 hw2 hm2
 obtain ⟨y0,y1,y2,y3⟩:=box (HK.out w3 F3 hm3).1
 go_wp2_with (fail)
 refine (int_ p _ x.2.2.1 F3 w3 hw3 hk.1 hk.2 (by simp only [List.length_append]; omega)).mono ?_
 rintro e w4 ⟨rfl,F4,hw4,hm4⟩
 have hm4:=hm3.trans hm4
 clear y0 y1 y2 y3 hw3 hm3
 obtain ⟨y0,y1,y2,y3⟩:=box (HK.out w4 F4 hm4).1
 go_wp2_with (fail)
 refine (number p _ x.2.2.2.length F4 w4 hw4 (by omega) (by omega) (by simp only [List.length_append]; omega)).mono ?_
 rintro e w5 ⟨rfl,F5,hw5,hm5⟩
 have hm5:=hm4.trans hm5
 clear y0 y1 y2 y3 hw4 hm4
 obtain ⟨y0,y1,y2,y3⟩:=box (HK.out w5 F5 hm5).1
 obtain ⟨hd,hhd⟩:∃ hd,Hid (hd = bs ++ num x.1.size ++ sb x.1 ++ num x.2.1 ++ num (zz x.2.2.1) ++ num x.2.2.2.length):=⟨_,hid rfl⟩
 have hdl:hd.length ≤ bs.length + x.1.size + 36:=by rw [hhd.out]; simp only [List.length_append]; omega
 rw [← hhd.out] at hw5
 have hout:Hid (bs ++ lb x = hd ++ ints x.2.2.2):=hid (by rw [hhd.out,hh.out]; simp only [List.append_assoc])
 clear hhd hh n1 n2 n3 n4 n5 hu hk
 go_wp2_with (fail)
 go_loopw [27] (fun vv W => ∃ (j:Nat) (cs:List Int) (G:Nat → Prop),j ≤ x.2.2.2.length ∧ vv = .int .i64 j ∧ Hid (cs = hd ++ ints (x.2.2.2.take j)) ∧ Hid (Wr W G p cs) ∧ Hid (Mv F G w1 W)) (fun vv _ => x.2.2.2.length - (intOf vv).toNat)
 case atStart => exact ⟨0,hd,F5,by omega,rfl,hid (by simp [ints]),hid hw5,hid hm5⟩
 case round =>
  obtain ⟨j,cs,G,hj,rfl,hcs,hW,hM⟩:=hrel
  have hcl:cs.length ≤ 140737488355000:=by
   have:=ints_le (x.2.2.2.take j)
   rw [List.length_take] at this
   rw [hcs.out,List.length_append]
   omega
  by_cases hlt:j < x.2.2.2.length
  · obtain ⟨ad,rfl,hcj⟩:=(HK.out wr G hM.out).2.1.at_ hlt
    have ha:=hwf'.out.a j hlt
    have hnx:=hid (ints_take x.2.2.2 j hlt)
    have hj1:(0:Int) ≤ (j:Int):=by omega
    have hj2:(j:Int) < (x.2.2.2.length:Int):=by omega
    generalize gi x.2.2.2 j = z at *
    go_wp2_with (fail)
    refine (int_ p cs z G wr hW.out ha.1 ha.2 hcl).mono ?_
    rintro e w6 ⟨rfl,G2,hw6,hm6⟩
    have hM6:=hid (hM.out.trans hm6)
    have hW6:=hid hw6
    clear hw6 hm6
    go_wp2
    go_roundw
    case rel => exact ⟨j + 1,_,G2,by omega,by go_num,hid (by rw [hnx.out,hcs.out,List.append_assoc]),hW6,hM6⟩
    case measure => simp [intOf]; omega
  · obtain rfl:j = x.2.2.2.length:=by omega
    have hE:=hid (show cs = bs ++ lb x by rw [hout.out,hcs.out,List.take_length])
    go_wp2
    go_end0
    exact ⟨rfl,G,hE.out ▸ hW.out,(HK.out _ _ hM.out).2.2⟩
def EncOut (w:World) (x:L) (e:Ending) (w':World):Prop:=
 ∃ v,e = .returned (.tuple #[v,.int .i64 0]) ∧ w'.ownsRow w.heap.size 5 1 v (lb x).length (nums .u8 (lb x)) ∧ Below w.heap.size w w'
theorem EncOut.of {w:World} {x:L} {e:Ending} {w':World} (h:∃ v,e = .returned (.tuple #[v,.int .i64 0]) ∧ w'.ownsRow w.heap.size 5 1 v (lb x).length (nums .u8 (lb x)) ∧ Below w.heap.size w w'):EncOut w x e w':=h
theorem formed_le {x:L} (h:formed x = true):x.1.size ≤ 40 ∧ x.2.2.2.length ≤ 4:=by simpa [formed] using h
set_option maxRecDepth 100000 in
theorem encode_ (x:L) (u:Value) (w:World) (hx:In w x u) (hf:formed x = true) (hwf:Wf x) :
 Calls Tryz.prog 197 #[val x u] w fun e w' => EncOut w x e w':=by
 have hfl:=formed_le hf
 have hx0:=hx
 obtain ⟨A,c,hue,_,hq1,hq2⟩:=hx0
 subst hue
 have hal:Upd No w (w.alloc (.cells #[.string x.1,.int .u64 x.2.1,.int .i64 x.2.2.1,.slice A x.2.2.2.length c] 60)):=(Upd.refl _ _).alloc _
 have hbx:=Blk.fresh w 60 #[.string x.1,.int .u64 x.2.1,.int .i64 x.2.2.1,.slice A x.2.2.2.length c]
 have hx1:=hx.upd hal (fun _ _ => no_ _)
 have HC:=hid (formed_ x _ _ hx1)
 rw [hf] at HC
 have HF:Hid (∀ W,Upd No w W → In W x (.slice A x.2.2.2.length c)):=hid fun W hu => hx.upd hu (fun _ _ => no_ _)
 unfold val at HC ⊢
 obtain ⟨y0,y1,y2,y3⟩:=box hbx
 go_enter Tryz.func197,Tryz.ntmps197
 go_wp2_with (fail)
 generalize w.alloc (.cells #[.string x.1,.int .u64 x.2.1,.int .i64 x.2.2.1,.slice A x.2.2.2.length c] 60) = w1 at *
 refine Calls.mono HC.out ?_
 rintro e w2 ⟨rfl,hu2⟩
 have hu:=hal.next hu2
 have hb2:=hbx.upd hu2 (no_ _)
 clear y0 y1 y2 y3 hbx hal hx1 HC hu2
 go_wp2_with (fail)
 refine (newWriter w2).mono ?_
 rintro e w3 ⟨rfl,hw3⟩
 have hu3:Upd No w w3:=hw3 ▸ hu.alloc _
 have hWr:Wr w3 (fun k => k = w2.heap.size) w2.heap.size []:=hw3 ▸ Wr.new w2
 obtain ⟨y0,y1,y2,y3⟩:=box (show Blk w3 w.heap.size 60 _ from hw3 ▸ hb2.alloc _)
 have hsz2:=hu.size
 clear hw3
 have HL:=hid (lay_ w2.heap.size [] x _ _ w3 hWr (HF.out _ hu3) (fun h0 k hk e => by have:=In.block hx h0 k hk; omega) hwf (by rw [List.length_nil]; omega))
 unfold val at HL
 go_wp2_with (fail)
 refine Calls.mono HL.out ?_
 rintro e w4 ⟨rfl,F4,hw4,hm4⟩
 have hb4:=(hu3.old (Nat.le_refl _)).trans (hm4.upd.below (B:=w.heap.size) hu3.size (by rintro k rfl; exact hsz2))
 have hll:=lb_le x
 go_wp2_with (fail)
 refine (bytes_ _ _ _ _ hw4 (by rw [List.nil_append]; omega)).mono ?_
 rintro e w5 ⟨v5,rfl,ho5,hb5⟩
 have hO:=hid (show w5.ownsRow w.heap.size 5 1 v5 (lb x).length (nums .u8 (lb x)) from ⟨ho5.1,ho5.2.imp id fun ⟨g,cap,cur,r1,r2,r3⟩ => ⟨g,cap,cur,r1,by have:=hb4.size; omega,r3⟩⟩)
 have hB:=hid (hb4.trans (hb5.mono hb4.size))
 clear ho5 hb5 hb4 hw4 hm4
 go_wp2
 go_ret2
 exact .of ⟨v5,rfl,hO.out,hB.out⟩
end Lc
end
section
namespace Lo
open Go.RowKit B Cw Cr Cd Lt Ib Lk
def decL (l:List Int):L × Int:=if (takeL l false).2.2.2 && (!(takeL l false).2.2.1 && decide ((takeL l false).2.1.length = 0)) then ((takeL l false).1,0) else (zero,2)
def DcOut (w:World) (r:L × Int) (e:Ending) (w':World):Prop:=∃ v,e = .returned (.tuple #[val r.1 v,.int .i64 r.2]) ∧ In w' r.1 v ∧ Upd No w w' ∧ ∀ k,v.ownBlock = some k → w.heap.size ≤ k ∧ ∃ cs,Blk w' k 2 cs
theorem DcOut.of {w:World} {r:L × Int} {e:Ending} {w':World} (h:∃ v,e = .returned (.tuple #[val r.1 v,.int .i64 r.2]) ∧ In w' r.1 v ∧ Upd No w w' ∧ ∀ k,v.ownBlock = some k → w.heap.size ≤ k ∧ ∃ cs,Blk w' k 2 cs):DcOut w r e w':=h
set_option maxRecDepth 100000 in
theorem decode {w:World} {A:Option Addr} {c:Nat} {l:List Int} (hr:Rn w .u8 A l) (hc:l.length ≤ c) (hl:l.length ≤ 140737488355328) (hm:c ≤ 9223372036854775807) (hb:Byte l) :
 Calls Tryz.prog 172 #[.slice A l.length c] w fun e w' => DcOut w (decL l) e w':=by
 have hal:Upd No w (w.alloc (.cells #[.string ⟨#[]⟩,.int .u64 0,.int .i64 0,.slice none 0 0] 60)):=(Upd.refl _ _).alloc _
 have hb1:=Blk.fresh w 60 #[.string ⟨#[]⟩,.int .u64 0,.int .i64 0,.slice none 0 0]
 have hr1:=Rd.alloc hr (by omega) (.cells #[.string ⟨#[]⟩,.int .u64 0,.int .i64 0,.slice none 0 0] 60)
 have hsz:(w.alloc (.cells #[.string ⟨#[]⟩,.int .u64 0,.int .i64 0,.slice none 0 0] 60)).heap.size = w.heap.size + 1:=by simp
 have HN:=hid (newReader A c l _ hr1 (by omega) hb)
 have H1:=hid (And.intro hal (And.intro hb1 hsz))
 clear hr hr1 hal hb1 hsz
 go_enter Tryz.func172,Tryz.ntmps172
 go_wp2_with (fail)
 generalize w.alloc (.cells #[.string ⟨#[]⟩,.int .u64 0,.int .i64 0,.slice none 0 0] 60) = w1 at *
 refine HN.out.mono ?_
 rintro e w2 ⟨F,p,A2,c2,rfl,hr2,ho2,hb2⟩
 have hu2:=Upd.of_below No hb2
 have hpw:=ho2 p hr2.here
 have hsz:=H1.out.2.2
 clear hb2 ho2
 have hp2:¬ w.heap.size = p:=by omega
 have H2:=hid (And.intro (H1.out.1.next hu2) (H1.out.2.1.upd hu2 (no_ _)))
 have HT:=hid (take_ F p c2 A2 l false w2 hr2)
 have hF2:=hr2.here
 clear hr2 hu2 H1 HN
 unfold TkOut at HT
 have HD:Hid (decL l = if (takeL l false).2.2.2 && (!(takeL l false).2.2.1 && decide ((takeL l false).2.1.length = 0)) then ((takeL l false).1,0) else (zero,2)):=hid rfl
 generalize takeL l false = q at *
 obtain ⟨x,rest,bb,ok⟩:=q
 simp only at HT HD
 go_wp2_with (fail)
 refine HT.out.mono ?_
 rintro e w4 ⟨v4,A4,c4,rfl,hv4,hvo,hr4,hu4⟩
 obtain ⟨Av,cv,rfl,hvq⟩:=hv4
 have hv4:In w4 x (.slice Av x.2.2.2.length cv):=⟨Av,cv,rfl,hvq⟩
 unfold val
 have H4:Hid (Upd No w w4 ∧ Blk w4 w.heap.size 60 #[.string ⟨#[]⟩,.int .u64 0,.int .i64 0,.slice none 0 0]):=hid ⟨H2.out.1.trans hu4 (fun i hi e => by omega),H2.out.2.upd hu4 hp2⟩
 have hv4n:∀ k,(Value.slice Av x.2.2.2.length cv).ownBlock = some k → ¬ k = w.heap.size:=fun k hk e => by
  have:=(hvo k hk).1
  have:=H2.out.2.lt
  omega
 have HVO:=hid (show ∀ k,(Value.slice Av x.2.2.2.length cv).ownBlock = some k → w.heap.size ≤ k ∧ ∃ cs,Blk w4 k 2 cs from fun k hk => ⟨by have:=(hvo k hk).1; have:=H2.out.1.size; omega,(hvo k hk).2⟩)
 have HR4:=hid hr4
 have HV4:=hid (And.intro hv4 hv4n)
 clear hr4 hu4 hv4 hv4n hvo H2 HT
 have HW:∀ z:L,∃ w5 g,w5 = w4.alloc (.cells #[.string z.1,.int .u64 z.2.1,.int .i64 z.2.2.1,(.slice Av x.2.2.2.length cv)] 60) ∧ g = w4.heap.size ∧ Upd No w4 w5 ∧ Blk w5 g 60 #[.string z.1,.int .u64 z.2.1,.int .i64 z.2.2.1,(.slice Av x.2.2.2.length cv)]:=fun z => ⟨_,_,rfl,rfl,(Upd.refl _ _).alloc _,Blk.fresh _ _ _⟩
 have HWW:=hid HW
 clear HW
 rcases ok with _ | _
 · have hout:Hid (decL l = (zero,2)):=hid (by rw [HD.out]; rfl)
   clear HD
   have hb5:=H4.out.2.alloc (.cells #[.string x.1,.int .u64 x.2.1,.int .i64 x.2.2.1,(.slice Av x.2.2.2.length cv)] 60)
   have hu5':=H4.out.1.alloc (.cells #[.string x.1,.int .u64 x.2.1,.int .i64 x.2.2.1,(.slice Av x.2.2.2.length cv)] 60)
   clear HWW
   obtain ⟨y0,y1,y2,y3⟩:=box hb5
   have f0:=hb5.free 0
   have f1:=hb5.free 1
   have f2:=hb5.free 2
   have f3:=hb5.free 3
   have HB:=hid (put4_blk hb5 zero (.slice none 0 0))
   have HU:=hid (put4_new hu5' (Nat.le_refl _) zero (.slice none 0 0))
   clear hb5 hu5'
   go_wp2
   simp only [put4,zero] at HB HU
   generalize ((((w4.alloc (.cells #[.string x.1,.int .u64 x.2.1,.int .i64 x.2.2.1,(.slice Av x.2.2.2.length cv)] 60)).setCell ⟨w.heap.size,0,none⟩ (.string ⟨#[]⟩)).setCell ⟨w.heap.size,1,none⟩ (.int .u64 0)).setCell ⟨w.heap.size,2,none⟩ (.int .i64 0)).setCell ⟨w.heap.size,3,none⟩ (.slice none 0 0) = W5 at *
   obtain ⟨q0,q1,q2,q3⟩:=box HB.out
   exact bodyPost_ret (v:=.tuple #[val zero (.slice none 0 0),.int .i64 2]) (by simp [results,go_sem,q0,q1,q2,q3,val,zero]) rfl (by rw [hout.out]; exact .of ⟨_,rfl,In.nil _,HU.out,fun k hk => by simp [Value.ownBlock] at hk⟩)
 · skip
   go_wp2_with (fail)
   obtain ⟨w5,g,hw5,hg,hu5,hbg⟩:=HWW.out x
   try rw [← hw5]
   try rw [← hg]
   have H5:=hid (And.intro (H4.out.1.next hu5) (And.intro (H4.out.2.upd hu5 (no_ _)) (And.intro hbg hu5)))
   have HE:=hid (end_ p rest.length c4 A4 bb w5 (HR4.out.keep hu5 fun _ _ => no_ _).blk)
   clear hw5 hg hbg hu5 HWW
   generalize hee:(!bb && decide (rest.length = 0)) = ee at *
   refine HE.out.mono ?_
   rintro e w6 ⟨rfl,rfl⟩
   rcases ee with _ | _
   · have hout:Hid (decL l = (zero,2)):=hid (by rw [HD.out]; rfl)
     have hb5:=H5.out.2.1
     have hu5':=H5.out.1
     clear HD hee
     obtain ⟨y0,y1,y2,y3⟩:=box hb5
     have f0:=hb5.free 0
     have f1:=hb5.free 1
     have f2:=hb5.free 2
     have f3:=hb5.free 3
     have HB:=hid (put4_blk hb5 zero (.slice none 0 0))
     have HU:=hid (put4_new hu5' (Nat.le_refl _) zero (.slice none 0 0))
     clear hb5 hu5'
     go_wp2
     simp only [put4,zero] at HB HU
     generalize (((w5.setCell ⟨w.heap.size,0,none⟩ (.string ⟨#[]⟩)).setCell ⟨w.heap.size,1,none⟩ (.int .u64 0)).setCell ⟨w.heap.size,2,none⟩ (.int .i64 0)).setCell ⟨w.heap.size,3,none⟩ (.slice none 0 0) = W5 at *
     obtain ⟨q0,q1,q2,q3⟩:=box HB.out
     exact bodyPost_ret (v:=.tuple #[val zero (.slice none 0 0),.int .i64 2]) (by simp [results,go_sem,q0,q1,q2,q3,val,zero]) rfl (by rw [hout.out]; exact .of ⟨_,rfl,In.nil _,HU.out,fun k hk => by simp [Value.ownBlock] at hk⟩)
   · have hout:Hid (decL l = (x,0)):=hid (by rw [HD.out]; rfl)
     clear HD hee
     have hb5:=H5.out.2.1
     obtain ⟨y0,y1,y2,y3⟩:=box hb5
     have f0:=hb5.free 0
     have f1:=hb5.free 1
     have f2:=hb5.free 2
     have f3:=hb5.free 3
     obtain ⟨z0,z1,z2,z3⟩:=box H5.out.2.2.1
     have HB:=hid (put4_blk hb5 x (.slice Av x.2.2.2.length cv))
     have HU:=hid (put4_new H5.out.1 (Nat.le_refl _) x (.slice Av x.2.2.2.length cv))
     have HVP:=hid (show ∀ k,(Value.slice Av x.2.2.2.length cv).ownBlock = some k → w.heap.size ≤ k ∧ ∃ cs,Blk (put4 w5 w.heap.size x (.slice Av x.2.2.2.length cv)) k 2 cs from fun k hk => ⟨(HVO.out k hk).1,(HVO.out k hk).2.elim fun cs hB => ⟨cs,(hB.upd H5.out.2.2.2 (no_ _)).upd (put4_upd w5 w.heap.size x (.slice Av x.2.2.2.length cv)) (HV4.out.2 k hk)⟩⟩)
     have HV:=hid ((HV4.out.1.upd H5.out.2.2.2 fun _ _ => no_ _).upd (put4_upd w5 w.heap.size x (.slice Av x.2.2.2.length cv)) HV4.out.2)
     clear hb5
     go_wp2
     simp only [put4] at HB HU HV HVP
     generalize (((w5.setCell ⟨w.heap.size,0,none⟩ (.string x.1)).setCell ⟨w.heap.size,1,none⟩ (.int .u64 x.2.1)).setCell ⟨w.heap.size,2,none⟩ (.int .i64 x.2.2.1)).setCell ⟨w.heap.size,3,none⟩ (.slice Av x.2.2.2.length cv) = W5 at *
     obtain ⟨q0,q1,q2,q3⟩:=box HB.out
     exact bodyPost_ret (v:=.tuple #[val x (.slice Av x.2.2.2.length cv),.int .i64 0]) (by simp [results,go_sem,q0,q1,q2,q3,val]) rfl (by rw [hout.out]; exact .of ⟨_,rfl,HV.out,HU.out,HVP.out⟩)
end Lo
end
section
namespace Lz
open Go.RowKit B Cm Cw Cr Lt Lk Lj
open Lc (lb ints Wf)
theorem uz_zz (n:Int):uz (zz n) = n:=by unfold uz zz; split <;> split <;> omega
theorem back_num (n:Int) (r:List Int) (h0:0 ≤ n) (h1:n ≤ 18446744073709551615):stN (num n ++ r) false = (n,r,false):=by
 unfold stN
 rw [Cp.rdNum_num n r h0 h1]
theorem back_text (s:ByteArray) (r:List Int) (hs:s.size ≤ 18446744073709551615):stT (num s.size ++ sb s ++ r) false = (sb s,r,false):=by
 unfold stT
 rw [List.append_assoc,back_num s.size (sb s ++ r) (by omega) (by omega)]
 have hl:=sb_length s
 simp only [Bool.false_eq_true,if_false]
 rw [if_neg (by rw [List.length_append]; omega)]
 have e:((s.size:Int)).toNat = (sb s).length:=by omega
 rw [e,List.take_left,List.drop_left]
theorem sb_str (s:ByteArray):strOfNums (sb s) = s:=by
 apply ByteArray.ext
 apply Array.toList_inj.1
 simp only [strOfNums,sb,List.map_map]
 have:(s.data.toList.map ((fun n:Int => UInt8.ofNat n.toNat) ∘ fun b:UInt8 => (b.toNat:Int))) = s.data.toList:=by
  conv => rhs; rw [← List.map_id s.data.toList]
  exact List.map_congr_left fun b _ => by simp
 simpa using this
theorem ints_drop (l:List Int) (j:Nat) (hj:j < l.length):ints (l.drop j) = num (zz (gi l j)) ++ ints (l.drop (j + 1)):=by
 rw [List.drop_eq_getElem_cons hj]
 simp only [ints,gi,List.getD_eq_getElem?_getD,List.getElem?_eq_getElem hj,List.flatMap_cons,Option.getD_some]
theorem tk_back (xs r:List Int) (h:∀ i,i < xs.length → -9223372036854775808 ≤ gi xs i ∧ gi xs i ≤ 9223372036854775807):∀ j,j ≤ xs.length → tk (ints xs ++ r) false j = (xs.take j,ints (xs.drop j) ++ r,false):=by
 intro j
 induction j with
 | zero => intro _; simp [tk]
 | succ j ih =>
  intro hj
  have hz:=zz_range (gi xs j) (h j (by omega)).1 (h j (by omega)).2
  have e:stN (ints (xs.drop j) ++ r) false = (zz (gi xs j),ints (xs.drop (j + 1)) ++ r,false):=by
   rw [ints_drop xs j (by omega),List.append_assoc]
   exact back_num _ _ hz.1 hz.2
  have hg:xs.take (j + 1) = xs.take j ++ [gi xs j]:=by
   rw [List.take_succ_eq_append_getElem (by omega)]
   congr 1
   simp [gi,List.getD_eq_getElem?_getD,List.getElem?_eq_getElem (show j < xs.length by omega)]
  simp only [tk,ih (by omega),e,uz_zz,hg]
theorem take_back (x:L) (r:List Int) (hf:formed x = true) (hw:Wf x):takeL (lb x ++ r) false = (x,r,false,true):=by
 obtain ⟨s,n,k,l⟩:=x
 have hf':=hf
 simp only [formed,Bool.and_eq_true,decide_eq_true_eq] at hf'
 have hz:=zz_range k hw.k.1 hw.k.2
 have hhd:hd (lb (s,n,k,l) ++ r) false = (s,n,k,(l.length:Int),ints l ++ r,false):=by
  have e:lb (s,n,k,l) ++ r = num s.size ++ sb s ++ (num n ++ (num (zz k) ++ (num l.length ++ (ints l ++ r)))):=by
   simp only [lb,Lc.hb,List.append_assoc]
  rw [e]
  simp only [hd,back_text s _ (by omega),back_num n _ hw.u.1 hw.u.2,back_num (zz k) _ hz.1 hz.2,back_num (l.length:Int) _ (by omega) (by omega),uz_zz,sb_str]
 have ht:=tk_back l r hw.a l.length (Nat.le_refl _)
 rw [List.take_length,List.drop_length,show ints [] = [] from rfl,List.nil_append] at ht
 simp only [takeL,hhd,show ¬ (4:Int) < (l.length:Int) from by omega,if_false,Int.toNat_natCast,ht,hf]
 rfl
theorem stN_true (l:List Int):(stN l true).2.2 = true:=by
 unfold stN
 split <;> rfl
theorem tk_true (l:List Int):∀ j,(tk l true j).2.2 = true:=by
 intro j
 induction j with
 | zero => rfl
 | succ j ih =>
  simp only [tk,ih]
  exact stN_true _
theorem stN_good {l r:List Int} {n:Int} {b:Bool} (h:stN l b = (n,r,false)):b = false:=by
 rcases b with _ | _
 · rfl
 · have:=stN_true l
   rw [h] at this
   cases this
end Lz
end
section
namespace Pk
open Go.RowKit B Lt Ib Lk Cr
open Cm (stN rdNum)
def readL:Nat → List Int → Option (List L × List Int)
 | 0,l => some ([],l)
 | n + 1,l => if (takeL l false).2.2.2 then (readL n (takeL l false).2.1).map fun p => ((takeL l false).1 :: p.1,p.2) else none
def unpL (l:List Int):List L × Int:=
 if (stN l false).2.2 then ([],2)
 else match readL (stN l false).1.toNat (stN l false).2.1 with
  | some (xs,[]) => (xs,0)
  | _ => ([],2)
theorem rdNum_len {l r:List Int} {n:Int} (h:rdNum l = some (n,r)):r.length + 1 ≤ l.length:=by
 match l,h with
 | f :: t,h =>
  change (if f < 248 then some (f,t) else if (t.length:Int) < f - 247 then none else if Cm.val (t.take (f - 247).toNat) < 248 ∨ t.headD 0 = 0 then none else some (Cm.val (t.take (f - 247).toNat),t.drop (f - 247).toNat)) = _ at h
  by_cases h1:f < 248
  · rw [if_pos h1] at h
    simp only [Option.some.injEq,Prod.mk.injEq] at h
    rw [← h.2]
    simp
  · rw [if_neg h1] at h
    by_cases h2:(t.length:Int) < f - 247
    · rw [if_pos h2] at h; cases h
    · rw [if_neg h2] at h
      split at h
      · cases h
      · simp only [Option.some.injEq,Prod.mk.injEq] at h
        rw [← h.2]
        simp only [List.length_drop,List.length_cons]
        omega
theorem stN_len {l r:List Int} {n:Int} {b bd:Bool} (h:stN l b = (n,r,bd)):r.length ≤ l.length:=by
 unfold stN at h
 rcases hr:rdNum l with _ | ⟨n',r'⟩
 · rw [hr] at h
   simp only [Prod.mk.injEq] at h
   rw [← h.2.1]
   simp
 · rw [hr] at h
   simp only [Prod.mk.injEq] at h
   have:=rdNum_len hr
   rw [← h.2.1]
   omega
theorem stN_len1 {l r:List Int} {n:Int} {b:Bool} (h:stN l b = (n,r,false)):r.length + 1 ≤ l.length:=by
 unfold stN at h
 rcases hr:rdNum l with _ | ⟨n',r'⟩
 · rw [hr] at h
   simp at h
 · rw [hr] at h
   simp only [Prod.mk.injEq] at h
   have:=rdNum_len hr
   rw [← h.2.1]
   omega
theorem stT_len1 {l r t:List Int} {b:Bool} (h:stT l b = (t,r,false)):r.length + 1 ≤ l.length:=by
 unfold stT at h
 obtain ⟨n,r1,b1,e⟩:∃ n r1 b1,stN l b = (n,r1,b1):=⟨_,_,_,rfl⟩
 rw [e] at h
 simp only at h
 rcases b1 with _ | _
 · simp only [Bool.false_eq_true,if_false] at h
   split at h
   · simp at h
   · have:=stN_len1 e
     simp only [Prod.mk.injEq] at h
     rw [← h.2.1,List.length_drop]
     omega
 · simp at h
theorem tk_len (l:List Int) (b:Bool):∀ j,(tk l b j).2.1.length ≤ l.length:=by
 intro j
 induction j with
 | zero => exact Nat.le_refl _
 | succ j ih =>
  obtain ⟨n,r,bd,e⟩:∃ n r bd,stN (tk l b j).2.1 (tk l b j).2.2 = (n,r,bd):=⟨_,_,_,rfl⟩
  have:=stN_len e
  simp only [tk,e]
  omega
theorem takeL_len {l r:List Int} {x:L} {bd:Bool} (h:takeL l false = (x,r,bd,true)):r.length + 1 ≤ l.length ∧ bd = false:=by
 obtain ⟨t,r1,b1,e1⟩:∃ t r1 b1,stT l false = (t,r1,b1):=⟨_,_,_,rfl⟩
 obtain ⟨n,r2,b2,e2⟩:∃ n r2 b2,stN r1 b1 = (n,r2,b2):=⟨_,_,_,rfl⟩
 obtain ⟨k,r3,b3,e3⟩:∃ k r3 b3,stN r2 b2 = (k,r3,b3):=⟨_,_,_,rfl⟩
 obtain ⟨m,r4,b4,e4⟩:∃ m r4 b4,stN r3 b3 = (m,r4,b4):=⟨_,_,_,rfl⟩
 have hhd:hd l false = (strOfNums t,n,uz k,m,r4,b4):=by simp only [hd,e1,e2,e3,e4]
 simp only [takeL,hhd] at h
 by_cases hm:4 < m
 · rw [if_pos hm] at h; simp at h
 · rw [if_neg hm] at h
   have h5:=tk_len r4 b4 m.toNat
   obtain ⟨xs,ra,ba,e5⟩:∃ xs ra ba,tk r4 b4 m.toNat = (xs,ra,ba):=⟨_,_,_,rfl⟩
   rw [e5] at h h5
   simp only at h h5
   rcases hc:(ba || !formed (strOfNums t,n,uz k,xs)) with _ | _
   · rw [hc] at h
     simp only [Bool.false_eq_true,if_false,Prod.mk.injEq,and_true] at h
     obtain ⟨rfl,rfl,rfl⟩:=h
     have hb:ba = false:=by
      rcases ba with _ | _
      · rfl
      · simp at hc
     subst hb
     have h4:b4 = false:=by
      rcases b4 with _ | _
      · rfl
      · have:=Lz.tk_true r4 m.toNat
        rw [e5] at this
        cases this
     subst h4
     obtain rfl:=Lz.stN_good e4
     obtain rfl:=Lz.stN_good e3
     obtain rfl:=Lz.stN_good e2
     have a1:=stT_len1 e1
     have a2:=stN_len e2
     have a3:=stN_len e3
     have a4:=stN_len e4
     exact ⟨by omega,rfl⟩
   · rw [hc] at h
     simp at h
theorem readL_len:∀ (n:Nat) (l r:List Int) (xs:List L),readL n l = some (xs,r) → n + r.length ≤ l.length:=by
 intro n
 induction n with
 | zero =>
  intro l r xs h
  simp only [readL,Option.some.injEq,Prod.mk.injEq] at h
  rw [h.2]
  omega
 | succ n ih =>
  intro l r xs h
  obtain ⟨x,r1,b,o,e⟩:∃ x r1 b o,takeL l false = (x,r1,b,o):=⟨_,_,_,_,rfl⟩
  simp only [readL,e] at h
  rcases o with _ | _
  · simp at h
  · simp only [if_true] at h
    rcases hq:readL n r1 with _ | ⟨ys,r2⟩
    · rw [hq] at h; simp at h
    · rw [hq] at h
      simp only [Option.map_some,Option.some.injEq,Prod.mk.injEq] at h
      have h1:=ih _ _ _ hq
      have h2:=(takeL_len e).1
      rw [← h.2]
      omega
theorem readL_many {n:Nat} {l:List Int} (h:l.length < n):readL n l = none:=by
 rcases hq:readL n l with _ | ⟨xs,r⟩
 · rfl
 · have:=readL_len _ _ _ _ hq
   omega
end Pk
end
section
namespace Up
open Go.RowKit B Cm Sm Dk
structure Su where
 gen:Int
 pay:List Int
 over:Bool
def Su.ok (m:Su):Prop:=(0 ≤ m.gen ∧ m.gen ≤ 18446744073709551615) ∧ m.pay.length ≤ 242 ∧ Byte m.pay
def Sp (w:World) (F:Nat → Prop) (q p:Nat) (m:Su):Prop:=
 ∃ A c,Blk w q 285 #[.pointer (some ⟨p,0,none⟩),.int .u64 m.gen,.slice A m.pay.length c,.bool m.over] ∧ Rn w .u8 A m.pay ∧ (m.pay.length ≤ c ∧ c ≤ 9223372036854775807) ∧
  (0 < m.pay.length → ∀ ad,A = some ad → F ad.block ∧ ad.block ≠ q) ∧ F q ∧ ∀ k,F k → k < w.heap.size
section
variable {w w':World} {F G:Nat → Prop} {q p:Nat} {m:Su}
theorem rd0 {w w':World} {A:Option Addr} {n size:Nat} {xs:List Value} {F:Nat → Prop} (h:Rd w size A n xs) (hs:0 < size) (hu:Upd F w w') (hn:0 < n → ∀ ad,A = some ad → ¬ F ad.block):Rd w' size A n xs:=by
 by_cases h0:0 < n
 · exact Rd.upd h hs hu (hn h0)
 · exact ⟨h.1,fun h1 => absurd h1 h0⟩
theorem Sp.upd (h:Sp w F q p m) (hu:Upd G w w') (hn:∀ k,F k → ¬ G k):Sp w' F q p m:=by
 obtain ⟨A,c,h1,h2,h3,h4,h5,h6⟩:=h
 exact ⟨A,c,h1.upd hu (hn _ h5),rd0 h2 (by omega) hu fun h0 ad e => hn _ (h4 h0 ad e).1,h3,h4,h5,fun k hk => Nat.lt_of_lt_of_le (h6 k hk) hu.size⟩
theorem Sp.quiet (h:Sp w F q p m) (hu:Upd No w w'):Sp w' F q p m:=h.upd hu fun _ _ => no_ _
theorem Sp.lt (h:Sp w F q p m):∀ k,F k → k < w.heap.size:=by
 obtain ⟨A,c,h1,h2,h3,h4,h5,h6⟩:=h
 exact h6
theorem Sp.here (h:Sp w F q p m):F q:=by
 obtain ⟨A,c,h1,h2,h3,h4,h5,h6⟩:=h
 exact h5
theorem Sp.laid {A':Option Addr} {c':Nat} {l:List Int} {g:Int} (h:Sp w F q p m) (hu:Upd (fun k => k = q) w w') (hb:∀ A c,Blk w q 285 #[.pointer (some ⟨p,0,none⟩),.int .u64 m.gen,.slice A m.pay.length c,.bool m.over] → Blk w' q 285 #[.pointer (some ⟨p,0,none⟩),.int .u64 g,.slice A' l.length c',.bool m.over])
 (hr:Rn w .u8 A' l) (hc:l.length ≤ c' ∧ c' ≤ 9223372036854775807) (hq:0 < l.length → ∀ ad,A' = some ad → ad.block ≠ q ∧ ad.block < w.heap.size):Sp w' (fun k => F k ∨ (0 < l.length ∧ ∃ ad,A' = some ad ∧ k = ad.block)) q p { m with gen:=g,pay:=l }:=by
 obtain ⟨A,c,h1,h2,h3,h4,h5,h6⟩:=h
 refine ⟨A',c',hb A c h1,rd0 hr (by omega) hu fun h0 ad e => (hq h0 ad e).1,hc,fun h0 ad e => ⟨.inr ⟨h0,ad,e,rfl⟩,(hq h0 ad e).1⟩,.inl h5,?_⟩
 rintro k (hk | ⟨h0,ad,e,rfl⟩)
 · exact Nat.lt_of_lt_of_le (h6 k hk) hu.size
 · exact Nat.lt_of_lt_of_le (hq h0 ad e).2 hu.size
end
theorem generation (w:World) (F:Nat → Prop) (q p:Nat) (m:Su) (h:Sp w F q p m):Calls Tryz.prog 77 #[.pointer (some ⟨q,0,none⟩)] w fun e w' => e = .returned (.int .u64 m.gen) ∧ w = w':=by
 obtain ⟨A,c,h1,h2,h3,h4,h5,h6⟩:=h
 have hc1:=h1.cell 1
 simp at hc1
 go_enter Tryz.func77,Tryz.ntmps77
 go_wp2
 go_ret
 exact ⟨rfl,rfl⟩
def NewB (w:World) (l:List Int) (e:Ending) (w':World):Prop:=∃ A c,e = .returned (.slice A l.length c) ∧ w'.ownsRow w.heap.size 5 1 (.slice A l.length c) l.length (nums .u8 l) ∧ Upd No w w'
theorem NewB.of {w:World} {l:List Int} {e:Ending} {w':World} (h:∃ A c,e = .returned (.slice A l.length c) ∧ w'.ownsRow w.heap.size 5 1 (.slice A l.length c) l.length (nums .u8 l) ∧ Upd No w w'):NewB w l e w':=h
theorem payload (w:World) (F:Nat → Prop) (q p:Nat) (m:Su) (h:Sp w F q p m) (hok:m.ok):Calls Tryz.prog 78 #[.pointer (some ⟨q,0,none⟩)] w fun e w' => NewB w m.pay e w':=by
 obtain ⟨A,c,h1,h2,h3,h4,h5,h6⟩:=h
 have hc2:=h1.cell 2
 simp at hc2
 have hl:=hok.2.1
 have HC:=hid (clone A m.pay.length c (nums .u8 m.pay) w h2 (nums_one .u8 _) (by omega))
 go_enter Tryz.func78,Tryz.ntmps78
 go_wp2_with (fail)
 refine Calls.mono HC.out ?_
 rintro e w' ⟨A',c',rfl,ho',hu',_⟩
 go_wp2
 go_ret
 exact .of ⟨A',c',rfl,ho',hu'⟩
end Up
end
section
namespace Up
open Go.RowKit B Cm Sm Dk
theorem last_acc:∀ (l:List (Nat × List Int)) (i:Nat) (o:Option (List Int)),l.foldl (fun o r => if r.1 = i then some r.2 else o) o = o ∨ ∃ x ∈ l,l.foldl (fun o r => if r.1 = i then some r.2 else o) o = some x.2:=by
 intro l i
 induction l with
 | nil => intro o; exact .inl rfl
 | cons r t ih =>
  intro o
  rw [List.foldl_cons]
  by_cases h:r.1 = i
  · rw [if_pos h]
    rcases ih (some r.2) with e | ⟨x,hx,e⟩
    · exact .inr ⟨r,by simp,e⟩
    · exact .inr ⟨x,by simp [hx],e⟩
  · rw [if_neg h]
    rcases ih o with e | ⟨x,hx,e⟩
    · exact .inl e
    · exact .inr ⟨x,by simp [hx],e⟩
theorem bk_ok {d:Dm} (h:Fit d) (k:Nat):(bk d.log k).length = 256 ∧ Byte (bk d.log k):=by
 unfold bk
 rcases last_acc d.log k none with e | ⟨x,hx,e⟩
 · rw [show last d.log k = none from e]
   refine ⟨List.length_replicate,fun c hc => ?_⟩
   have:=List.eq_of_mem_replicate (show c ∈ List.replicate 256 (0:Int) from hc)
   omega
 · rw [show last d.log k = some x.2 from e]
   exact h x hx
def frm (b:Nat → List Int):Nat → Nat → Int × List Int → Int × List Int
 | 0,_,s => s
 | n + 1,k,s => frm b n (k + 1) (newer s (rd1 k (b k)))
def opS (d:Dm):Int × Option Su:=
 if d.nb < 2 then (1,none) else if d.down = true then (9,none)
 else (0,some ⟨(frm (bk d.log) 2 0 (0,[])).1,(frm (bk d.log) 2 0 (0,[])).2,false⟩)
def OpOut (w:World) (p:Nat) (r:Int × Option Su) (e:Ending) (w':World):Prop:=
 match r.2 with
 | none => e = .returned (.tuple #[.pointer none,.int .i64 r.1]) ∧ Upd No w w'
 | some m => ∃ q F,e = .returned (.tuple #[.pointer (some ⟨q,0,none⟩),.int .i64 r.1]) ∧ Sp w' F q p m ∧ m.ok ∧ (∀ k,F k → w.heap.size ≤ k) ∧ Upd No w w'
theorem OpOut.none_ {w:World} {p:Nat} {r:Int × Option Su} {c:Int} {e:Ending} {w':World} (hr:r = (c,none)) (h:e = .returned (.tuple #[.pointer none,.int .i64 c]) ∧ Upd No w w'):OpOut w p r e w':=by
 subst hr
 exact h
theorem OpOut.some_ {w:World} {p:Nat} {r:Int × Option Su} {m:Su} {e:Ending} {w':World} (hr:r = (0,some m)) (h:∃ q F,e = .returned (.tuple #[.pointer (some ⟨q,0,none⟩),.int .i64 0]) ∧ Sp w' F q p m ∧ m.ok ∧ (∀ k,F k → w.heap.size ≤ k) ∧ Upd No w w'):OpOut w p r e w':=by
 subst hr
 exact h
theorem blocks_nil (w:World):Calls Tryz.prog 75 #[.pointer none] w fun e w' => e = .returned (.int .i64 0) ∧ w = w':=by
 go_enter Tryz.func75,Tryz.ntmps75
 go_wp2
 go_ret
 exact ⟨rfl,rfl⟩
theorem open_nil (w:World):Calls Tryz.prog 76 #[.pointer none] w fun e w' => e = .returned (.tuple #[.pointer none,.int .i64 1]) ∧ w = w':=by
 go_enter Tryz.func76,Tryz.ntmps76
 go_wp2_with (fail)
 refine Calls.mono (blocks_nil w) ?_
 rintro e w1 ⟨rfl,rfl⟩
 go_wp2
 go_ret2
 exact ⟨rfl,rfl⟩
structure Og (w W:World) (F:Nat → Prop) (q p:Nat) (s:Int × List Int):Prop where
 sp:Sp W F q p ⟨s.1,s.2,false⟩
 ok:Su.ok ⟨s.1,s.2,false⟩
 fo:∀ k,F k → w.heap.size ≤ k
 upd:Upd No w W
theorem Og.quiet {w W W':World} {F:Nat → Prop} {q p:Nat} {s:Int × List Int} (h:Og w W F q p s) (hu:Upd No W W'):Og w W' F q p s:=⟨h.sp.quiet hu,h.ok,h.fo,h.upd.next hu⟩
theorem Og.moved {w W W':World} {F:Nat → Prop} {q p r:Nat} {s:Int × List Int} (h:Og w W F q p s) (hu:Upd (fun k => k = r) W W') (hr:w.heap.size ≤ r) (hf:¬ F r):Og w W' F q p s:=
 ⟨h.sp.upd hu fun k hk e => hf (e ▸ hk),h.ok,h.fo,h.upd.trans hu fun i hi e => by omega⟩
set_option maxRecDepth 100000 in
theorem open_ (p:Nat) (d:Dm) (D:Nat → Prop) (w:World) (h:Dk w D p d) (hok:d.ok) (hfit:Fit d) :
 Calls Tryz.prog 76 #[.pointer (some ⟨p,0,none⟩)] w fun e w' => OpOut w p (opS d) e w':=by
 have HB:=hid (blocks p d D w h hok)
 have HD:=hid fun W (hu:Upd No w W) => h.upd hu fun _ _ => no_ _
 have HOk:=hid (And.intro hok hfit)
 have hnb:=hok.2.2
 have hR:Hid (opS d = if d.nb < 2 then (1,none) else if d.down = true then (9,none)
  else (0,some ⟨(frm (bk d.log) 2 0 (0,[])).1,(frm (bk d.log) 2 0 (0,[])).2,false⟩)):=hid rfl
 clear h hok hfit
 go_enter Tryz.func76,Tryz.ntmps76
 go_wp2_with (fail)
 refine HB.out.mono ?_
 rintro e w1 ⟨rfl,rfl⟩
 by_cases h2:d.nb < 2
 · have hout:Hid (opS d = (1,none)):=hid (by rw [hR.out,if_pos h2])
   have h2':(d.nb:Int) < 2:=by omega
   clear hR
   go_wp2
   go_ret2
   exact .none_ hout.out ⟨rfl,Upd.refl _ _⟩
 have h2':¬ (d.nb:Int) < 2:=by omega
 rw [if_neg h2] at hR
 have HRd:Hid (∀ k,k < 2 → d.down = false → d.rd ((k:Nat):Int) = (bk d.log k,0)):=hid fun k hk hd => by
  unfold Dm.rd
  rw [hd,if_neg (by simp),if_neg (by omega),Int.toNat_natCast]
  rfl
 have HW0:Hid (∃ w2 q,w2 = w.alloc (.cells #[.pointer (some ⟨p,0,none⟩),.int .u64 0,.slice none 0 0,.bool false] 285) ∧ q = w.heap.size ∧ Og w w2 (fun k => k = q) q p (0,[])):=hid
  ⟨_,_,rfl,rfl,⟨none,0,Blk.fresh _ _ _,Rd.nil_ _ _ _,by simp,fun h => by simp at h,rfl,fun k hk => by subst hk; simp⟩,⟨by simp,by simp,fun c hc => by simp at hc⟩,fun k hk => by omega,(Upd.refl _ _).alloc _⟩
 go_wp2_with (fail)
 obtain ⟨w2,q,hw2,hq,hO⟩:=HW0.out
 rw [← hw2,← hq]
 have HO:=hid hO
 clear hw2 hq hO HW0 HB h2'
 rcases hdn:d.down with _ | _
 case' true =>
  have hout:Hid (opS d = (9,none)):=hid (by rw [hR.out,if_pos hdn])
  have HR9:Hid (∀ W,Upd No w W → Calls Tryz.prog 144 #[.pointer (some ⟨p,0,none⟩),.int .i64 0] W fun e w' => RdOw W ([],9) e w'):=hid fun W hu => by
   have h1:=read_ p d D 0 W (HD.out W hu) HOk.out.1
   have h2:d.rd 0 = ([],9):=by unfold Dm.rd; rw [hdn,if_pos rfl]
   rwa [h2] at h1
  unfold RdOw at HR9
  have hU2:=hid HO.out.upd
  clear hdn hR HO
  go_loopw [18] (fun v18 W => v18 = .int .i64 0 ∧ Hid (Upd No w W)) (fun v18 _ => 0)
  case atStart => exact ⟨rfl,hU2⟩
  case round =>
   clear hU2
   obtain ⟨rfl,HU⟩:=hrel
   go_wp2_with (fail)
   refine (HR9.out _ HU.out).mono ?_
   rintro e w3 ⟨A3,c3,rfl,_,hu3,_,_⟩
   have HU3:=hid (Upd.next HU.out hu3)
   clear hu3
   go_wp2
   go_ret2
   exact .none_ hout.out ⟨rfl,HU3.out⟩
 rw [hdn,if_neg (by simp)] at hR
 have HDn:=hid hdn
 clear hdn
 go_loopw [18] (fun v18 W => ∃ (k:Nat) (F:Nat → Prop) (s:Int × List Int),k ≤ 2 ∧ v18 = .int .i64 k ∧ Hid (Og w W F q p s ∧ frm (bk d.log) 2 0 (0,[]) = frm (bk d.log) (2 - k) k s)) (fun v18 _ => 2 - (intOf v18).toNat)
 case atStart => exact ⟨0,_,_,by omega,rfl,hid ⟨HO.out,rfl⟩⟩
 case round =>
  clear HO
  obtain ⟨k,F,s,hk,rfl,HW⟩:=hrel
  by_cases hlt:k < 2
  · obtain ⟨b,hb⟩:∃ b,b = bk d.log k:=⟨_,rfl⟩
    have hbok:=bk_ok HOk.out.2 k
    have hRr:=read_ p d D (k:Int) wr (HD.out _ HW.out.1.upd) HOk.out.1
    rw [HRd.out k hlt HDn.out,← hb] at hRr
    rw [← hb] at hbok
    have HBok:=hid hbok
    unfold RdOw at hRr
    have HRr:=hid hRr
    have hk2:(k:Int) < 2:=by omega
    have HE:Hid (frm (bk d.log) 2 0 (0,[]) = frm (bk d.log) (2 - (k + 1)) (k + 1) (newer s (rd1 k b))):=hid (by
     rw [HW.out.2,show 2 - k = 2 - (k + 1) + 1 from by omega,frm,← hb])
    have HO:=hid HW.out.1
    clear hb hbok hRr HW
    go_wp2_with (fail)
    refine HRr.out.mono ?_
    rintro e w3 ⟨A3,c3,rfl,hr3,hu3,hc31,hc32⟩
    try simp only at hr3 hc31
    have HW3:=hid (HO.out.quiet hu3)
    have HQ3:=hid (And.intro (HW3.out.sp.lt q HW3.out.sp.here) (Nat.le_trans HW3.out.upd.size (Nat.le_refl _)))
    have hw32:IntKind.u32.wrap (k:Int) = (k:Int):=by
     rw [IntKind.wrap_u32]
     omega
    have HOp:=hid (Sw.open_ A3 c3 b 83 (k:Int) w3 hr3 hc31 hc32 HBok.out.2 (by omega) (by omega))
    have HPb:Hid (Byte (outOf 83 k b) ∧ (outOf 83 k b).length ≤ 242):=hid (by
     unfold outOf
     split
     · rename_i hokk
       refine ⟨pay_bytes b HBok.out.2,?_⟩
       unfold okOf at hokk
       simp only [Bool.and_eq_true,decide_eq_true_eq] at hokk
       rw [pay_length b hokk.1 hokk.2.1]
       omega
     · exact ⟨fun c hc => (by cases hc),by simp⟩)
    have HR1:Hid (rd1 k b = if okOf 83 k b = true then rdNum (outOf 83 k b) else none):=hid rfl
    unfold Sw.OpenPost at HOp
    generalize okOf 83 (k:Int) b = ok at *
    generalize outOf 83 (k:Int) b = pp at *
    clear hr3 hu3 hc31 hc32 HRr HO
    go_wp2_with (fail)
    refine HOp.out.mono ?_
    rintro e w4 ⟨A4,c4,rfl,ho4,hu4⟩
    have HW4:=hid (HW3.out.quiet hu4)
    obtain ⟨_,_,hsv,hc41,hc42⟩:=own_shape ho4
    simp only [Value.slice.injEq,true_and] at hsv
    obtain ⟨rfl,rfl⟩:=hsv
    simp only [maxLen] at hc42
    have hpl:pp.length ≤ 242:=HPb.out.2
    have HP4:=hid ho4
    have HNr:=hid (Cr.newReader A4 c4 pp w4 (Rd.of_own ho4) (by omega) HPb.out.1)
    clear ho4 hu4 HW3 HOp hw32
    go_wp2_with (fail)
    refine HNr.out.mono ?_
    rintro e w5 ⟨Fr,pr,Ar,cr,rfl,hrr,hfr,hb5⟩
    have HW5:=hid (HW4.out.quiet (Upd.of_below No hb5))
    obtain ⟨n,r,bd,hst⟩:∃ n r bd,stN pp false = (n,r,bd):=⟨_,_,_,rfl⟩
    have HN:Hid ((bd = true → rdNum pp = none) ∧ (bd = false → rdNum pp = some (n,r))):=hid (by
     unfold stN at hst
     rcases hrn:rdNum pp with _ | x
     · rw [hrn] at hst
       injection hst with _ hst
       injection hst with _ hst
       subst hst
       exact ⟨fun _ => rfl,fun h => (by cases h)⟩
     · rw [hrn] at hst
       injection hst with h1 hst
       injection hst with h2 hst
       subst hst
       exact ⟨fun h => (by cases h),fun _ => by rw [← h1,← h2]⟩)
    have HNn:Hid (0 ≤ n ∧ n ≤ 18446744073709551615):=hid (by
     have h1:=Cr.stN_range pp false HPb.out.1
     rw [hst] at h1
     exact h1)
    have HRn:=hid (Cr.rnumber_eq hrr hst)
    have HFr:Hid (∀ k,Fr k → ¬ F k ∧ w.heap.size ≤ k):=hid fun k hk => ⟨fun hf => by
     have:=hfr k hk
     have:=HW4.out.sp.lt k hf
     omega,by
     have:=hfr k hk
     have:=HW4.out.upd.size
     omega⟩
    have HP5:Hid (∀ W,Upd (fun k => k = pr) w5 W → Rn W .u8 A4 pp):=hid fun W hu => Rd.upd (Rd.upd (Rd.of_own HP4.out) (by omega) (Upd.of_below No hb5) fun _ _ => no_ _) (by omega) hu fun ad e hk => by
     have h1:=HP4.out.lt ad.block (by simp [Value.ownBlock,e])
     have h2:=hfr pr hrr.here
     omega
    have HPh:Hid (Fr pr):=hid hrr.here
    have HS5:=hid hb5.size
    clear hrr hst hb5 hfr HNr HW4
    go_wp2_with (fail)
    refine HRn.out.mono ?_
    rintro e w6 ⟨rfl,A6,c6,hr6,hu6⟩
    have HW6:=hid (HW5.out.moved hu6 (HFr.out pr HPh.out).2 (HFr.out pr HPh.out).1)
    have HP6:=hid (HP5.out w6 hu6)
    have HS6:=hid hu6.size
    have HL6:=hid (Cr.left pr r.length c6 A6 _ w6.drew hr6.blk.drew)
    have HB6:=hid (Cr.bad pr bd _ w6 hr6.blk)
    clear hr6 hu6 HRn HW5
    obtain ⟨Av,cv,hblk,_,_,_,_,_⟩:=HW6.out.sp
    simp only at hblk
    have hg1:=hblk.cell 1
    have hg2:=hblk.cell 2
    simp at hg1 hg2
    have hf1:=hblk.free 1
    have hf2:=hblk.free 2
    have HBl:=hid hblk
    clear hblk
    rcases ok with _ | _
    · have HE2:Hid (newer s (rd1 k b) = s):=hid (by rw [HR1.out,if_neg (by simp)]; rfl)
      rw [HE2.out] at HE
      go_wp2
      go_roundw
      case rel => exact ⟨k + 1,F,s,by omega,by go_num,hid ⟨HW6.out,HE.out⟩⟩
      case measure => simp [intOf]; omega
    rw [if_pos rfl] at HR1
    rcases bd with _ | _
    case' true =>
     have HE2:Hid (newer s (rd1 k b) = s):=hid (by rw [HR1.out,HN.out.1 rfl]; rfl)
     rw [HE2.out] at HE
     go_wp2_with (fail)
     refine HB6.out.mono ?_
     rintro e w7 ⟨rfl,rfl⟩
     go_wp2
     go_roundw
     case rel => exact ⟨k + 1,F,s,by omega,by go_num,hid ⟨HW6.out,HE.out⟩⟩
     case measure => simp [intOf]; omega
    have hrd:=HN.out.2 rfl
    have honly:=Cp.rdNum_only pp n r HPb.out.1 hrd
    by_cases hgt:s.1 < n
    · have HE2:Hid (newer s (rd1 k b) = (n,r)):=hid (by rw [HR1.out,hrd]; exact newer_lt hgt)
      rw [HE2.out] at HE
      obtain ⟨K,hK⟩:∃ K,K = (num n).length:=⟨_,rfl⟩
      have hlen:pp.length = K + r.length:=by rw [honly,List.length_append,hK]
      have hdrop:pp.drop K = r:=by rw [honly,hK]; simp
      have HSub:Hid (IntKind.i64.wrap ((pp.length:Int) - (r.length:Int)) = (K:Int)):=hid (by
       rw [hlen,IntWalk.i64_in _ (by omega)]
       omega)
      obtain ⟨A7,hA7,hcut⟩:=cut_from (P:=Tryz.prog) 22 5 .i64 Tryz.underlying22 (by kernel_rfl) A4 pp.length c4 K K rfl (by omega)
      have HP7:Hid (Rn w6 .u8 A7 r ∧ ∀ ad,A7 = some ad → ∃ ad0,A4 = some ad0 ∧ ad.block = ad0.block):=hid (by
       refine ⟨?_,fun ad e => ?_⟩
       · rw [hA7,← hdrop]
         exact Rn.drop HP6.out (by omega) (by omega)
       · rw [hA7] at e
         obtain ⟨ad0,e0,hb⟩:=cut_block e
         exact ⟨ad0,e0,hb⟩)
      have hrl:pp.length - K = r.length:=by omega
      have HF:Hid (∀ W,W = ((w6.setCell ⟨q,1,none⟩ (.int .u64 n)).setCell ⟨q,2,none⟩ (.slice A7 (pp.length - K) (c4 - K))).drew → ∃ F',Og w W F' q p (n,r)):=hid (by
       rintro W rfl
       rw [hrl]
       have hA:∀ ad,A7 = some ad → w3.heap.size ≤ ad.block ∧ ad.block < w6.heap.size:=fun ad e => by
        obtain ⟨ad0,e0,hb⟩:=HP7.out.2 ad e
        have h1:=HP4.out.lt ad0.block (by simp [Value.ownBlock,e0])
        have h5:=HS5.out
        have h6:=HS6.out
        omega
       have hq3:=HQ3.out
       have hu:Upd (fun k => k = q) w6 ((w6.setCell ⟨q,1,none⟩ (.int .u64 n)).setCell ⟨q,2,none⟩ (.slice A7 r.length (c4 - K))):=((Upd.refl _ _).set1 _ _).set1 _ _
       have hl:=HW6.out.sp.laid (A':=A7) (c':=c4 - K) (l:=r) (g:=n) hu (fun A c hb => by simpa using (hb.put 1 (.int .u64 n)).put 2 (.slice A7 r.length (c4 - K))) HP7.out.1 (by omega) (fun _ ad e => by
        have:=hA ad e
        omega)
       refine ⟨_,Og.quiet ⟨hl,⟨HNn.out,by simp only; omega,fun x hx => HPb.out.1 x ?_⟩,?_,HW6.out.upd.trans hu fun i hi e => by
        have:=HW6.out.fo q HW6.out.sp.here
        omega⟩ (Upd.drew (Upd.refl _ _))⟩
       · rw [← hdrop] at hx
         exact List.mem_of_mem_drop hx
       · rintro i (hi | ⟨_,ad,e,rfl⟩)
         · exact HW6.out.fo i hi
         · have:=hA ad e
           omega)
      have HLen:=hid hlen
      clear honly hrd hlen hdrop hA7 hK hrl
      go_wp2_with (fail)
      refine HB6.out.mono ?_
      rintro e w7 ⟨rfl,rfl⟩
      go_wp2_with (fail)
      refine wp_region_held_drew (S:=fun _ => True) (by kernel_rfl) trivial (fun hS => ?_)
      refine zt 0 hS ?_
      refine zt 1 hS ?_
      refine zt 2 hS ?_
      refine zt 3 hS ?_
      refine zt 4 hS ?_
      refine zt 5 hS ?_
      refine zt 6 hS ?_
      refine zk 7 (fun K hK => ?_)
      go_simp
      refine Calls.mono HL6.out ?_
      rintro e w8 ⟨rfl,rfl⟩
      go_wp2_with (fail)
      refine hK.out _ _ (trivial) (fun hS => ?_)
      clear hK K
      try simp only [Act.put,zA,zB,zC]
      refine zh 8 hS (fun w hw => HSub.out) ?_
      refine zh 9 hS (fun w hw => hcut w) ?_
      refine zt 10 hS ?_
      refine zt 11 hS ?_
      refine zk 12 (fun K hK => ?_)
      go_simp
      refine hK.out _ _ (trivial) (fun hS => ?_)
      clear hK K
      try simp only [Act.put,zA,zB,zC]
      refine zt 13 hS ?_
      refine zt 14 hS ?_
      refine zk 15 (fun K hK => ?_)
      go_simp
      refine hK.out _ _ (trivial) (fun hS => ?_)
      clear hK K
      try simp only [Act.put,zA,zB,zC]
      refine wpAnyH_done (by kernel_rfl) ?_ _
      go_wp2
      obtain ⟨F9,h9⟩:=HF.out _ rfl
      have HG:=hid h9
      clear h9
      go_roundw
      case rel => exact ⟨k + 1,F9,(n,r),by omega,by go_num,hid ⟨HG.out,HE.out⟩⟩
      case measure => simp [intOf]; omega
    · have HE2:Hid (newer s (rd1 k b) = s):=hid (by rw [HR1.out,hrd]; exact newer_ge hgt)
      rw [HE2.out] at HE
      clear honly hrd
      go_wp2_with (fail)
      refine HB6.out.mono ?_
      rintro e w7 ⟨rfl,rfl⟩
      go_wp2
      go_roundw
      case rel => exact ⟨k + 1,F,s,by omega,by go_num,hid ⟨HW6.out,HE.out⟩⟩
      case measure => simp [intOf]; omega
  · obtain rfl:k = 2:=by omega
    have HE:Hid (frm (bk d.log) 2 0 (0,[]) = s):=hid HW.out.2
    go_wp2
    go_ret2
    refine .some_ hR.out ?_
    rw [HE.out]
    exact ⟨q,F,rfl,HW.out.1.sp,HW.out.1.ok,HW.out.1.fo,HW.out.1.upd⟩
end Up
end
