/- Part 41: lemmas, no conditions. -/
import Derived.Test.YtclfmpieapbfnaaGreatDoorZ40
import Derived.Test.YtclfmpieapbfnaaGreatDoorZ39
import Derived.Test.YtclfmpieapbfnaaGreatDoorZ16
import Derived.Test.YtclfmpieapbfnaaGreatDoorZ18
import Derived.Test.YtclfmpieapbfnaaGreatDoorZ37
import Derived.Test.YtclfmpieapbfnaaGreatDoorZ07
import Derived.Test.YtclfmpieapbfnaaGreatDoorZ34
set_option maxHeartbeats 4000000
namespace Go.Proofs.YtclfmpieapbfnaaGreatDoor
set_option linter.unusedVariables false
set_option linter.unusedSimpArgs false
section
namespace Ou
open Go.RowKit B Cm Cw Cr Lt Lc Nd
theorem sm_put {s:List (ByteArray × Int)} (h:s.Pairwise fun a b => bl a.1 b.1 = true) (k:ByteArray) (n:Int):sm (putS s k n) = Ms.put (sm s) k (some (.int .u64 n)):=by
 funext j
 unfold sm Ms.put
 rw [putS_at h]
 split <;> rfl
theorem sm_get (s:List (ByteArray × Int)) (k:ByteArray):(sm s k).getD (.int .u64 0) = .int .u64 (num0 s k) ∧ (sm s k).isSome = (at_ s k).isSome:=by
 unfold sm num0
 cases at_ s k <;> exact ⟨rfl,rfl⟩
theorem Ox.upd1 {w w':World} {F:Nat → Prop} {p n b:Nat} {m:Om} {v:Value} {s:List (ByteArray × Int)} (h:Ox w F p m n v b) (hu:Upd (fun k => k = b) w w') (hm:Ms.Ms Tryz.prog w' 9 b (n + 1) (sm s)):Ox w' F p { m with ser:=s } (n + 1) v b ∧ Mv F F w w':=
 ⟨⟨h.blk.upd hu h.ne,h.row.far hu (fun k cs hB => map_ne h.map hB) (fun k cs hB => map_ne h.map hB),hm,h.fp,h.fb,fun k hk => Nat.lt_of_lt_of_le (h.lt k hk) hu.size⟩,hu.mono fun k _ e => e ▸ h.fb,fun k hk => .inl hk⟩
def SdOut (w:World) (F:Nat → Prop) (p:Nat) (m:Om) (to:ByteArray) (kd:Int) (l:List Int) (n:Nat) (e:Ending) (w':World):Prop:=∃ s F',e = .returned (.tuple #[.int .u64 s,.int .i64 0]) ∧ Ot w' F' p (sendO m to kd l) (n + 1) ∧ Mv F F' w w'
theorem SdOut.of {w:World} {F:Nat → Prop} {p:Nat} {m:Om} {to:ByteArray} {kd:Int} {l:List Int} {n:Nat} {e:Ending} {w':World} (h:∃ s F',e = .returned (.tuple #[.int .u64 s,.int .i64 0]) ∧ Ot w' F' p (sendO m to kd l) (n + 1) ∧ Mv F F' w w'):SdOut w F p m to kd l n e w':=h
set_option maxRecDepth 100000 in
theorem send_full {w:World} {F:Nat → Prop} {p n:Nat} {m:Om} {B:Int} (h:Ot w F p m n) (hok:m.ok B) {to:ByteArray} (hk:Kk to) {kd:Int} {l:List Int} {A:Option Addr} {c:Nat} (hl:l.length ≤ 4) (h32:m.lst.length = 32) :
 Calls Tryz.prog 130 #[.pointer (some ⟨p,0,none⟩),.string to,.int .i64 kd,.slice A l.length c] w fun e w' => e = .returned (.tuple #[.int .u64 0,.int .i64 6]) ∧ w = w':=by
 have HN:=hid (none_ h hok.key)
 have hkb:=key_ to w
 rw [kk_key hk] at hkb
 have HK:=hid hkb
 obtain ⟨v,b,h⟩:=h
 obtain ⟨Al,cl,rfl,_,_⟩:=h.row.len
 obtain ⟨c0,c1,c2⟩:=h.cells
 rw [h32] at c1
 have hlk:=h.map.look_ok (t:=271) (e:=23) Tryz.underlying9 Tryz.underlying271 (z:=.int .u64 0) (by kernel_rfl) (s:=to) (kk_ks hk)
 rw [(sm_get m.ser to).1,(sm_get m.ser to).2] at hlk
 have hl4:¬ (4:Int) < (l.length:Int):=by omega
 clear h hok hkb hk h32
 go_enter Tryz.func130,Tryz.ntmps130
 go_wp2_with (fail)
 refine HN.out.mono ?_
 rintro e w1 ⟨rfl,rfl⟩
 go_wp2_with (fail)
 refine HK.out.mono ?_
 rintro e w1 ⟨rfl,rfl⟩
 go_wp2
 go_ret2
 exact ⟨rfl,rfl⟩
theorem send_in {w:World} {base c:Nat} {A:Option Addr} {l:List Int} {s:ByteArray} {n k:Int} (h:w.ownsRow base 2 1 (.slice A l.length c) l.length (nums .i64 l)):In w (s,n,k,l) (.slice A l.length c):=by
 obtain ⟨_,_,e,h1,h2⟩:=own_shape h
 injection e with _ _ e
 subst e
 exact ⟨_,_,rfl,Rd.of_own h,h1,h2⟩
theorem send_fin {w w2 w3 w4 w5:World} {F:Nat → Prop} {p n b cl c4 c5:Nat} {m:Om} {to:ByteArray} {kd nu:Int} {l:List Int} {ps:List Ov} {Al A4 A5:Option Addr} (h:Ox w2 F p { m with ser:=putS m.ser to (nu + 1) } (n + 1) (.slice Al ps.length cl) b) (hm:Mv F F w w2)
 (hP:ps.map (·.1) = m.lst ∧ Sl w2 0 150 5 (.slice Al ps.length cl) ps.length (ocells ps) ∧ (∀ x ∈ ps,In w2 x.1.2 x.2 ∧ ∀ k,x.2.ownBlock = some k → F k ∧ ∃ cs,Blk w2 k 2 cs) ∧ ∀ k,(Value.slice Al ps.length cl).ownBlock = some k → F k)
 (hu3:Upd No w2 w3) (ho4:w4.ownsRow w3.heap.size 2 1 (.slice A4 l.length c4) l.length (nums .i64 l)) (hu4:Upd No w3 w4)
 (ho5:Sl w5 0 150 5 (.slice A5 (ps.length + 1) c5) (ps.length + 1) (ocells ps ++ ocs ((to,m.own,nu + 1,kd,l),.slice A4 l.length c4))) (hg5:Upd (fun k => (Value.slice Al ps.length cl).ownBlock = some k) (w4.alloc (.cells (ocs ((to,m.own,nu + 1,kd,l),.slice A4 l.length c4)).toArray 150)) w5)
 (hat5:∀ g,(Value.slice A5 (ps.length + 1) c5).ownBlock = some g → (Value.slice Al ps.length cl).ownBlock = some g ∨ (w4.alloc (.cells (ocs ((to,m.own,nu + 1,kd,l),.slice A4 l.length c4)).toArray 150)).heap.size ≤ g) (hnu:num0 m.ser to = nu) :
 ∃ F',Ot (w5.setCell ⟨p,1,none⟩ (.slice A5 (ps.length + 1) c5)) F' p (sendO m to kd l) (n + 1) ∧ Mv F F' w (w5.setCell ⟨p,1,none⟩ (.slice A5 (ps.length + 1) c5)):=by
 have hal:=(hu3.next hu4).alloc (.cells (ocs ((to,m.own,nu + 1,kd,l),.slice A4 l.length c4)).toArray 150)
 have hq:Upd No w4 (w4.alloc (.cells (ocs ((to,m.own,nu + 1,kd,l),.slice A4 l.length c4)).toArray 150)):=(Upd.refl _ _).alloc _
 have hlt:=(Sl.of_own ho4).lt
 obtain ⟨F',h1,h2,h3⟩:=h.pushed hP.1 hP.2.1 hP.2.2.1 hP.2.2.2 (x:=(to,m.own,nu + 1,kd,l)) ((send_in ho4).upd hq fun _ _ => no_ _) (fun k hk => (own_blk ho4 hk).elim fun cs hB => ⟨cs,hB.upd hq (no_ _)⟩) hal ho5 hg5 hat5 (G:=fun k => w3.heap.size ≤ k) (fun k hk => (hlt k hk).1)
 have s2:=hm.upd.size
 have s3:=hu3.size
 refine ⟨F',?_,hm.upd.next h3,fun k hk => (h2 k hk).elim .inl fun h9 => .inr (h9.elim (fun h8 => by omega) fun h8 => by omega)⟩
 unfold sendO
 rw [hnu]
 exact h1
set_option maxRecDepth 100000 in
theorem send_ {w:World} {F:Nat → Prop} {p n:Nat} {m:Om} {B:Int} (h:Ot w F p m n) (hok:m.ok B) (hB:0 ≤ B ∧ B ≤ 1000000000000) (hn:n ≤ 1000000) {to:ByteArray} (hk:Kk to) {kd:Int} {l:List Int} {A:Option Addr} {c:Nat} (hr:Rn w .i64 A l) (hl:l.length ≤ 4) (hc:l.length ≤ c ∧ c ≤ maxLen) (hA:0 < l.length → ∀ ad,A = some ad → ¬ F ad.block) (h32:m.lst.length < 32) (h64:m.ser.length < 64) :
 Calls Tryz.prog 130 #[.pointer (some ⟨p,0,none⟩),.string to,.int .i64 kd,.slice A l.length c] w fun e w' => SdOut w F p m to kd l n e w':=by
 have HN:=hid (none_ h hok.key)
 have hkb:=key_ to w
 rw [kk_key hk] at hkb
 have HK:=hid hkb
 obtain ⟨v,b,h⟩:=h
 obtain ⟨Al,cl,rfl,hcl,hclm⟩:=h.row.len
 obtain ⟨c0,c1,c2⟩:=h.cells
 have hlk:=h.map.look_ok (t:=271) (e:=23) Tryz.underlying9 Tryz.underlying271 (z:=.int .u64 0) (by kernel_rfl) (s:=to) (kk_ks hk)
 rw [(sm_get m.ser to).1,(sm_get m.ser to).2] at hlk
 have hlk2:=h.map.look (t:=271) (e:=23) Tryz.underlying9 Tryz.underlying271 (z:=.int .u64 0) (by kernel_rfl) (s:=to) (kk_ks hk)
 rw [(sm_get m.ser to).1] at hlk2
 have hlen:(Builtin.len_ #[271] 3 #[.map (some b)]).run Tryz.prog w = .ok (.int .i64 m.ser.length) w:=by
  have hm:=h.map
  obtain ⟨D,h1,h2⟩:=id hm
  have hl:=map_len Tryz.underlying9 hm hok.srt (fun e he => by have:=(hok.serk e he).1.2; simp only [maxLen]; omega) h1 h2
  have:=h1.len Tryz.underlying271 3
  rw [hl] at this
  exact this
 have hl4:¬ (4:Int) < (l.length:Int):=by omega
 have hl32:¬ (32:Int) ≤ (m.lst.length:Int):=by omega
 have hs64:¬ (64:Int) ≤ (m.ser.length:Int):=by omega
 have hnum:=num0_ge hok to
 have hwr:IntKind.u64.wrap (num0 m.ser to + 1) = num0 m.ser to + 1:=by rw [IntKind.wrap_u64]; omega
 have HH:=hid (And.intro h (And.intro hok (And.intro hk (And.intro hr (And.intro hn (And.intro hc hA))))))
 have HSp:=hid (sm_put hok.srt to (num0 m.ser to + 1))
 have HSg:Hid ((sm (putS m.ser to (num0 m.ser to + 1)) to).getD (.int .u64 0) = .int .u64 (num0 m.ser to + 1)):=hid (by
  rw [(sm_get _ to).1]
  unfold num0
  rw [putS_at hok.srt,if_pos rfl]
  rfl)
 generalize hkn:(at_ m.ser to).isSome = kn at *
 generalize hnu:num0 m.ser to = nu at *
 have HNu:=hid hnu
 clear h hok hkb hk hr hn hc hA hkn hnu
 rcases kn with _ | _
 all_goals
  go_enter Tryz.func130,Tryz.ntmps130
  go_wp2_with (fail)
  refine HN.out.mono ?_
  rintro e w1 ⟨rfl,rfl⟩
  go_wp2_with (fail)
  refine HK.out.mono ?_
  rintro e w1 ⟨rfl,rfl⟩
  go_wp2_with (at_mapUpdate; go_must (refine Ms.ap_store rfl (.tmp 55) (.tmp 56) (.tmp 58) 271 9 23 rfl Tryz.underlying9 Tryz.underlying271 b n (sm m.ser) to (.int .u64 (nu + 1)) rfl rfl rfl HH.out.1.map (by have:=HH.out.2.2.2.2.1; simp only [maxLen]; omega) (kk_ks HH.out.2.2.1) ?_); intro w2 hm2 hu2; rw [← HSp.out] at hm2; have hx2:=HH.out.1.upd1 hu2 hm2; have HX2:=hid hx2; obtain ⟨e0,e1,e2⟩:=hx2.1.cells; have hlk3:=hx2.1.map.look (t:=271) (e:=23) Tryz.underlying9 Tryz.underlying271 (z:=.int .u64 0) (by kernel_rfl) (s:=to) (kk_ks HH.out.2.2.1); rw [HSg.out] at hlk3; clear hm2 hu2 hx2)
  obtain ⟨ps,hps,hsl,hip,hvF⟩:=HX2.out.1.row
  have hpl:m.lst.length = ps.length:=by rw [← hps]; simp
  rw [hpl] at hl32 e1 hsl HX2 hvF
  have HP:=hid (And.intro hps (And.intro hsl (And.intro hip hvF)))
  obtain ⟨zo,hzo,hzs⟩:=ou_info
  clear hpl hps hsl hip hvF hlk hlk2 hlen c0 c1 c2 hlk3 e2
  refine wp_region_held_drew (S:=fun W => W.cell? ⟨p,0,none⟩ = some (.string m.own)) (by kernel_rfl) e0 (fun hS => ?_)
  have hrz:=Rd.upd0 (Rd.upd0 HH.out.2.2.2.1 (by omega) HX2.out.2.upd HH.out.2.2.2.2.2.2) (by omega) (Upd.refl No w2).drew fun _ _ _ => no_ _
  have hb3:=HX2.out.1.blk.drew
  have HU3:=hid ((Upd.refl No w2).drew)
  generalize w2.drew = w3 at *
  have HCl:=hid (Lt.clone A l.length c (nums .i64 l) w3 hrz (nums_one _ _) (by omega))
  have c1:w3.cell? ⟨p,1,none⟩ = some (.slice Al ps.length cl):=hb3.cell 1
  have HB3:=hid hb3
  clear hb3 hrz e0 e1
  refine zt 0 hS ?_
  refine zt 1 hS ?_
  refine zt 2 hS ?_
  refine zt 3 hS ?_
  refine zt 5 hS ?_
  refine zt 6 hS ?_
  refine zt 7 hS ?_
  refine zt 8 hS ?_
  refine zh 9 hS (fun w hw => hw) ?_
  refine zt 10 hS ?_
  refine zt 11 hS ?_
  refine zt 12 hS ?_
  refine rg_two 4 13 (by kernel_rfl) ?_ ?_
  focus
   refine zs 4 (fun K hK => ?_)
   go_simp
   refine hK.out _ _ ((by exact hS)) (fun hS => ?_)
   clear hK K
   try simp only [Act.put,zA,zB,zC]
   refine zk 13 (fun K hK => ?_)
   go_simp
   refine Calls.mono HCl.out ?_
   rintro e w4 ⟨A4,c4,rfl,ho4,hu4,_⟩
   have HO4:=hid (And.intro ho4 hu4)
   have b4:=HB3.out.upd hu4 (no_ _)
   have d1:w4.cell? ⟨p,1,none⟩ = some (.slice Al ps.length cl):=b4.cell 1
   have d1a:∀ o,(w4.alloc o).cell? ⟨p,1,none⟩ = some (.slice Al ps.length cl):=fun o => (b4.alloc o).cell 1
   have hin4:=send_in (s:=m.own) (n:=nu + 1) (k:=kd) ho4
   have hs4:=(HP.out.2.1.upd HU3.out fun _ _ => no_ _).upd hu4 fun _ _ => no_ _
   clear ho4 hu4
   go_wp2_with (fail)
   refine hK.out _ _ ((by exact b4.cell 0)) (fun hS => ?_)
   clear hK K
   try simp only [Act.put,zA,zB,zC]
   refine zt 14 hS ?_
   refine zt 15 hS ?_
   refine zk 16 (fun K hK => ?_)
   go_simp
   refine hK.out _ _ ((by exact (b4.alloc _).cell 0)) (fun hS => ?_)
   clear hK K
   try simp only [Act.put,zA,zB,zC]
   refine zk 17 (fun K hK => ?_)
   refine wp_ap_sl 0 (.tmp 69) (.tmp 81) 270 150 zo 5 72 (by rfl) Tryz.underlying270 hzo hzs (by omega) (.slice Al ps.length cl) ps.length (ocells ps) (some ⟨w4.heap.size,0,none⟩) 1 1 (ocs ((to,m.own,nu + 1,kd,l),.slice A4 l.length c4)) (by rfl) (by rfl) (hs4.alloc _) (Rd_lit w4 _ 5 1 (ocs ((to,m.own,nu + 1,kd,l),.slice A4 l.length c4)) rfl) (ocs_one hin4) (by omega) (by omega) (Nat.zero_le _) ?_
   intro A5 c5 w5 ho5 hg5 hat5
   have b5:=(b4.alloc (.cells (ocs ((to,m.own,nu + 1,kd,l),.slice A4 l.length c4)).toArray 150)).upd hg5 (fun h => hs4.ne b4 (by decide) h)
   have f1:=b5.free 1
   have d5:w5.cell? ⟨p,1,none⟩ = some (.slice Al ps.length cl):=b5.cell 1
   have hfin:=send_fin HX2.out.1 HX2.out.2 HP.out HU3.out HO4.out.1 HO4.out.2 ho5 hg5 hat5 HNu.out
   clear ho5 hg5 hat5
   refine hK.out _ _ ((by exact b5.cell 0)) (fun hS => ?_)
   clear hK K
   try simp only [Act.put,zA,zB,zC]
   refine zt 18 hS ?_
   refine zt 19 hS ?_
   refine zk 20 (fun K hK => ?_)
   go_simp
   refine hK.out _ _ ((by exact (b5.put 1 _).cell 0)) (fun hS => ?_)
   clear hK K
   try simp only [Act.put,zA,zB,zC]
   refine wpAnyH_done (by kernel_rfl) ?_ _
  rotate_left 1
  focus
   refine zs 13 (fun K hK => ?_)
   go_simp
   refine Calls.mono HCl.out ?_
   rintro e w4 ⟨A4,c4,rfl,ho4,hu4,_⟩
   have HO4:=hid (And.intro ho4 hu4)
   have b4:=HB3.out.upd hu4 (no_ _)
   have d1:w4.cell? ⟨p,1,none⟩ = some (.slice Al ps.length cl):=b4.cell 1
   have d1a:∀ o,(w4.alloc o).cell? ⟨p,1,none⟩ = some (.slice Al ps.length cl):=fun o => (b4.alloc o).cell 1
   have hin4:=send_in (s:=m.own) (n:=nu + 1) (k:=kd) ho4
   have hs4:=(HP.out.2.1.upd HU3.out fun _ _ => no_ _).upd hu4 fun _ _ => no_ _
   clear ho4 hu4
   go_wp2_with (fail)
   refine hK.out _ _ ((by exact b4.cell 0)) (fun hS => ?_)
   clear hK K
   try simp only [Act.put,zA,zB,zC]
   refine zt 14 hS ?_
   refine zt 15 hS ?_
   refine rg_two 4 16 (by kernel_rfl) ?_ ?_
   focus
    refine zs 4 (fun K hK => ?_)
    go_simp
    refine hK.out _ _ ((by exact hS)) (fun hS => ?_)
    clear hK K
    try simp only [Act.put,zA,zB,zC]
    refine zk 16 (fun K hK => ?_)
    go_simp
    refine hK.out _ _ ((by exact (b4.alloc _).cell 0)) (fun hS => ?_)
    clear hK K
    try simp only [Act.put,zA,zB,zC]
    refine zk 17 (fun K hK => ?_)
    refine wp_ap_sl 0 (.tmp 69) (.tmp 81) 270 150 zo 5 72 (by rfl) Tryz.underlying270 hzo hzs (by omega) (.slice Al ps.length cl) ps.length (ocells ps) (some ⟨w4.heap.size,0,none⟩) 1 1 (ocs ((to,m.own,nu + 1,kd,l),.slice A4 l.length c4)) (by rfl) (by rfl) (hs4.alloc _) (Rd_lit w4 _ 5 1 (ocs ((to,m.own,nu + 1,kd,l),.slice A4 l.length c4)) rfl) (ocs_one hin4) (by omega) (by omega) (Nat.zero_le _) ?_
    intro A5 c5 w5 ho5 hg5 hat5
    have b5:=(b4.alloc (.cells (ocs ((to,m.own,nu + 1,kd,l),.slice A4 l.length c4)).toArray 150)).upd hg5 (fun h => hs4.ne b4 (by decide) h)
    have f1:=b5.free 1
    have d5:w5.cell? ⟨p,1,none⟩ = some (.slice Al ps.length cl):=b5.cell 1
    have hfin:=send_fin HX2.out.1 HX2.out.2 HP.out HU3.out HO4.out.1 HO4.out.2 ho5 hg5 hat5 HNu.out
    clear ho5 hg5 hat5
    refine hK.out _ _ ((by exact b5.cell 0)) (fun hS => ?_)
    clear hK K
    try simp only [Act.put,zA,zB,zC]
    refine zt 18 hS ?_
    refine zt 19 hS ?_
    refine zk 20 (fun K hK => ?_)
    go_simp
    refine hK.out _ _ ((by exact (b5.put 1 _).cell 0)) (fun hS => ?_)
    clear hK K
    try simp only [Act.put,zA,zB,zC]
    refine wpAnyH_done (by kernel_rfl) ?_ _
   rotate_left 1
   focus
    refine zs 16 (fun K hK => ?_)
    go_simp
    refine hK.out _ _ ((by exact (b4.alloc _).cell 0)) (fun hS => ?_)
    clear hK K
    try simp only [Act.put,zA,zB,zC]
    refine zk 4 (fun K hK => ?_)
    go_simp
    refine hK.out _ _ ((by exact hS)) (fun hS => ?_)
    clear hK K
    try simp only [Act.put,zA,zB,zC]
    refine zk 17 (fun K hK => ?_)
    refine wp_ap_sl 0 (.tmp 69) (.tmp 81) 270 150 zo 5 72 (by rfl) Tryz.underlying270 hzo hzs (by omega) (.slice Al ps.length cl) ps.length (ocells ps) (some ⟨w4.heap.size,0,none⟩) 1 1 (ocs ((to,m.own,nu + 1,kd,l),.slice A4 l.length c4)) (by rfl) (by rfl) (hs4.alloc _) (Rd_lit w4 _ 5 1 (ocs ((to,m.own,nu + 1,kd,l),.slice A4 l.length c4)) rfl) (ocs_one hin4) (by omega) (by omega) (Nat.zero_le _) ?_
    intro A5 c5 w5 ho5 hg5 hat5
    have b5:=(b4.alloc (.cells (ocs ((to,m.own,nu + 1,kd,l),.slice A4 l.length c4)).toArray 150)).upd hg5 (fun h => hs4.ne b4 (by decide) h)
    have f1:=b5.free 1
    have d5:w5.cell? ⟨p,1,none⟩ = some (.slice Al ps.length cl):=b5.cell 1
    have hfin:=send_fin HX2.out.1 HX2.out.2 HP.out HU3.out HO4.out.1 HO4.out.2 ho5 hg5 hat5 HNu.out
    clear ho5 hg5 hat5
    refine hK.out _ _ ((by exact b5.cell 0)) (fun hS => ?_)
    clear hK K
    try simp only [Act.put,zA,zB,zC]
    refine zt 18 hS ?_
    refine zt 19 hS ?_
    refine zk 20 (fun K hK => ?_)
    go_simp
    refine hK.out _ _ ((by exact (b5.put 1 _).cell 0)) (fun hS => ?_)
    clear hK K
    try simp only [Act.put,zA,zB,zC]
    refine wpAnyH_done (by kernel_rfl) ?_ _
  all_goals
   have HF:=hid hfin
   clear hfin hS b4 b5 f1 d5 d1 d1a hin4 hs4
   go_wp2
   go_ret2
   obtain ⟨F',h1,h2⟩:=HF.out
   exact .of ⟨_,F',rfl,h1,h2⟩
end Ou
end
section
namespace Ou
open Go.RowKit B Cm Cw Cr Lt Lc Nd
def oval (x:Oe) (u:Value):Array Value:=#[.string x.1,.string x.2.1,.int .u64 x.2.2.1,.int .i64 x.2.2.2.1,u]
def oz:Array Value:=#[.string ⟨#[]⟩,.string ⟨#[]⟩,.int .u64 0,.int .i64 0,.slice none 0 0]
theorem RowO.head {F:Nat → Prop} {w:World} {v:Value} {x:Oe} {r:List Oe} (h:RowO w F v (x :: r)):∃ ad c u,v = .slice (some ad) (r.length + 1) c ∧ 1 ≤ c ∧ In w x.2 u ∧ (∀ k,u.ownBlock = some k → F k) ∧ F ad.block ∧
 (w.cell? ad = some (.string x.1) ∧ w.cell? ⟨ad.block,ad.off + 1,none⟩ = some (.string x.2.1) ∧ w.cell? ⟨ad.block,ad.off + 2,none⟩ = some (.int .u64 x.2.2.1) ∧ w.cell? ⟨ad.block,ad.off + 3,none⟩ = some (.int .i64 x.2.2.2.1) ∧ w.cell? ⟨ad.block,ad.off + 4,none⟩ = some u):=by
 obtain ⟨A,c,hv,hc,_⟩:=h.len
 obtain ⟨ps,h1,h2,h3,h4⟩:=h
 subst hv
 cases ps with
 | nil => cases h1
 | cons y ps =>
  simp only [List.map_cons,List.cons.injEq] at h1
  obtain ⟨rfl,h1⟩:=h1
  have hl:ps.length = r.length:=by rw [← h1]; simp
  have e:(y.1 :: r).length = (y :: ps).length:=by simp [hl]
  rw [e] at h2
  obtain ⟨ad,rfl,hcell⟩:=Op.row_at (f:=ocs) (k:=5) h2.rd (fun _ _ => rfl) rfl (i:=0) (by simp)
  have hm:=h3 y (by simp)
  have c0:=hcell 0 (by omega)
  have c1:=hcell 1 (by omega)
  have c2:=hcell 2 (by omega)
  have c3:=hcell 3 (by omega)
  have c4:=hcell 4 (by omega)
  rw [Nd.add_fl ad (0 * 5) 1 (by omega)] at c1
  rw [Nd.add_fl ad (0 * 5) 2 (by omega)] at c2
  rw [Nd.add_fl ad (0 * 5) 3 (by omega)] at c3
  rw [Nd.add_fl ad (0 * 5) 4 (by omega)] at c4
  simp only [List.length_cons] at hc
  exact ⟨ad,c,y.2,by simp,by omega,hm.1,fun k hk => (hm.2 k hk).1,h4 _ rfl,c0,c1,c2,c3,c4⟩
theorem RowO.tail {F:Nat → Prop} {w:World} {A:Option Addr} {c:Nat} {x:Oe} {r:List Oe} (h:RowO w F (.slice A (r.length + 1) c) (x :: r)):RowO w F (.slice (if c = 1 then A else A.map (·.add (1 * 5))) r.length (c - 1)) r:=by
 obtain ⟨ps,h1,h2,h3,h4⟩:=h
 cases ps with
 | nil => cases h1
 | cons y ps =>
  simp only [List.map_cons,List.cons.injEq] at h1
  obtain ⟨rfl,h1⟩:=h1
  have hl:ps.length = r.length:=by rw [← h1]; simp
  simp only [List.length_cons,hl] at h2
  have h5:=Sl.drop (m:=1) h2 (by omega)
  have e:(ocells (y :: ps)).drop (1 * 5) = ocells ps:=by simp [ocells,ocs,Lt.cells]
  rw [e,Nat.add_sub_cancel] at h5
  refine ⟨ps,h1,by rw [hl]; exact h5,fun z hz => h3 z (by simp [hz]),fun k hk => h4 k ?_⟩
  split at hk
  · cases A <;> exact hk
  · cases A with
    | none => exact hk
    | some ad =>
     simp only [Option.map_some,Value.ownBlock,Option.some.injEq,Addr_add_block] at hk ⊢
     exact hk
def FoOut (w:World) (x:Oe) (e:Ending) (w':World):Prop:=∃ u,e = .returned (.tuple #[.agg (oval x u),.bool true]) ∧ In w' x.2 u ∧ Upd No w w' ∧ ∀ k,u.ownBlock = some k → w.heap.size ≤ k ∧ k < w'.heap.size
theorem FoOut.of {w:World} {x:Oe} {e:Ending} {w':World} (h:∃ u,e = .returned (.tuple #[.agg (oval x u),.bool true]) ∧ In w' x.2 u ∧ Upd No w w' ∧ ∀ k,u.ownBlock = some k → w.heap.size ≤ k ∧ k < w'.heap.size):FoOut w x e w':=h
theorem first_fin {w w1 w2 w3 W9:World} {pz c3:Nat} {to fr:ByteArray} {sn kd:Int} {l:List Int} {A3:Option Addr} {cz:Array Value} (h1:Upd No w w1) (hpz:pz = w.heap.size) (h2:Upd No w1 w2) (hr:Rn w3 .i64 A3 l ∧ l.length ≤ c3 ∧ c3 ≤ maxLen) (h3:Upd No w2 w3)
 (hf:∀ k,(Value.slice A3 l.length c3).ownBlock = some k → w2.heap.size ≤ k ∧ ∃ cs,Blk w3 k 2 cs) (hb:Blk w3 pz 150 cz) (hW:W9 = w3.setRow pz (oval (to,fr,sn,kd,l) (.slice A3 l.length c3))) :
 Blk W9 pz 150 (oval (to,fr,sn,kd,l) (.slice A3 l.length c3)) ∧ In W9 (fr,sn,kd,l) (.slice A3 l.length c3) ∧ Upd No w W9 ∧ ∀ k,(Value.slice A3 l.length c3).ownBlock = some k → w.heap.size ≤ k ∧ k < W9.heap.size:=by
 have hu:=Nd.Upd.setRow (w:=w3) pz (oval (to,fr,sn,kd,l) (.slice A3 l.length c3))
 rw [← hW] at hu
 have s1:=h1.size
 have s2:=h2.size
 have s3:=hu.size
 have hin:In w3 (fr,sn,kd,l) (.slice A3 l.length c3):=⟨_,_,rfl,hr⟩
 refine ⟨by rw [hW]; exact Nd.Blk.row hb _,hin.upd hu fun g hg e => ?_,((h1.next h2).next h3).trans hu fun i hi e => by omega,fun k hk => ?_⟩
 · obtain ⟨_,cs,hB⟩:=hf g hg
   exact Blk.ne_type hB hb (by decide) e
 · obtain ⟨h9,cs,hB⟩:=hf k hk
   have:=hB.lt
   omega
set_option maxRecDepth 100000 in
theorem first_some {w:World} {F:Nat → Prop} {p n:Nat} {m:Om} {x:Oe} {r:List Oe} (h:Ot w F p m n) (hk:Kk m.own) (hm:m.lst = x :: r) (hl:x.2.2.2.2.length ≤ 1000) :
 Calls Tryz.prog 135 #[.pointer (some ⟨p,0,none⟩)] w fun e w' => FoOut w x e w':=by
 obtain ⟨w1,pz,hw1,hpz⟩:∃ w1 pz,w1 = w.alloc (.cells oz 150) ∧ pz = w.heap.size:=⟨_,_,rfl,rfl⟩
 have hbz:Blk w1 pz 150 oz:=by rw [hw1,hpz]; exact Blk.fresh _ _ _
 have hu1:Upd No w w1:=by rw [hw1]; exact (Upd.refl _ _).alloc _
 have hpF:¬ F pz:=fun hf => by have:=h.lt _ hf; omega
 have HN:=hid (none_ (h.quiet hu1) hk)
 obtain ⟨v,b,hx⟩:=h
 have hrow:=hx.row
 rw [hm] at hrow
 obtain ⟨ad,c,u0,rfl,hc1,hin,huF,haF,k0,k1,k2,k3,k4⟩:=hrow.head
 have HF:Hid (∀ W,Upd (fun k => k = pz) w1 W → W.cell? ⟨p,1,none⟩ = some (.slice (some ad) (r.length + 1) c) ∧ W.cell? ad = some (.string x.1) ∧ (W.cell? ⟨ad.block,ad.off + 1,none⟩ = some (.string x.2.1) ∧ W.cell? ⟨ad.block,ad.off + 2,none⟩ = some (.int .u64 x.2.2.1) ∧ W.cell? ⟨ad.block,ad.off + 3,none⟩ = some (.int .i64 x.2.2.2.1) ∧ W.cell? ⟨ad.block,ad.off + 4,none⟩ = some u0)):=hid fun W hW => by
  have hw:Upd (fun k => k = pz) w W:=(hu1.mono fun _ _ h => h.elim).next hW
  have hl:=hx.lt _ haF
  have hne:¬ ad.block = pz:=fun e => hpF (e ▸ haF)
  exact ⟨(hw.cell (p:=⟨p,1,none⟩) (hx.lt _ hx.fp) (fun e => hpF (e ▸ hx.fp))).trans hx.cells.2.1,(hw.cell hl hne).trans k0,(hw.cell (p:=⟨ad.block,ad.off + 1,none⟩) hl hne).trans k1,(hw.cell (p:=⟨ad.block,ad.off + 2,none⟩) hl hne).trans k2,(hw.cell (p:=⟨ad.block,ad.off + 3,none⟩) hl hne).trans k3,(hw.cell (p:=⟨ad.block,ad.off + 4,none⟩) hl hne).trans k4⟩
 have HC:=hid fun W (hu:Upd No w1 W) => Lt.copy_ x.2 u0 W (hin.upd (hu1.next hu) fun _ _ => no_ _) (by omega)
 have HX:=hid (And.intro hbz (And.intro hu1 hpz))
 obtain ⟨to,fr,sn,kd,l⟩:=x
 simp only [Lt.val] at HF HC
 have hc1':(w.alloc (.cells oz 150)).cell? ⟨p,1,none⟩ = some (.slice (some ad) (r.length + 1) c):=by rw [← hw1]; exact (HF.out w1 (Upd.refl _ _)).1
 have HW1:=hid hw1
 unfold oz at hc1'
 obtain ⟨us,cs,hus,_⟩:=hin
 subst hus
 clear hx hrow hbz hu1 hpF huF haF k0 k1 k2 k3 k4 hm hk hw1 hpz
 go_enter Tryz.func135,Tryz.ntmps135
 go_wp2_with (fail)
 have hw1:=HW1.out
 unfold oz at hw1
 rw [← hw1]
 try rw [← HX.out.2.2]
 rw [← hw1] at hc1'
 clear hw1 HW1
 refine HN.out.mono ?_
 rintro e w2 ⟨rfl,rfl⟩
 go_wp2_with (fail)
 clear hc1'
 refine wp_region_held_drew (S:=fun W => Upd (fun k => k = pz) w1 W) (by kernel_rfl) (Upd.refl _ _).drew (fun hS => ?_)
 have HC2:=hid (HC.out w1.drew (Upd.refl _ _).drew)
 have HZ:=hid HX.out.1.drew
 have HU:=hid (Upd.refl No w1).drew
 generalize w1.drew = w2 at *
 clear HC
 refine zt 0 hS ?_
 refine zt 1 hS ?_
 refine zt 2 hS ?_
 refine zh 3 hS (fun w hw => (HF.out w hw).1) ?_
 refine zt 4 hS ?_
 refine zt 5 hS ?_
 refine zh 6 hS (fun w hw => (HF.out w hw).2.1) ?_
 refine zt 7 hS ?_
 refine zt 8 hS ?_
 refine zt 9 hS ?_
 refine zh 10 hS (fun w hw => (HF.out w hw).1) ?_
 refine zt 11 hS ?_
 refine zt 12 hS ?_
 refine zh 13 hS (fun w hw => (HF.out w hw).2.2) ?_
 refine zk 14 (fun K hK => ?_)
 go_simp
 refine Calls.mono HC2.out ?_
 rintro e w3 ⟨u3,rfl,hin3,hu3,hf3⟩
 have hb3:=HZ.out.upd hu3 (no_ _)
 obtain ⟨A3,c3,rfl,hr3⟩:=hin3
 have HO3:=hid (And.intro hr3 (And.intro hu3 hf3))
 simp only [Lt.val]
 clear hr3 hu3 hf3
 go_wp2_with (fail)
 refine hK.out _ _ ((by exact (HU.out.next HO3.out.2.1).mono fun _ _ h => h.elim)) (fun hS => ?_)
 clear hK K
 try simp only [Act.put,zA,zB,zC]
 refine zt 15 hS ?_
 refine zk 16 (fun K hK => ?_)
 refine wp_store_row 150 (.tmp 2) (.tmp 30) (by rfl) _ (oval (to,fr,sn,kd,l) (.slice A3 l.length c3)) (by rfl) (by rfl) 150 _ hb3 (by kernel_rfl) (by rfl) (by simp [oval,Value.oneCell']) ?_
 refine hK.out _ _ ((by exact ((HU.out.next HO3.out.2.1).mono fun _ _ h => h.elim).next (Nd.Upd.setRow (w:=w3) pz _))) (fun hS => ?_)
 clear hK K
 try simp only [Act.put,zA,zB,zC]
 refine rg_world fun W9 hW9 => ?_
 rw [← hW9] at hS
 have hfin:=first_fin HX.out.2.1 HX.out.2.2 HU.out HO3.out.1 HO3.out.2.1 HO3.out.2.2 hb3 hW9
 clear hW9
 refine zt 17 hS ?_
 refine wpAnyH_done (by kernel_rfl) ?_ _
 all_goals
  have HFi:=hid hfin
  obtain ⟨hb9,_⟩:=hfin
  unfold oval at hb9
  have q0:(W9.cell? ⟨pz,0,none⟩) = some _:=hb9.cell 0
  have q1:(W9.cell? ⟨pz,1,none⟩) = some _:=hb9.cell 1
  have q2:(W9.cell? ⟨pz,2,none⟩) = some _:=hb9.cell 2
  have q3:(W9.cell? ⟨pz,3,none⟩) = some _:=hb9.cell 3
  have q4:(W9.cell? ⟨pz,4,none⟩) = some _:=hb9.cell 4
  clear hb9 hS hb3
  go_wp2
  exact bodyPost_ret (v:=.tuple #[.agg (oval (to,fr,sn,kd,l) (.slice A3 l.length c3)),.bool true]) (by simp [results,go_sem,oval,q0,q1,q2,q3,q4]) rfl (FoOut.of ⟨_,rfl,HFi.out.2⟩)
theorem Ox.popped {w W:World} {F:Nat → Prop} {p n b c:Nat} {m:Om} {x:Oe} {r:List Oe} {A A':Option Addr} (h:Ox w F p m n (.slice A (r.length + 1) c) b) (hm:m.lst = x :: r) (hA:A' = (if c = 1 then A else A.map (·.add (1 * 5)))) (hW:W = w.setCell ⟨p,1,none⟩ (.slice A' r.length (c - 1))) :
 Ot W F p (popO m) n ∧ Upd F w W:=by
 have hu:Upd (fun k => k = p) w W:=by rw [hW]; exact (Upd.refl _ _).set1 1 _
 have hrow:=h.row
 rw [hm] at hrow
 have ht:=hrow.tail
 rw [← hA] at ht
 have hr2:RowO W F (.slice A' r.length (c - 1)) r:=ht.far hu (fun k cs hB e => Blk.ne_type hB h.blk (by decide) e) (fun k cs hB e => Blk.ne_type hB h.blk (by decide) e)
 have hb:Blk W p 273 #[.string m.own,.slice A' r.length (c - 1),.map (some b)]:=by
  rw [hW]
  exact h.blk.put 1 _
 refine ⟨⟨_,b,⟨hb,?_,h.map.upd hu (Ne.symm h.ne),h.fp,h.fb,fun k hk => Nat.lt_of_lt_of_le (h.lt k hk) hu.size⟩⟩,hu.mono fun k _ e => e ▸ h.fp⟩
 show RowO W F _ m.lst.tail
 rw [hm]
 exact hr2
def PpOut (w:World) (F:Nat → Prop) (p:Nat) (m:Om) (n:Nat) (x:Oe) (e:Ending) (w':World):Prop:=∃ u,e = .returned (.tuple #[.agg (oval x u),.bool true]) ∧ In w' x.2 u ∧ Ot w' F p (popO m) n ∧ Upd F w w' ∧ ∀ k,u.ownBlock = some k → w.heap.size ≤ k ∧ k < w'.heap.size
theorem PpOut.of {w:World} {F:Nat → Prop} {p:Nat} {m:Om} {n:Nat} {x:Oe} {e:Ending} {w':World} (h:∃ u,e = .returned (.tuple #[.agg (oval x u),.bool true]) ∧ In w' x.2 u ∧ Ot w' F p (popO m) n ∧ Upd F w w' ∧ ∀ k,u.ownBlock = some k → w.heap.size ≤ k ∧ k < w'.heap.size):PpOut w F p m n x e w':=h
theorem pop_fin {w w1 w2:World} {F:Nat → Prop} {p n b c cs pz:Nat} {m:Om} {to fr:ByteArray} {sn kd:Int} {l:List Int} {r:List Oe} {A A' us:Option Addr} {cz:Array Value} (h:Ox w2 F p m n (.slice A (r.length + 1) c) b) (hm:m.lst = (to,fr,sn,kd,l) :: r) (hA:A' = (if c = 1 then A else A.map (·.add (1 * 5))))
 (h1:Upd No w w1) (hr:Rn w2 .i64 us l ∧ l.length ≤ cs ∧ cs ≤ maxLen) (h2:Upd No w1 w2) (hf:∀ k,(Value.slice us l.length cs).ownBlock = some k → w1.heap.size ≤ k ∧ k < w2.heap.size) (hpz:pz = w.heap.size) (hpF:¬ F pz) (hlt:∀ k,F k → k < w.heap.size) (hp1:pz < w1.heap.size)
 (hz:Blk ((w2.alloc (.cells #[.string to,.string fr,.int .u64 sn,.int .i64 kd,.slice us l.length cs] 150)).setCell ⟨p,1,none⟩ (.slice A' r.length (c - 1))) pz 150 cz) :
 Blk (((w2.alloc (.cells #[.string to,.string fr,.int .u64 sn,.int .i64 kd,.slice us l.length cs] 150)).setCell ⟨p,1,none⟩ (.slice A' r.length (c - 1))).setRow pz (oval (to,fr,sn,kd,l) (.slice us l.length cs))) pz 150 (oval (to,fr,sn,kd,l) (.slice us l.length cs)) ∧ In (((w2.alloc (.cells #[.string to,.string fr,.int .u64 sn,.int .i64 kd,.slice us l.length cs] 150)).setCell ⟨p,1,none⟩ (.slice A' r.length (c - 1))).setRow pz (oval (to,fr,sn,kd,l) (.slice us l.length cs))) (fr,sn,kd,l) (.slice us l.length cs) ∧
  Ot (((w2.alloc (.cells #[.string to,.string fr,.int .u64 sn,.int .i64 kd,.slice us l.length cs] 150)).setCell ⟨p,1,none⟩ (.slice A' r.length (c - 1))).setRow pz (oval (to,fr,sn,kd,l) (.slice us l.length cs))) F p (popO m) n ∧ Upd F w (((w2.alloc (.cells #[.string to,.string fr,.int .u64 sn,.int .i64 kd,.slice us l.length cs] 150)).setCell ⟨p,1,none⟩ (.slice A' r.length (c - 1))).setRow pz (oval (to,fr,sn,kd,l) (.slice us l.length cs))) ∧ ∀ k,(Value.slice us l.length cs).ownBlock = some k → w.heap.size ≤ k ∧ k < (((w2.alloc (.cells #[.string to,.string fr,.int .u64 sn,.int .i64 kd,.slice us l.length cs] 150)).setCell ⟨p,1,none⟩ (.slice A' r.length (c - 1))).setRow pz (oval (to,fr,sn,kd,l) (.slice us l.length cs))).heap.size:=by
 have hal:Upd No w2 (w2.alloc (.cells #[.string to,.string fr,.int .u64 sn,.int .i64 kd,.slice us l.length cs] 150)):=(Upd.refl _ _).alloc _
 obtain ⟨g1,g2⟩:=(h.upd hal fun _ _ => no_ _).popped hm hA rfl
 have hu:=Nd.Upd.setRow (w:=((w2.alloc (.cells #[.string to,.string fr,.int .u64 sn,.int .i64 kd,.slice us l.length cs] 150)).setCell ⟨p,1,none⟩ (.slice A' r.length (c - 1)))) pz (oval (to,fr,sn,kd,l) (.slice us l.length cs))
 have hin:In w2 (fr,sn,kd,l) (.slice us l.length cs):=⟨_,_,rfl,hr⟩
 have s1:=h1.size
 have s2:=h2.size
 have s3:=hal.size
 have s4:=g2.size
 have hp:=hlt _ h.fp
 have hc:Upd (fun k => k = p) (w2.alloc (.cells #[.string to,.string fr,.int .u64 sn,.int .i64 kd,.slice us l.length cs] 150)) ((w2.alloc (.cells #[.string to,.string fr,.int .u64 sn,.int .i64 kd,.slice us l.length cs] 150)).setCell ⟨p,1,none⟩ (.slice A' r.length (c - 1))):=(Upd.refl _ _).set1 1 _
 refine ⟨Nd.Blk.row hz _,((hin.upd hal fun _ _ => no_ _).upd hc fun g hg e => by have:=(hf g hg).1; omega).upd hu fun g hg e => (by have:=(hf g hg).1; omega),g1.upd hu fun k hk e => hpF (e ▸ hk),((((h1.next h2).next hal).mono fun _ _ h => h.elim).next g2).trans hu fun i hi e => by omega,fun k hk => ?_⟩
 have:=hf k hk
 have:=hu.size
 omega
set_option maxRecDepth 100000 in
theorem pop_some {w:World} {F:Nat → Prop} {p n:Nat} {m:Om} {x:Oe} {r:List Oe} (h:Ot w F p m n) (hk:Kk m.own) (hm:m.lst = x :: r) (hl:x.2.2.2.2.length ≤ 1000) :
 Calls Tryz.prog 60 #[.pointer (some ⟨p,0,none⟩)] w fun e w' => PpOut w F p m n x e w':=by
 obtain ⟨w1,pz,hw1,hpz⟩:∃ w1 pz,w1 = w.alloc (.cells oz 150) ∧ pz = w.heap.size:=⟨_,_,rfl,rfl⟩
 have hbz:Blk w1 pz 150 oz:=by rw [hw1,hpz]; exact Blk.fresh _ _ _
 have hu1:Upd No w w1:=by rw [hw1]; exact (Upd.refl _ _).alloc _
 have hpF:¬ F pz:=fun hf => by have:=h.lt _ hf; omega
 have HFi:=hid (first_some (h.quiet hu1) hk hm hl)
 have HH:=hid (And.intro h (And.intro hm (And.intro hbz (And.intro hu1 (And.intro hpz hpF)))))
 have HW1:=hid hw1
 clear h hk hm hl hbz hu1 hpF hw1 hpz
 go_enter Tryz.func60,Tryz.ntmps60
 go_wp2_with (fail)
 have hw1:=HW1.out
 unfold oz at hw1
 rw [← hw1]
 try rw [← HH.out.2.2.2.2.1]
 clear hw1 HW1
 refine HFi.out.mono ?_
 rintro e w2 ⟨u,rfl,hin,hu2,hf2⟩
 obtain ⟨to,fr,sn,kd,l⟩:=x
 obtain ⟨us,cs,rfl,hin2⟩:=hin
 have HO:=hid (And.intro hin2 (And.intro hu2 hf2))
 obtain ⟨v,b,hx⟩:=HH.out.1.quiet (HH.out.2.2.2.1.next hu2)
 have hrow:=hx.row
 rw [HH.out.2.1] at hrow
 obtain ⟨A,c,hv,hc1,hc2⟩:=hrow.len
 simp only [List.length_cons] at hv hc1
 subst hv
 obtain ⟨A',hA',hcut⟩:=cut_tail (P:=Tryz.prog) 270 150 .i64 5 Tryz.underlying270 (by kernel_rfl) A (r.length + 1) c 1 1 rfl (by omega)
 rw [Nat.add_sub_cancel] at hcut
 have HX:=hid (And.intro hx hA')
 have e1:∀ o,(w2.alloc o).cell? ⟨p,1,none⟩ = some (.slice A (r.length + 1) c):=fun o => (hx.upd ((Upd.refl No w2).alloc o) fun _ _ => no_ _).cells.2.1
 have f1:∀ o,(w2.alloc o).frozen? ⟨p,1,none⟩ = false:=fun o => (hx.upd ((Upd.refl No w2).alloc o) fun _ _ => no_ _).blk.free 1
 have hb9:Blk ((w2.alloc (.cells #[.string to,.string fr,.int .u64 sn,.int .i64 kd,.slice us l.length cs] 150)).setCell ⟨p,1,none⟩ (.slice A' r.length (c - 1))) w2.heap.size 150 #[.string to,.string fr,.int .u64 sn,.int .i64 kd,.slice us l.length cs]:=(Blk.fresh w2 _ _).far (by have:=hx.lt _ hx.fp; simp; omega) _
 have hz9:Blk ((w2.alloc (.cells #[.string to,.string fr,.int .u64 sn,.int .i64 kd,.slice us l.length cs] 150)).setCell ⟨p,1,none⟩ (.slice A' r.length (c - 1))) pz 150 oz:=((HH.out.2.2.1.upd hu2 (no_ _)).alloc _).far (fun e => HH.out.2.2.2.2.2 (by have:=hx.fp; simp at e; rw [e]; exact this)) _
 have s0:World.cell? _ ⟨w2.heap.size,0,none⟩ = some _:=hb9.cell 0
 have s1:World.cell? _ ⟨w2.heap.size,1,none⟩ = some _:=hb9.cell 1
 have s2:World.cell? _ ⟨w2.heap.size,2,none⟩ = some _:=hb9.cell 2
 have s3:World.cell? _ ⟨w2.heap.size,3,none⟩ = some _:=hb9.cell 3
 have s4:World.cell? _ ⟨w2.heap.size,4,none⟩ = some _:=hb9.cell 4
 have HZ9:=hid hz9
 unfold oval
 clear hb9 hz9 hx hrow hA' hu2 hf2 hin2 HFi
 go_wp2_with (refine wpList_store_row rfl 150 (.tmp 2) (.tmp 20) rfl pz (oval (to,fr,sn,kd,l) (.slice us l.length cs)) rfl rfl 150 _ HZ9.out (by kernel_rfl) (by rfl) (by simp [oval,Value.oneCell']) ?_)
 have HFn:=hid (pop_fin HX.out.1 HH.out.2.1 HX.out.2 HH.out.2.2.2.1 HO.out.1 HO.out.2.1 HO.out.2.2 HH.out.2.2.2.2.1 HH.out.2.2.2.2.2 HH.out.1.lt HH.out.2.2.1.lt HZ9.out)
 have hq:=HFn.out.1
 unfold oval at hq
 have q0:World.cell? _ ⟨pz,0,none⟩ = some _:=hq.cell 0
 have q1:World.cell? _ ⟨pz,1,none⟩ = some _:=hq.cell 1
 have q2:World.cell? _ ⟨pz,2,none⟩ = some _:=hq.cell 2
 have q3:World.cell? _ ⟨pz,3,none⟩ = some _:=hq.cell 3
 have q4:World.cell? _ ⟨pz,4,none⟩ = some _:=hq.cell 4
 clear hq s0 s1 s2 s3 s4 e1 f1
 exact bodyPost_ret (v:=.tuple #[.agg (oval (to,fr,sn,kd,l) (.slice us l.length cs)),.bool true]) (by simp [results,go_sem,oval,q0,q1,q2,q3,q4]) rfl (PpOut.of ⟨_,rfl,HFn.out.2⟩)
set_option maxRecDepth 100000 in
theorem first_none {w:World} {F:Nat → Prop} {p n:Nat} {m:Om} (h:Ot w F p m n) (hk:Kk m.own) (hm:m.lst = []) :
 Calls Tryz.prog 135 #[.pointer (some ⟨p,0,none⟩)] w fun e w' => e = .returned (.tuple #[.agg oz,.bool false]) ∧ Upd No w w':=by
 obtain ⟨w1,pz,hw1,hpz⟩:∃ w1 pz,w1 = w.alloc (.cells oz 150) ∧ pz = w.heap.size:=⟨_,_,rfl,rfl⟩
 have hbz:Blk w1 pz 150 oz:=by rw [hw1,hpz]; exact Blk.fresh _ _ _
 have hu1:Upd No w w1:=by rw [hw1]; exact (Upd.refl _ _).alloc _
 have HN:=hid (none_ (h.quiet hu1) hk)
 obtain ⟨v,b,hx⟩:=h
 obtain ⟨A,c,hv,_,_⟩:=hx.row.len
 rw [hm] at hv
 simp only [List.length_nil] at hv
 subst hv
 have c1:=(hx.upd hu1 fun _ _ => no_ _).cells.2.1
 rw [hw1] at c1
 unfold oz at c1
 have HW1:=hid hw1
 have HX:=hid (And.intro hbz (And.intro hu1 hpz))
 clear hx hm hk hw1 hpz hbz hu1
 go_enter Tryz.func135,Tryz.ntmps135
 go_wp2_with (fail)
 have hw1:=HW1.out
 unfold oz at hw1
 rw [← hw1]
 try rw [← HX.out.2.2]
 rw [← hw1] at c1
 clear hw1 HW1
 refine HN.out.mono ?_
 rintro e w2 ⟨rfl,rfl⟩
 go_wp2_with (refine wpList_store_row rfl 150 (.tmp 2) (.tmp 14) rfl pz oz rfl rfl 150 _ HX.out.1 (by kernel_rfl) (by rfl) (by simp [oz,Value.oneCell']) ?_)
 have hq:=Nd.Blk.row HX.out.1 oz
 have hu:Upd No w (w1.setRow pz oz):=HX.out.2.1.trans (Nd.Upd.setRow (w:=w1) pz oz) fun i hi e => by have:=HX.out.2.2; omega
 have HU:=hid hu
 unfold oz at hq
 have q0:World.cell? _ ⟨pz,0,none⟩ = some _:=hq.cell 0
 have q1:World.cell? _ ⟨pz,1,none⟩ = some _:=hq.cell 1
 have q2:World.cell? _ ⟨pz,2,none⟩ = some _:=hq.cell 2
 have q3:World.cell? _ ⟨pz,3,none⟩ = some _:=hq.cell 3
 have q4:World.cell? _ ⟨pz,4,none⟩ = some _:=hq.cell 4
 clear hq c1 hu
 exact bodyPost_ret (v:=.tuple #[.agg oz,.bool false]) (by simp [results,go_sem,oz,q0,q1,q2,q3,q4]) rfl ⟨rfl,HU.out⟩
set_option maxRecDepth 100000 in
theorem pop_none {w:World} {F:Nat → Prop} {p n:Nat} {m:Om} (h:Ot w F p m n) (hk:Kk m.own) (hm:m.lst = []) :
 Calls Tryz.prog 60 #[.pointer (some ⟨p,0,none⟩)] w fun e w' => e = .returned (.tuple #[.agg oz,.bool false]) ∧ Upd No w w':=by
 obtain ⟨w1,pz,hw1,hpz⟩:∃ w1 pz,w1 = w.alloc (.cells oz 150) ∧ pz = w.heap.size:=⟨_,_,rfl,rfl⟩
 have hbz:Blk w1 pz 150 oz:=by rw [hw1,hpz]; exact Blk.fresh _ _ _
 have hu1:Upd No w w1:=by rw [hw1]; exact (Upd.refl _ _).alloc _
 have HFi:=hid (first_none (h.quiet hu1) hk hm)
 have HW1:=hid hw1
 have HX:=hid (And.intro hbz (And.intro hu1 hpz))
 clear h hm hk hw1 hpz hbz hu1
 go_enter Tryz.func60,Tryz.ntmps60
 go_wp2_with (fail)
 have hw1:=HW1.out
 unfold oz at hw1
 rw [← hw1]
 try rw [← HX.out.2.2]
 clear hw1 HW1
 refine HFi.out.mono ?_
 rintro e w2 ⟨rfl,hu2⟩
 have HO:=hid (And.intro (HX.out.1.upd hu2 (no_ _)) (HX.out.2.1.next hu2))
 have HZ:=hid (HO.out.1.alloc (.cells oz 150))
 unfold oz
 clear hu2 HFi
 go_wp2_with (refine wpList_store_row rfl 150 (.tmp 2) (.tmp 20) rfl pz oz rfl rfl 150 _ HZ.out (by kernel_rfl) (by rfl) (by simp [oz,Value.oneCell']) ?_)
 have hq:=Nd.Blk.row HZ.out oz
 have hu:Upd No w ((w2.alloc (.cells oz 150)).setRow pz oz):=(HO.out.2.alloc _).trans (Nd.Upd.setRow (w:=w2.alloc (.cells oz 150)) pz oz) fun i hi e => by have:=HX.out.2.2; omega
 unfold oz at hq hu
 have HU:=hid hu
 have q0:World.cell? _ ⟨pz,0,none⟩ = some _:=hq.cell 0
 have q1:World.cell? _ ⟨pz,1,none⟩ = some _:=hq.cell 1
 have q2:World.cell? _ ⟨pz,2,none⟩ = some _:=hq.cell 2
 have q3:World.cell? _ ⟨pz,3,none⟩ = some _:=hq.cell 3
 have q4:World.cell? _ ⟨pz,4,none⟩ = some _:=hq.cell 4
 clear hq hu
 exact bodyPost_ret (v:=.tuple #[.agg oz,.bool false]) (by simp [results,go_sem,oz,q0,q1,q2,q3,q4]) rfl ⟨rfl,HU.out⟩
end Ou
end
section
namespace Ac
open Go.RowKit B Cm Cw Cr Lt Lc Pk Ou
def jnO (p:Nat) (s:Jn.S):Ob:=⟨fun w F => Jn.Jd w F p s,fun h hu hn => h.upd hu hn,fun h => h.lt⟩
def ibO (p:Nat) (xs:List L):Ob:=⟨fun w F => Ib.Ib w F p xs,fun h hu hn => h.upd hu hn,fun h => h.lt⟩
def otO (p:Nat) (m:Om) (n:Nat):Ob:=⟨fun w F => Ot w F p m n,fun h hu hn => h.upd hu hn,fun h => h.lt⟩
def roO (v:Value) (xs:List L):Ob:=⟨fun w F => Ib.Row w F v xs ∧ ∀ k,F k → k < w.heap.size,fun h hu hn => ⟨h.1.upd hu hn,fun k hk => Nat.lt_of_lt_of_le (h.2 k hk) hu.size⟩,fun h => h.2⟩
def parts (p:Nat) (a:Am) (pj pi po n:Nat) (v:Value):List Ob:=
 [Ob.blk p 57 #[.pointer (some ⟨pj,0,none⟩),.pointer (some ⟨pi,0,none⟩),.pointer (some ⟨po,0,none⟩),.int .i64 a.tries,v],jnO pj a.jn,ibO pi a.inb,otO po a.out n,roO v a.poi]
structure Aw (w:World) (F:Nat → Prop) (p:Nat) (a:Am) (pj pi po n:Nat) (v:Value):Prop where
 st:Star (parts p a pj pi po n v) w F
 few:n ≤ 1000
def At (w:World) (F:Nat → Prop) (p:Nat) (a:Am):Prop:=∃ pj pi po n v,Aw w F p a pj pi po n v
section
variable {w w':World} {F G:Nat → Prop} {p pj pi po n:Nat} {a:Am} {v:Value}
theorem Aw.upd (h:Aw w F p a pj pi po n v) (hu:Upd G w w') (hn:∀ k,F k → ¬ G k):Aw w' F p a pj pi po n v:=⟨h.st.keep hu hn,h.few⟩
theorem Aw.quiet (h:Aw w F p a pj pi po n v) (hu:Upd No w w'):Aw w' F p a pj pi po n v:=h.upd hu fun _ _ => no_ _
theorem At.upd (h:At w F p a) (hu:Upd G w w') (hn:∀ k,F k → ¬ G k):At w' F p a:=by
 obtain ⟨pj,pi,po,n,v,h⟩:=h
 exact ⟨pj,pi,po,n,v,h.upd hu hn⟩
theorem At.quiet (h:At w F p a) (hu:Upd No w w'):At w' F p a:=h.upd hu fun _ _ => no_ _
theorem At.lt (h:At w F p a):∀ k,F k → k < w.heap.size:=by
 obtain ⟨pj,pi,po,n,v,h⟩:=h
 exact h.st.lt
theorem Star.get {l:List Ob} {o:Ob} (h:Star l w F) (i:Nat) (hi:l[i]? = some o):∃ G,o.is w G ∧ ∀ k,G k → F k:=by
 obtain ⟨G,h1,h2,_⟩:=h.at_ i hi
 exact ⟨G,h1,h2⟩
theorem Aw.cells (h:Aw w F p a pj pi po n v):w.cell? ⟨p,0,none⟩ = some (.pointer (some ⟨pj,0,none⟩)) ∧ w.cell? ⟨p,1,none⟩ = some (.pointer (some ⟨pi,0,none⟩)) ∧ w.cell? ⟨p,2,none⟩ = some (.pointer (some ⟨po,0,none⟩)) ∧ w.cell? ⟨p,3,none⟩ = some (.int .i64 a.tries) ∧ w.cell? ⟨p,4,none⟩ = some v:=by
 obtain ⟨G,⟨h1,_⟩,_⟩:=Star.get h.st 0 rfl
 exact ⟨by simpa using h1.cell 0,by simpa using h1.cell 1,by simpa using h1.cell 2,by simpa using h1.cell 3,by simpa using h1.cell 4⟩
theorem Aw.jn (h:Aw w F p a pj pi po n v):∃ G,Jn.Jd w G pj a.jn ∧ ∀ k,G k → F k:=Star.get h.st 1 rfl
theorem Aw.ib (h:Aw w F p a pj pi po n v):∃ G,Ib.Ib w G pi a.inb ∧ ∀ k,G k → F k:=Star.get h.st 2 rfl
theorem Aw.ot (h:Aw w F p a pj pi po n v):∃ G,Ot w G po a.out n ∧ ∀ k,G k → F k:=Star.get h.st 3 rfl
theorem Aw.ro (h:Aw w F p a pj pi po n v):∃ G,Ib.Row w G v a.poi ∧ ∀ k,G k → F k:=by
 obtain ⟨G,h1,h2⟩:=Star.get h.st 4 rfl
 exact ⟨G,h1.1,h2⟩
theorem Aw.shape (h:Aw w F p a pj pi po n v):∃ A c,v = .slice A a.poi.length c ∧ a.poi.length ≤ c ∧ c ≤ maxLen:=by
 obtain ⟨G,h1,_⟩:=h.ro
 exact h1.len
end
theorem key_ {w:World} {F:Nat → Prop} {p:Nat} {a:Am} (h:At w F p a) :
 Calls Tryz.prog 39 #[.pointer (some ⟨p,0,none⟩)] w fun e w' => e = .returned (.string a.out.own) ∧ w = w':=by
 obtain ⟨pj,pi,po,n,v,h⟩:=h
 obtain ⟨c0,c1,c2,c3,c4⟩:=h.cells
 obtain ⟨G,ho,_⟩:=h.ot
 have HO:=hid (owner ho)
 clear ho
 go_enter Tryz.func39,Tryz.ntmps39
 go_wp2_with (fail)
 refine HO.out.mono ?_
 rintro e w1 ⟨rfl,rfl⟩
 go_wp2
 go_ret
 exact ⟨rfl,rfl⟩
def NaOut (w:World) (k:ByteArray) (e:Ending) (w':World):Prop:=∃ p F,e = .returned (.tuple #[.pointer (some ⟨p,0,none⟩),.int .i64 0]) ∧ At w' F p (fresh k) ∧ (∀ k,F k → w.heap.size ≤ k) ∧ Upd No w w'
theorem NaOut.of {w:World} {k:ByteArray} {e:Ending} {w':World} (h:∃ p F,e = .returned (.tuple #[.pointer (some ⟨p,0,none⟩),.int .i64 0]) ∧ At w' F p (fresh k) ∧ (∀ k,F k → w.heap.size ≤ k) ∧ Upd No w w'):NaOut w k e w':=h
theorem new_ (k:ByteArray) (hk:Kk k) (w:World):Calls Tryz.prog 188 #[.string k] w fun e w' => NaOut w k e w':=by
 have HO:=hid (Ou.new_ k (kk_key hk) w)
 go_enter Tryz.func188,Tryz.ntmps188
 go_wp2_with (fail)
 refine HO.out.mono ?_
 rintro e w1 ⟨po,Fo,rfl,hot,hfo,hu1⟩
 have HS1:=hid (And.intro hot (And.intro hfo hu1))
 clear hot hfo hu1 HO
 go_wp2_with (fail)
 refine Calls.mono (Jn.new_ w1) ?_
 rintro e w2 ⟨rfl,rfl⟩
 have HW2:Hid (∃ w2 pj,w2 = w1.alloc (.cells (Jn.jc Jn.s0.1 (.slice none 0 0) 0) 158) ∧ pj = w1.heap.size ∧ Jn.Jd w2 (fun k => k = pj) pj Jn.s0 ∧ Upd No w1 w2 ∧ w2.heap.size = w1.heap.size + 1):=hid ⟨_,_,rfl,rfl,Jn.Jd.new rfl,(Upd.refl _ _).alloc _,by simp⟩
 obtain ⟨w2,pj,hw2,hpj,hj2,hu2,hs2⟩:=HW2.out
 rw [← hw2,← hpj]
 have HS2:=hid (And.intro hj2 (And.intro hu2 (And.intro hs2 hpj)))
 clear hw2 hj2 hu2 hs2 hpj HW2
 go_wp2_with (fail)
 refine Calls.mono (Ib.new_ w2) ?_
 rintro e w3 ⟨rfl,hi3,hu3⟩
 obtain ⟨pi,hpi⟩:∃ pi,pi = w2.heap.size:=⟨_,rfl⟩
 rw [← hpi] at hi3
 rw [← hpi]
 have HS3:=hid (And.intro hi3 (And.intro hu3 hpi))
 clear hi3 hu3 hpi
 have HE:Hid (∃ F,At (w3.alloc (.cells #[.pointer (some ⟨pj,0,none⟩),.pointer (some ⟨pi,0,none⟩),.pointer (some ⟨po,0,none⟩),.int .i64 0,.slice none 0 0] 57)) F w3.heap.size (fresh k) ∧ (∀ k,F k → w.heap.size ≤ k) ∧ Upd No w (w3.alloc (.cells #[.pointer (some ⟨pj,0,none⟩),.pointer (some ⟨pi,0,none⟩),.pointer (some ⟨po,0,none⟩),.int .i64 0,.slice none 0 0] 57))):=hid (by
  obtain ⟨hot,hfo,hu1⟩:=HS1.out
  obtain ⟨hj2,hu2,hs2,hpj⟩:=HS2.out
  obtain ⟨hi3,hu3,hpi⟩:=HS3.out
  have s1:=hu1.size
  have s3:=hu3.size
  have q0:Star [roO (.slice none 0 0) []] w No:=⟨No,No,⟨⟨[],rfl,Sl.nil _ _ _ _,by simp,fun k hk => by simp [Value.ownBlock] at hk⟩,fun _ h => h.elim⟩,fun _ h => h.elim,fun _ h => h.elim,fun _ h => h,fun _ h => h,fun _ h => h.elim⟩
  obtain ⟨F1,q1,m1⟩:=q0.push hu1 (o:=otO po (newO k) 0) hot hfo
  obtain ⟨F2,q2,m2⟩:=(q1.quiet hu2).push hu3 (o:=ibO pi []) hi3 (fun g hg => by omega)
  have hal:=(Upd.refl No w3).alloc (.cells #[.pointer (some ⟨pj,0,none⟩),.pointer (some ⟨pi,0,none⟩),.pointer (some ⟨po,0,none⟩),.int .i64 0,.slice none 0 0] 57)
  have hj3:Jn.Jd w3 (fun k => k = pj) pj Jn.s0:=hj2.upd hu3 fun _ _ => no_ _
  have hb3:=Ob.blk_is (Blk.fresh w3 57 #[.pointer (some ⟨pj,0,none⟩),.pointer (some ⟨pi,0,none⟩),.pointer (some ⟨po,0,none⟩),.int .i64 0,.slice none 0 0])
  have q3:Star [jnO pj Jn.s0,ibO pi [],otO po (newO k) 0,roO (.slice none 0 0) []] w3 (fun g => g = pj ∨ F2 g):=⟨fun g => g = pj,F2,hj3,q2,fun g hg hf => by
   rcases m2.sub g hf with h | h
   · have:=q1.lt g h
     omega
   · omega,fun g hg => .inl hg,fun g hg => .inr hg,fun g hg => by
   rcases hg with hg | hg
   · omega
   · exact q2.lt g hg⟩
  obtain ⟨F4,q4,m4⟩:=q3.push hal hb3 (fun g hg => by omega)
  refine ⟨F4,⟨pj,pi,po,0,.slice none 0 0,q4,by omega⟩,fun g hg => ?_,((hu1.next hu2).next hu3).next hal⟩
  rcases m4.sub g hg with h | h
  · rcases h with h | h
    · omega
    · rcases m2.sub g h with h | h
      · rcases m1.sub g h with h | h
        · exact h.elim
        · exact h
      · omega
  · omega)
 go_wp2
 go_ret2
 obtain ⟨F,h⟩:=HE.out
 exact .of ⟨_,F,rfl,h⟩
theorem ofresh {w:World} {F:Nat → Prop} {p n:Nat} {m:Om} {B:Int} (h:Ot w F p m n) (hok:m.ok B) :
 Calls Tryz.prog 191 #[.pointer (some ⟨p,0,none⟩)] w fun e w' => e = .returned (.bool (decide (m.ser.length = 0) && decide (m.lst.length = 0))) ∧ w = w':=by
 have HN:=hid (none_ h hok.key)
 obtain ⟨v,b,h⟩:=h
 obtain ⟨A,c,rfl,hc1,hc2⟩:=h.row.len
 simp only [maxLen] at hc2
 obtain ⟨c0,c1,c2⟩:=h.cells
 have hlen:(Builtin.len_ #[271] 3 #[.map (some b)]).run Tryz.prog w = .ok (.int .i64 m.ser.length) w:=by
  have hm:=h.map
  obtain ⟨D,h1,h2⟩:=id hm
  have hl:=map_len Tryz.underlying9 hm hok.srt (fun e he => by have:=(hok.serk e he).1.2; simp only [maxLen]; omega) h1 h2
  have:=h1.len Tryz.underlying271 3
  rw [hl] at this
  exact this
 clear h hok
 generalize m.ser.length = ns at *
 generalize m.lst.length = nl at *
 rcases Nat.eq_zero_or_pos ns with h0 | h0
 · subst h0
   rcases Nat.eq_zero_or_pos nl with h1 | h1
   · subst h1
     go_enter Tryz.func191,Tryz.ntmps191
     go_wp2_with (fail)
     refine HN.out.mono ?_
     rintro e w' ⟨rfl,rfl⟩
     go_wp2
     go_ret
     exact ⟨rfl,rfl⟩
   · have hb:((nl:Int) == 0) = false:=by simp; omega
     have hT:Hid (decide (nl = 0) = false):=hid (decide_eq_false (by omega))
     go_enter Tryz.func191,Tryz.ntmps191
     go_wp2_with (fail)
     refine HN.out.mono ?_
     rintro e w' ⟨rfl,rfl⟩
     go_wp2
     go_ret
     exact ⟨by rw [hT.out]; rfl,rfl⟩
 · have hb:((ns:Int) == 0) = false:=by simp; omega
   have hT:Hid (decide (ns = 0) = false):=hid (decide_eq_false (by omega))
   go_enter Tryz.func191,Tryz.ntmps191
   go_wp2_with (fail)
   refine HN.out.mono ?_
   rintro e w' ⟨rfl,rfl⟩
   go_wp2
   go_ret
   exact ⟨by rw [hT.out]; rfl,rfl⟩
theorem fresh_ {w:World} {F:Nat → Prop} {p:Nat} {a:Am} {B:Int} (h:At w F p a) (hok:a.ok B) :
 Calls Tryz.prog 121 #[.pointer (some ⟨p,0,none⟩)] w fun e w' => e = .returned (.bool (freshB a)) ∧ w = w':=by
 obtain ⟨pj,pi,po,n,v,h⟩:=h
 obtain ⟨c0,c1,c2,c3,c4⟩:=h.cells
 obtain ⟨A,c,rfl,hc1,hc2⟩:=h.shape
 obtain ⟨_,hj,_⟩:=h.jn
 obtain ⟨_,hi,_⟩:=h.ib
 obtain ⟨_,ho,_⟩:=h.ot
 have HJ:=hid (Jn.version hj)
 have HI:=hid (Ib.len_ pi a.inb _ w hi)
 have HO:=hid (ofresh ho hok.out)
 have HF:Hid (freshB a = (decide (a.jn.2.2 = 0) && (decide (a.inb.length = 0) && ((decide (a.out.ser.length = 0) && decide (a.out.lst.length = 0)) && (decide (a.tries = 0) && decide (a.poi.length = 0)))))):=hid rfl
 have hil:a.inb.length ≤ 8:=hok.inb.1
 have hpl:a.poi.length ≤ 8:=hok.poi.1
 have htl:=hok.tr.1
 have hjv:=hok.jr.v
 clear h hj hi ho hok hc1 hc2
 generalize freshB a = fb at *
 generalize (decide (a.out.ser.length = 0) && decide (a.out.lst.length = 0)) = ob at *
 generalize a.inb.length = ni at *
 generalize a.poi.length = np at *
 generalize a.tries = nt at *
 generalize a.jn.2.2 = nv at *
 by_cases hv:nv = 0
 case' neg =>
  have hb:(nv == 0) = false:=by simpa using hv
  have hT:Hid (fb = false):=hid (by rw [HF.out,decide_eq_false hv]; rfl)
  clear hv
 case' pos =>
  subst hv
  by_cases hn:ni = 0
  case' neg =>
   have hb:((ni:Int) == 0) = false:=by simp; omega
   have hT:Hid (fb = false):=hid (by rw [HF.out,decide_eq_false hn]; simp)
   clear hn
  case' pos =>
   subst hn
   rcases ob with _ | _
   case' false =>
    have hT:Hid (fb = false):=hid (by rw [HF.out]; simp)
   case' true =>
    by_cases ht:nt = 0
    case' neg =>
     have hb:((nt:Int) == 0) = false:=by simp; omega
     have hT:Hid (fb = false):=hid (by rw [HF.out,decide_eq_false ht]; simp)
     clear ht
    case' pos =>
     subst ht
     by_cases hp:np = 0
     case' neg =>
      have hb:((np:Int) == 0) = false:=by simp; omega
      have hT:Hid (fb = false):=hid (by rw [HF.out,decide_eq_false hp]; simp)
      clear hp
     case' pos =>
      subst hp
      have hT:Hid (fb = true):=hid (by rw [HF.out]; simp)
 all_goals
  go_enter Tryz.func121,Tryz.ntmps121
  go_wp2_with (first
   | (go_at_call 190; refine HJ.out.mono ?_; rintro e w' ⟨rfl,rfl⟩)
   | (go_at_call 19; refine HI.out.mono ?_; rintro e w' ⟨rfl,rfl⟩)
   | (go_at_call 191; refine HO.out.mono ?_; rintro e w' ⟨rfl,rfl⟩))
  go_ret
  exact ⟨by rw [hT.out]; rfl,rfl⟩
end Ac
end
section
namespace Ac
open Go.RowKit B Cm Cw Cr Lt Lc Pk Ou Ib
set_option maxRecDepth 100000 in
theorem sound {w:World} {F:Nat → Prop} {p:Nat} {a:Am} {B:Int} (h:At w F p a) (hok:a.ok B) :
 Calls Tryz.prog 103 #[.pointer (some ⟨p,0,none⟩)] w fun e w' => e = .returned (.bool true) ∧ Upd No w w':=by
 have HK:=hid (key_ h)
 obtain ⟨pj,pi,po,n,v,h⟩:=h
 have HAll:Hid (∀ W,Upd No w W → Aw W F p a pj pi po n v):=hid fun W hu => h.quiet hu
 obtain ⟨c0,c1,c2,c3,c4⟩:=h.cells
 obtain ⟨_,hi,_⟩:=h.ib
 have HI:=hid (Ib.len_ pi a.inb _ w hi)
 obtain ⟨_,hr,_⟩:=h.ro
 obtain ⟨ps,A,c,hps,rfl,hrd,hin⟩:=Iw.row_rd hr
 have hpl:a.poi.length = ps.length:=by rw [← hps]; simp
 have HR:Hid ((∀ W,Upd No w W → Rd W 4 A ps.length (pcells ps)) ∧ (∀ x ∈ ps,In w x.1 x.2 ∧ formed x.1 = true)):=hid ⟨fun W hu => Rd.upd hrd (by omega) hu fun _ _ => no_ _,fun x hx => ⟨hin x hx,(hok.poi.2 x.1 (by rw [← hps]; exact List.mem_map_of_mem hx)).1⟩⟩
 have hnz:=str_nz hok.out.key.1
 have hil:a.inb.length ≤ 8:=hok.inb.1
 have hp8:ps.length ≤ 8:=by have:=hok.poi.1; omega
 have htl:=hok.tr.1
 have htp:=hok.tr.2
 have hc8:¬ (8:Int) < (ps.length:Int):=by omega
 have ht3:¬ (3:Int) ≤ (a.tries:Int):=by omega
 have ht0:¬ (a.tries:Int) < 0:=by omega
 have htt:(a.tries = 0) ∨ ((0:Int) < (a.tries:Int) ∧ ((a.inb.length:Int) == 0) = false):=by
  rcases Nat.eq_zero_or_pos a.tries with h0 | h0
  · exact .inl h0
  · have:=htp h0
    have h1:a.inb.length ≠ 0:=fun e => this (List.eq_nil_of_length_eq_zero e)
    exact .inr ⟨by omega,by simp; omega⟩
 clear h hi hr hps hrd hin hpl hok htp
 generalize a.out.own = ow at *
 generalize a.inb.length = ni at *
 generalize a.tries = nt at *
 rcases htt with h0 | ⟨h0,h1⟩
 case' inl => subst h0
 all_goals
  go_enter Tryz.func103,Tryz.ntmps103
  go_wp2_with (first
   | (go_at_call 39; refine HK.out.mono ?_; rintro e w' ⟨rfl,rfl⟩)
   | (go_at_call 19; refine HI.out.mono ?_; rintro e w' ⟨rfl,rfl⟩))
  go_loopw [68] (fun v68 W => ∃ (j:Nat),j ≤ ps.length ∧ v68 = .int .i64 j ∧ Hid (Upd No w W)) (fun v68 _ => ps.length - (intOf v68).toNat)
  case atStart => exact ⟨0,by omega,rfl,hid (Upd.refl _ _)⟩
  case round =>
   obtain ⟨j,hj,rfl,HU⟩:=hrel
   by_cases hlt:j < ps.length
   · obtain ⟨ad,rfl,x0,x1,x2,x3⟩:=at4 (HR.out.1 wr HU.out) hlt
     obtain ⟨hIn,hfo⟩:=HR.out.2 _ (List.getElem_mem hlt)
     generalize ps[j] = y at *
     obtain ⟨x,u⟩:=y
     obtain ⟨Au,cu,hue,hqr⟩:=hIn
     simp only at hue x0 x1 x2 x3 hfo
     subst hue
     have hIn:In w x (.slice Au x.2.2.2.length cu):=⟨Au,cu,rfl,hqr⟩
     have hj2:(j:Int) < (ps.length:Int):=by omega
     have HFo:=hid fun W (hu:Upd No w W) => formed_ x (.slice Au x.2.2.2.length cu) W (hIn.upd hu fun _ _ => no_ _)
     rw [hfo] at HFo
     unfold Lt.val at HFo
     have HW:Hid (∃ w6 h6,w6 = wr.alloc (.cells #[.string x.1,.int .u64 x.2.1,.int .i64 x.2.2.1,.slice Au x.2.2.2.length cu] 60) ∧ h6 = wr.heap.size ∧ Upd No w w6 ∧ Blk w6 h6 60 #[.string x.1,.int .u64 x.2.1,.int .i64 x.2.2.1,.slice Au x.2.2.2.length cu]):=
      hid ⟨_,_,rfl,rfl,HU.out.alloc _,Blk.fresh _ _ _⟩
     clear hqr hIn hfo
     go_wp2_with (fail)
     obtain ⟨w6,h6,hw6,hh6,hu6,hB6⟩:=HW.out
     rw [← hw6]
     try rw [← hh6]
     have HU6:=hid hu6
     clear hw6 hh6 hu6 hB6 HW x0 x1 x2 x3 HU
     refine Calls.mono (HFo.out w6 HU6.out) ?_
     rintro e w7 ⟨rfl,hu7⟩
     have HU7:=hid (HU6.out.next hu7)
     clear hu7 HU6
     go_wp2
     go_roundw
     case rel => exact ⟨j + 1,by omega,by go_num,HU7⟩
     case measure => simp [intOf]; omega
   · obtain rfl:j = ps.length:=by omega
     go_wp2
     go_ret
     exact ⟨rfl,HU.out⟩
end Ac
end
