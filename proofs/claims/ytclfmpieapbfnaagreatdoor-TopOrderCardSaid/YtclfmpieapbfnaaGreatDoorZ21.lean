/- Part 21: lemmas, no conditions. -/
import Derived.Test.YtclfmpieapbfnaaGreatDoorZ20
set_option maxHeartbeats 4000000
set_option linter.unusedVariables false
set_option linter.unusedSimpArgs false
section
namespace Go.Proofs.YtclfmpieapbfnaaGreatDoor.Gl
open Go.RowKit B Cm Sm Dk Gp
def wrs (d:Dm) (base:Nat) (f:Nat → List Int) (j:Nat):Dm:=⟨d.nb,d.log ++ (List.range j).map (fun i => (base + i,f i)),if 0 ≤ d.fuse then d.fuse - j else d.fuse,d.down⟩
theorem wrs_zero (d:Dm) (base:Nat) (f:Nat → List Int):wrs d base f 0 = d:=by
 obtain ⟨nb,log,fuse,down⟩:=d
 simp [wrs]
def Dm.may (d:Dm) (n:Nat):Nat:=if d.down then 0 else if 0 ≤ d.fuse ∧ d.fuse < n then d.fuse.toNat else n
theorem Dm.may_le (d:Dm) (n:Nat):Dm.may d n ≤ n:=by
 unfold Dm.may
 split
 · omega
 · split <;> omega
theorem wrs_more {d:Dm} {base j:Nat} {f:Nat → List Int} (hd:d.down = false) (hf:¬ (0 ≤ d.fuse ∧ d.fuse ≤ j)) (hb:base + j < d.nb) (hl:(f j).length = 256):(wrs d base f j).wr ((base + j:Nat):Int) (f j) = (0,wrs d base f (j + 1)):=by
 obtain ⟨nb,log,fuse,down⟩:=d
 simp only at hd hf hb
 subst hd
 unfold wrs
 rw [wr_ok _ _ _ (base + j) (f j) hb hl (by simp only; split <;> omega)]
 simp only [List.range_succ,List.map_append,List.map_cons,List.map_nil,List.append_assoc,Prod.mk.injEq,Dm.mk.injEq,true_and,and_true]
 by_cases h0:0 ≤ fuse
 · rw [if_pos h0,if_pos h0,if_pos (by omega)]
   omega
 · rw [if_neg h0,if_neg h0,if_neg (by omega)]
theorem wrs_stop {d:Dm} {base j:Nat} {f:Nat → List Int} (hd:d.down = false) (hf:d.fuse = j) (hb:base + j < d.nb) (hl:(f j).length = 256):(wrs d base f j).wr ((base + j:Nat):Int) (f j) = (9,{ wrs d base f j with down:=true }):=by
 obtain ⟨nb,log,fuse,down⟩:=d
 simp only at hd hf hb
 subst hd
 unfold wrs
 have:(if 0 ≤ fuse then fuse - (j:Int) else fuse) = 0:=by split <;> omega
 simp only [this]
 exact wr_zero _ _ (base + j) (f j) hb hl
theorem wrs_down {d:Dm} {base j:Nat} {f:Nat → List Int} (hd:d.down = true):(wrs d base f j).wr ((base + j:Nat):Int) (f j) = (9,wrs d base f j):=by
 unfold Dm.wr
 rw [if_pos (by exact hd)]
def Lm.ap (m:Lm) (d:Dm) (u:List Int):Int × Dm × Lm:=
 if m.over = true then (9,d,m) else if u.length = 0 then (1,d,m) else if 60000 < u.length then (4,d,m) else if m.count - m.used < nbl u then (6,d,m)
 else if Dm.may d (nbl u) = nbl u then (0,wrs d (m.fr + m.used) (blk m.ep m.used u) (nbl u),{ m with us:=m.us ++ [u],used:=m.used + nbl u })
 else (9,{ wrs d (m.fr + m.used) (blk m.ep m.used u) (Dm.may d (nbl u)) with down:=true },{ m with over:=true })
structure Ap (w w':World) (F D:Nat → Prop) (q p:Nat) (m:Lm) (d:Dm):Prop where
 ex:∃ F' D':Nat → Prop,Lg w' F' q p m ∧ Dk w' D' p d ∧ (∀ k,F' k → F k ∨ w.heap.size ≤ k) ∧ (∀ k,D' k → D k ∨ w.heap.size ≤ k) ∧ ∀ k,F' k → ¬ D' k
 upd:Upd (fun k => F k ∨ D k) w w'
theorem Ap.same {w w':World} {F D:Nat → Prop} {q p:Nat} {m:Lm} {d:Dm} (hl:Lg w F q p m) (hd:Dk w D p d) (hfd:∀ k,F k → ¬ D k) (hu:Upd No w w'):Ap w w' F D q p m d:=
 ⟨⟨F,D,hl.upd hu fun _ _ => no_ _,hd.upd hu fun _ _ => no_ _,fun k h => .inl h,fun k h => .inl h,hfd⟩,hu.mono fun _ _ h => h.elim⟩
structure As (w W:World) (F D:Nat → Prop) (q p:Nat) (m:Lm) (d:Dm) (A A':Option Addr) (c':Nat) (u r:List Int) (j:Nat):Prop where
 dk:∃ D':Nat → Prop,Dk W D' p (wrs d (m.fr + m.used) (blk m.ep m.used u) j) ∧ ∀ k,D' k → D k ∨ w.heap.size ≤ k
 upd:Upd D w W
 rd:Rn W .u8 A' r
 eq:r = u.drop (233 * j)
 blk:∀ ad',A' = some ad' → ∃ ad,A = some ad ∧ ad'.block = ad.block
 cap:r.length ≤ c' ∧ c' ≤ 9223372036854775807
theorem Lg.over {w:World} {F:Nat → Prop} {q p:Nat} {m:Lm} (h:Lg w F q p m) (b:Bool):Lg (w.setCell ⟨q,6,none⟩ (.bool b)) F q p { m with over:=b }:=by
 obtain ⟨vu,h1,h2,h3,h4⟩:=h
 refine ⟨vu,?_,h2.far h1 (by decide) (by decide) ((Upd.refl _ _).set1 _ _),h3,fun k hk => ?_⟩
 · have:=h1.put 6 (.bool b)
   simpa using this
 · have:=h4 k hk
   simpa [World.setCell] using this
theorem may_stop {d:Dm} {N j:Nat} (hj:j < N) (hm:j ≤ Dm.may d N) (hf:d.down = true ∨ (0 ≤ d.fuse ∧ d.fuse ≤ j)):Dm.may d N = j ∧ (d.down = true → j = 0) ∧ (d.down = false → d.fuse = j):=by
 unfold Dm.may at *
 rcases hd:d.down with _ | _
 · rw [hd] at hm hf
   simp only [Bool.false_eq_true,if_false,false_or] at hm hf
   rw [if_pos ⟨hf.1,by omega⟩] at hm
   refine ⟨?_,(fun h => by cases h),fun _ => by omega⟩
   simp only [Bool.false_eq_true,if_false]
   rw [if_pos ⟨hf.1,by omega⟩]
   omega
 · rw [hd] at hm
   simp only [if_true] at hm
   exact ⟨by simp only [if_true]; omega,fun _ => by omega,(fun h => by cases h)⟩
theorem may_more {d:Dm} {N j:Nat} (hj:j < N) (hd:d.down = false) (hf:¬ (0 ≤ d.fuse ∧ d.fuse ≤ j)):j + 1 ≤ Dm.may d N:=by
 unfold Dm.may
 rw [hd]
 simp only [Bool.false_eq_true,if_false]
 split <;> omega
theorem Lg.pushed {W W2 W3:World} {F:Nat → Prop} {q p:Nat} {m:Lm} {vs:List Un} {vu x2:Value} {u:List Int} {A3:Option Addr} {c3:Nat}
 (hb:Blk W q 312 #[.pointer (some ⟨p,0,none⟩),.int .i64 m.fr,.int .i64 m.count,.int .u64 m.ep,vu,.int .i64 m.used,.bool m.over]) (hFq:F q) (hlt:∀ k,F k → k < W.heap.size)
 (hal:Upd No W W2) (hvs:vs.map (·.1) = m.us) (hFx:∀ x ∈ vs,Uok W2 F x) (hrow:W2.ownsRow 0 22 1 vu vs.length (vs.map (·.2))) (hv:∀ k,vu.ownBlock = some k → F k)
 (hx:W2.ownsRow 0 5 1 x2 u.length (nums .u8 u)) (hxn:∀ k,x2.ownBlock = some k → W.heap.size ≤ k)
 (ho3:W3.ownsRow 0 22 1 (.slice A3 (vs.length + 1) c3) (vs.length + 1) (vs.map (·.2) ++ [x2])) (hg:W2.grownBy W3 vu.ownBlock)
 (hat:∀ g,(Value.slice A3 (vs.length + 1) c3).ownBlock = some g → vu.ownBlock = some g ∨ W2.heap.size ≤ g) :
 ∃ F',Lg (W3.setCell ⟨q,4,none⟩ (.slice A3 (vs.length + 1) c3)) F' q p { m with us:=m.us ++ [u] } ∧ (∀ k,F' k → F k ∨ W.heap.size ≤ k) ∧ Upd F W (W3.setCell ⟨q,4,none⟩ (.slice A3 (vs.length + 1) c3)):=by
 have hgu:Upd (fun i => vu.ownBlock = some i) W2 W3:=(Upd.refl _ _).grown hg fun i hi => .inl hi
 have hqo:vu.ownBlock ≠ some q:=own_blk_ne hrow (hb.upd hal (no_ _)) (by decide)
 have hb3:=(hb.upd hal (no_ _)).upd hgu hqo
 have hp:=push_uns hFx hrow hv hx ho3 hg
 rw [hvs] at hp
 have hu4:Upd (fun i => i = q) W3 (W3.setCell ⟨q,4,none⟩ (.slice A3 (vs.length + 1) c3)):=(Upd.refl _ _).set1 _ _
 have hblk:=hb3.put 4 (.slice A3 (vs.length + 1) c3)
 have hs2:=hal.size
 have hs3:=hg.size
 have hz:(W3.setCell ⟨q,4,none⟩ (.slice A3 (vs.length + 1) c3)).heap.size = W3.heap.size:=by simp [World.setCell]
 refine ⟨_,⟨_,by simpa using hblk,hp.far hb3 (by decide) (by decide) hu4,.inl hFq,fun i hi => ?_⟩,fun i hi => ?_,?_⟩
 · rw [hz]
   rcases hi with hi | hi | hi
   · have:=hlt i hi; omega
   · have:=(hx.lt i hi).2; omega
   · exact (ho3.lt i hi).2
 · rcases hi with hi | hi | hi
   · exact .inl hi
   · exact .inr (hxn i hi)
   · rcases hat i hi with e | e
     · exact .inl (hv i e)
     · exact .inr (by omega)
 · have h1:Upd F W W3:=(hal.mono fun _ _ h => h.elim).trans hgu fun i hi e => hv i e
   exact h1.trans hu4 fun i hi e => e ▸ hFq
set_option maxRecDepth 100000 in
theorem append (q p:Nat) (m:Lm) (d:Dm) (F D:Nat → Prop) (A:Option Addr) (c:Nat) (u:List Int) (w:World) (hl:Lg w F q p m) (hd:Dk w D p d) (hm:m.ok) (hok:d.ok) (hfd:∀ k,F k → ¬ D k)
 (hr:Rn w .u8 A u) (hc:u.length ≤ c) (hcm:c ≤ 9223372036854775807) (hA:∀ ad,A = some ad → ¬ D ad.block ∧ ¬ F ad.block) (hby:Byte u) (har:m.fr + m.count ≤ d.nb) (hlog:d.log.length ≤ 900000) :
 Calls Tryz.prog 109 #[.pointer (some ⟨q,0,none⟩),.slice A u.length c] w fun e w' => e = .returned (.int .i64 (m.ap d u).1) ∧ Ap w w' F D q p (m.ap d u).2.2 (m.ap d u).2.1:=by
 have HS:Hid (∀ w',Upd No w w' → Ap w w' F D q p m d):=hid fun w' hu => Ap.same hl hd hfd hu
 have HR:Hid (m.ap d u = if m.over = true then (9,d,m) else if u.length = 0 then (1,d,m) else if 60000 < u.length then (4,d,m) else if m.count - m.used < nbl u then (6,d,m)
  else if Dm.may d (nbl u) = nbl u then (0,wrs d (m.fr + m.used) (blk m.ep m.used u) (nbl u),{ m with us:=m.us ++ [u],used:=m.used + nbl u })
  else (9,{ wrs d (m.fr + m.used) (blk m.ep m.used u) (Dm.may d (nbl u)) with down:=true },{ m with over:=true })):=hid rfl
 have HL:=hid (And.intro hl (And.intro hd (And.intro hm (And.intro hok (And.intro hfd (And.intro hr (And.intro hA (And.intro hby har))))))))
 have HRm:=hid (room q p m F w hl hm)
 obtain ⟨vu,hbl,hun,hFq,_⟩:=hl
 have HBl:=hid (And.intro hbl (And.intro hun hFq))
 obtain ⟨c0,c1,c2,c3,c4,c5,c6⟩:=Lg.cells hbl
 have hle:=hm.le
 have hca:=hm.area
 clear hd hm hok hfd hr hA hby har hbl hun hFq
 by_cases hov:m.over = true
 · rw [HR.out,if_pos hov]
   rw [hov] at c6
   clear hov HR
   go_enter Tryz.func109,Tryz.ntmps109
   go_wp2
   go_ret
   exact ⟨rfl,HS.out _ (Upd.refl _ _)⟩
 rw [if_neg hov] at HR
 rw [show m.over = false by simpa using hov] at c6
 by_cases h0:u.length = 0
 · rw [HR.out,if_pos h0]
   have h0':(u.length:Int) = 0:=by omega
   clear hov HR
   go_enter Tryz.func109,Tryz.ntmps109
   go_wp2
   go_ret
   exact ⟨rfl,HS.out _ (Upd.refl _ _)⟩
 rw [if_neg h0] at HR
 have h0':¬ (u.length:Int) = 0:=by omega
 by_cases h6:60000 < u.length
 · rw [HR.out,if_pos h6]
   have h6':(60000:Int) < (u.length:Int):=by omega
   clear hov HR
   go_enter Tryz.func109,Tryz.ntmps109
   go_wp2
   go_ret
   exact ⟨rfl,HS.out _ (Upd.refl _ _)⟩
 rw [if_neg h6] at HR
 have h6':¬ (60000:Int) < (u.length:Int):=by omega
 obtain ⟨N,hN⟩:∃ N,N = nbl u:=⟨_,rfl⟩
 rw [← hN] at HR
 have hNi:((u.length:Int) + 233 - 1) / 233 = (N:Int):=by
  rw [hN]
  unfold nbl
  omega
 have HNi:=hid hNi
 by_cases hro:m.count - m.used < N
 · rw [HR.out,if_pos hro]
   have hro':((m.count - m.used:Nat):Int) < ((u.length:Int) + 233 - 1) / 233:=by omega
   clear hov HR hNi hN
   generalize m.count - m.used = rm at *
   go_enter Tryz.func109,Tryz.ntmps109
   go_wp2_with (fail)
   refine HRm.out.mono ?_
   rintro e w1 ⟨rfl,hu1⟩
   have HU1:=hid hu1
   clear hu1
   go_wp2
   go_ret
   exact ⟨rfl,HS.out _ HU1.out⟩
 rw [if_neg hro] at HR
 have hro':¬ ((m.count - m.used:Nat):Int) < ((u.length:Int) + 233 - 1) / 233:=by omega
 have HNn:=hid hN
 have hfit:m.used + N ≤ m.count:=by omega
 have hN1:1 ≤ N:=by rw [hN]; unfold nbl; omega
 have hN258:N ≤ 258:=by rw [hN]; unfold nbl; omega
 have HRo:=hid hro'
 clear hov hNi hN hro hro'
 obtain ⟨rm,hrm⟩:∃ rm,rm = m.count - m.used:=⟨_,rfl⟩
 rw [← hrm] at HRm HRo
 have hro':=HRo.out
 clear hrm
 go_enter Tryz.func109,Tryz.ntmps109
 go_wp2_with (fail)
 refine HRm.out.mono ?_
 rintro e w1 ⟨rfl,hu1⟩
 have HU1:=hid hu1
 have hb1:=HBl.out.1.upd hu1 (no_ _)
 clear c0 c1 c2 c3 c4 c5 c6
 obtain ⟨c0,c1,c2,c3,c4,c5,c6⟩:=Lg.cells hb1
 have hA0:As w w1 F D q p m d A A c u u 0:=⟨⟨D,by rw [wrs_zero]; exact HL.out.2.1.upd hu1 fun _ _ => no_ _,fun k h => .inl h⟩,hu1.mono fun _ _ h => h.elim,Rd.upd HL.out.2.2.2.2.2.1 (by omega) hu1 fun _ _ => no_ _,by simp,fun ad' h => ⟨ad',h,rfl⟩,⟨hc,hcm⟩⟩
 have HA0:=hid hA0
 clear hA0 hu1 hb1
 go_wp2_with (fail)
 clear c0 c1 c2 c3 c4 c5 c6
 go_loopw [5,6] (fun v5 v6 W => ∃ (j:Nat) (A':Option Addr) (c':Nat) (r:List Int),j ≤ N ∧ v5 = .int .i64 ((m.used + j:Nat):Int) ∧ v6 = .slice A' r.length c' ∧ Hid (As w W F D q p m d A A' c' u r j ∧ j ≤ Dm.may d N)) (fun v5 _ _ => m.used + N - (intOf v5).toNat)
 case atStart => exact ⟨0,A,c,u,by omega,by simp,rfl,hid ⟨HA0.out,Nat.zero_le _⟩⟩
 case round =>
  clear HA0
  obtain ⟨j,A',c',r,hj,rfl,rfl,HW⟩:=hrel
  by_cases hlt:j < N
  · obtain ⟨a,ha⟩:∃ a,a = m.used + j:=⟨_,rfl⟩
    rw [← ha]
    have HAe:=hid ha
    have hrl:r.length = u.length - 233 * j:=by rw [HW.out.1.eq,List.length_drop]
    have hr0:0 < r.length:=by
     rw [hrl]
     have h1:=lt_nbl (u:=u) (j:=j) (by rw [← HNn.out]; exact hlt)
     omega
    have hr0':(0:Int) < (r.length:Int):=by omega
    have hr6:r.length ≤ 60000:=by omega
    have hc1:=HW.out.1.cap.1
    have hc2:=HW.out.1.cap.2
    have HRl:=hid hrl
    have ha6:a ≤ 65536:=by omega
    clear hrl ha
    by_cases h233:r.length ≤ 233
    · have h233':(r.length:Int) ≤ 233:=by omega
      have hpc:pc u j = r:=by
       show (u.drop (233 * j)).take 233 = _
       rw [← HW.out.1.eq]
       exact List.take_of_length_le (by omega)
      have hls:lst u j = true:=by
       unfold lst
       rw [← HRl.out]
       exact decide_eq_true (by omega)
      have hcut:=cut_to (P:=Tryz.prog) 22 5 .i64 Tryz.underlying22 (by kernel_rfl) A' r.length c' (r.length) ((r.length:Int)) (by omega) (by omega)
      obtain ⟨A2,hA2,hcut2⟩:=cut_from (P:=Tryz.prog) 22 5 .i64 Tryz.underlying22 (by kernel_rfl) A' r.length c' (r.length) ((r.length:Int)) (by omega) (by omega)
      have HA2:=hid hA2
      have hxl:(pc u j).length = r.length:=by
       rw [hpc]
      have HX:=hid (And.intro hpc (And.intro hls hxl))
      have hrx:∀ W,Upd No wr W → Rd W 1 A' (r.length) (nums .u8 (pc u j)):=fun W hu => by
       have h1:Rn W .u8 A' (r.take (r.length)):=Rn.take (Rd.upd HW.out.1.rd (by omega) hu fun _ _ => no_ _) (by omega)
       have h2:r.take (r.length) = pc u j:=by
        rw [hpc]
        exact List.take_of_length_le (Nat.le_refl _)
       rw [h2] at h1
       unfold Rn at h1
       rwa [hxl] at h1
      have HRx:=hid hrx
      have HBw:=hid (HBl.out.1.upd HW.out.1.upd (HL.out.2.2.2.2.1 q HBl.out.2.2))
      have hHd:=fun W (hu:Upd No wr W) => header q _ _ _ vu _ _ m.ep true W (HBw.out.upd hu (no_ _)) HL.out.2.2.1.ep
      have HHd:=hid hHd
      have hw32:IntKind.u32.wrap (a:Int) = (a:Int):=by
       rw [IntKind.wrap_u32]
       omega
      have hpl:=pay_len m.ep u j
      rw [hls] at hpl
      have hpb:Byte (hdr m.ep true ++ pc u j):=fun z hz => by
       rcases List.mem_append.1 hz with hz | hz
       · exact hdr_bytes _ _ z hz
       · exact HL.out.2.2.2.2.2.2.2.1 z (List.mem_of_mem_drop (List.mem_of_mem_take hz))
      have hdl:(hdr m.ep true ++ pc u j).length = 9 + (r.length):=by rw [List.length_append,hdr_length,hxl]
      have hSe:∀ W A1 c1,W.ownsRow wr.heap.size 5 1 (.slice A1 (9 + (r.length)) c1) (9 + (r.length)) (nums .u8 (hdr m.ep true) ++ nums .u8 (pc u j)) → Calls Tryz.prog 176 #[.int .u8 76,.int .u32 a,.slice A1 (9 + (r.length)) c1] W fun e w' => ∃ g,e = .returned (.tuple #[.slice (some ⟨g,0,none⟩) 256 256,.int .i64 0]) ∧ Nb w' 5 g (sealed 76 a (hdr m.ep true ++ pc u j)) ∧ W.heap.size ≤ g ∧ Upd No W w':=fun W A1 c1 ho => by
       have h1:Rn W .u8 A1 (hdr m.ep true ++ pc u j):=by
        have:=Rd.of_own ho
        unfold Rn
        rw [nums_append,hdl]
        exact this
       have h2:=Sw.seal_ A1 c1 _ 76 a W h1 hpl hpb (by omega) (by omega)
       rwa [hdl] at h2
      have HSe:=hid hSe
      have hsz:Hid (sealed 76 a (hdr m.ep true ++ pc u j) = blk m.ep m.used u j):=hid (by
       unfold blk
       rw [hls,HAe.out])
      clear hpc hls hxl hrx hHd hpl hpb hdl hSe
      go_wp2_with (fail)
      refine wp_region_held_drew (S:=fun W => Upd No wr W) (by kernel_rfl) (Upd.drew (Upd.refl _ _)) (fun hS => ?_)
      refine zt 0 hS ?_
      refine zt 1 hS ?_
      refine zt 2 hS ?_
      refine zt 3 hS ?_
      refine zt 4 hS ?_
      refine zt 5 hS ?_
      refine zt 6 hS ?_
      refine zt 8 hS ?_
      refine zt 9 hS ?_
      refine zh 10 hS (fun w hw => hcut w) ?_
      refine zk 7 (fun K hK => ?_)
      go_simp
      refine Calls.mono (HHd.out _ hS) ?_
      rintro e w5 ⟨g5,rfl,hn5,hg5,hu5⟩
      go_wp2_with (fail)
      refine hK.out _ _ ((Upd.next hS hu5)) (fun hS => ?_)
      clear hK K
      try simp only [Act.put,zA,zB,zC]
      refine zk 11 (fun K hK => ?_)
      refine wp_ap_row wr.heap.size (.tmp 56) (.tmp 59) 22 5 (.int .u8 0) 1 1 (by rfl) Tryz.underlying22 Sw.u8_info rfl (by omega) (.slice (some ⟨g5,0,none⟩) 9 9) 9 (nums .u8 (hdr m.ep true)) A' (r.length) c' (nums .u8 (pc u j)) (by rfl) (by rfl) (by have:=hn5.own (base:=wr.heap.size) hg5 (by rw [hdr_length]; omega); rwa [hdr_length] at this) (HRx.out _ hS) (nums_one _ _) (by omega) (by omega) (by have:=hS.size; omega) ?_
      intro A6 c6 w6 ho6 hg6 hat6
      have hS6:Upd No wr w6:=Upd.grown hS hg6 (fun k hk => .inr (by have h1:g5 = k:=(by simpa [Value.ownBlock] using hk); simp at hg5; omega))
      refine hK.out _ _ ((by exact hS6)) (fun hS => ?_)
      clear hK K
      try simp only [Act.put,zA,zB,zC]
      refine zk 12 (fun K hK => ?_)
      go_simp
      refine Calls.mono (HSe.out _ _ _ ho6) ?_
      rintro e w7 ⟨g7,rfl,hn7,hg7,hu7⟩
      go_wp2_with (fail)
      refine hK.out _ _ ((Upd.next hS6 hu7)) (fun hS => ?_)
      clear hK K
      try simp only [Act.put,zA,zB,zC]
      refine zt 13 hS ?_
      refine zt 14 hS ?_
      refine zt 15 hS ?_
      refine zt 16 hS ?_
      refine zt 17 hS ?_
      refine wpAnyH_done (by kernel_rfl) ?_ _
      rw [hsz.out] at hn7
      have HN7:=hid hn7
      have HS7:=hid hS
      have HG7:Hid (wr.heap.size ≤ g7):=hid (Nat.le_trans hS6.size hg7)
      clear hn5 hg5 hu5 ho6 hg6 hat6 hS6 hn7 hg7 hu7 hS HHd HSe hsz
      have HU7:=hid ((HW.out.1.upd.next (HS7.out.mono fun _ _ h => h.elim):Upd D w w7))
      obtain ⟨D',hdk,hds⟩:=HW.out.1.dk
      have HDk:=hid (And.intro (hdk.upd HS7.out fun _ _ => no_ _) hds)
      have HB7:=hid (HBw.out.upd HS7.out (no_ _))
      have hbl7:=blk_length m.ep m.used u j
      have hok7:(wrs d (m.fr + m.used) (blk m.ep m.used u) j).ok:=by
       have h1:=HL.out.2.2.2.1
       unfold Dm.ok wrs at *
       refine ⟨?_,?_,h1.2.2⟩
       · simp only
         have:=HW.out.2
         unfold Dm.may at this
         split
         · rename_i h0
           by_cases hdd:d.down = true
           · rw [if_pos hdd] at this
             omega
           · rw [if_neg hdd] at this
             split at this <;> omega
         · exact h1.1
       · simp only
         split <;> omega
      have hWr:=fun W (hu:Upd No w7 W) => write p (wrs d (m.fr + m.used) (blk m.ep m.used u) j) D' (some ⟨g7,0,none⟩) 256 (blk m.ep m.used u j) ((m.fr + m.used + j:Nat):Int) W (HDk.out.1.upd hu fun _ _ => no_ _) (Rd.upd HN7.out.rn (by omega) hu fun _ _ => no_ _) (fun ad e hk => by
       injection e with e
       subst e
       have h1:=hdk.lt _ hk
       have h2:=HG7.out
       simp only at h1
       omega) hok7 (by
        simp only [wrs,List.length_append,List.length_map,List.length_range]
        omega)
      rw [hbl7] at hWr
      have hfa:(m.fr:Int) + (a:Int) = ((m.fr + m.used + j:Nat):Int):=by rw [HAe.out]; omega
      have HWf:Hid (IntKind.i64.wrap ((m.fr:Int) + (a:Int)) = ((m.fr + m.used + j:Nat):Int)):=hid (by
       rw [hfa]
       exact IntWalk.i64_in _ (by omega))
      have hsz9:=HU7.out.size
      have hF9:∀ k,F k → ¬ D' k:=fun k hk hd => (HDk.out.2 k hd).elim (HL.out.2.2.2.2.1 k hk) fun h => by
       have:=HL.out.1.lt k hk
       omega
      have HF9:=hid hF9
      have HCl:Hid (∀ W,Upd D' w7 W → W.cell? ⟨q,0,none⟩ = some (.pointer (some ⟨p,0,none⟩)) ∧ W.cell? ⟨q,1,none⟩ = some (.int .i64 m.fr)):=hid fun W hu => by
       obtain ⟨c0,c1,_⟩:=Lg.cells (HB7.out.upd hu (HF9.out q HBl.out.2.2))
       exact ⟨c0,c1⟩
      have HBl7:=hid hbl7
      clear hdk hds hbl7 hok7 hfa hF9
      by_cases hst:d.down = true ∨ (0 ≤ d.fuse ∧ d.fuse ≤ j)
      · obtain ⟨hmy,hs1,hs2⟩:=may_stop hlt HW.out.2 hst
        have hwr:∃ d',(wrs d (m.fr + m.used) (blk m.ep m.used u) j).wr ((m.fr + m.used + j:Nat):Int) (blk m.ep m.used u j) = (9,d') ∧ d' = { wrs d (m.fr + m.used) (blk m.ep m.used u) j with down:=true }:=by
         have hbn:m.fr + m.used + j < d.nb:=by
          have:=HL.out.2.2.2.2.2.2.2.2
          omega
         rcases hdd:d.down with _ | _
         · exact ⟨_,wrs_stop hdd (hs2 hdd) hbn HBl7.out,rfl⟩
         · refine ⟨_,wrs_down hdd,?_⟩
           simp only [wrs,hdd]
        obtain ⟨d',hwe,hde⟩:=hwr
        rw [hwe] at hWr
        have HWr:=hid hWr
        have HR9:Hid (m.ap d u = (9,d',{ m with over:=true })):=hid (by
         rw [HR.out,hmy,if_neg (by omega),hde])
        clear hWr hwe hde hmy hs1 hs2 hst HR
        go_wp2_with (fail)
        refine wp_region_held_drew (S:=fun W => Upd D' w7 W) (by kernel_rfl) (Upd.drew (Upd.refl _ _)) (fun hS => ?_)
        refine zt 0 hS ?_
        refine zt 1 hS ?_
        refine zt 2 hS ?_
        refine zh 3 hS (fun w hw => (HCl.out w hw).1) ?_
        refine zt 4 hS ?_
        refine zt 5 hS ?_
        refine zt 6 hS ?_
        refine zh 7 hS (fun w hw => (HCl.out w hw).2) ?_
        refine zt 8 hS ?_
        refine zh 9 hS (fun w hw => HWf.out) ?_
        refine zt 10 hS ?_
        refine zk 11 (fun K hK => ?_)
        go_simp
        refine Calls.mono (HWr.out _ (Upd.drew (Upd.refl No w7))) ?_
        rintro e w9 ⟨rfl,D9,hd9,hm9⟩
        go_wp2_with (fail)
        refine hK.out _ _ ((Upd.of_drew hm9.upd)) (fun hS => ?_)
        clear hK K
        try simp only [Act.put,zA,zB,zC]
        refine zt 12 hS ?_
        refine wpAnyH_done (by kernel_rfl) ?_ _
        have HD9:=hid (And.intro hd9 (And.intro (Upd.of_drew hm9.upd) (show ∀ k,D9 k → D' k ∨ w7.heap.size ≤ k from hm9.sub)))
        clear hd9 hm9 HWr hS
        have hF9:=HF9.out
        have HU9:Hid (Upd (fun k => F k ∨ D k) w w9):=hid ((HU7.out.mono fun _ _ h => .inr h).trans HD9.out.2.1 fun i hi hd => (HDk.out.2 i hd).elim .inr fun h => by omega)
        have hlg9:=(HL.out.1.upd HU7.out HL.out.2.2.2.2.1).upd HD9.out.2.1 hF9
        have HL9:=hid hlg9
        have HB9:=hid (HB7.out.upd HD9.out.2.1 (hF9 q HBl.out.2.2))
        have f6:=HB9.out.free 6
        obtain ⟨_,_,_,_,_,_,e6⟩:=Lg.cells HB9.out
        have HE:Hid (Ap w (w9.setCell ⟨q,6,none⟩ (.bool true)) F D q p { m with over:=true } d'):=hid ⟨⟨F,D9,HL9.out.over true,HD9.out.1.upd ((Upd.refl _ _).set1 6 (.bool true)) (fun k hk e => (HD9.out.2.2 k hk).elim (fun h => hF9 q HBl.out.2.2 (e ▸ h)) fun h => by
         have:=HL.out.1.lt q HBl.out.2.2
         have:=HD9.out.2.1.size
         omega),fun k h => .inl h,fun k hk => (HD9.out.2.2 k hk).elim (HDk.out.2 k) fun h => .inr (by omega),fun k hk hd => (HD9.out.2.2 k hd).elim (hF9 k hk) fun h => by
         have:=HL.out.1.lt k hk
         omega⟩,HU9.out.set (.inl (.inl HBl.out.2.2)) _⟩
        clear hlg9 hF9
        go_wp2
        go_ret
        rw [HR9.out]
        exact ⟨rfl,HE.out⟩
      · have hdd:d.down = false:=by
         rcases h:d.down with _ | _
         · rfl
         · exact absurd (.inl h) hst
        have hff:¬ (0 ≤ d.fuse ∧ d.fuse ≤ j):=fun h => hst (.inr h)
        have hmy:=may_more hlt hdd hff
        have hbn:m.fr + m.used + j < d.nb:=by
         have:=HL.out.2.2.2.2.2.2.2.2
         omega
        rw [wrs_more hdd hff hbn HBl7.out] at hWr
        have HWr:=hid hWr
        have HMy:=hid hmy
        have hA2b:∀ ad',A2 = some ad' → ∃ ad,A = some ad ∧ ad'.block = ad.block:=fun ad' e => by
         rw [HA2.out] at e
         obtain ⟨ad,e1,e2⟩:=cut_block e
         obtain ⟨ad2,e3,e4⟩:=HW.out.1.blk ad e1
         exact ⟨ad2,e3,e2.trans e4⟩
        have HA2b:=hid hA2b
        clear hWr hdd hff hmy hbn hst hA2b
        go_wp2_with (fail)
        refine wp_region_held_drew (S:=fun W => Upd D' w7 W) (by kernel_rfl) (Upd.drew (Upd.refl _ _)) (fun hS => ?_)
        refine zt 0 hS ?_
        refine zt 1 hS ?_
        refine zt 2 hS ?_
        refine zh 3 hS (fun w hw => (HCl.out w hw).1) ?_
        refine zt 4 hS ?_
        refine zt 5 hS ?_
        refine zt 6 hS ?_
        refine zh 7 hS (fun w hw => (HCl.out w hw).2) ?_
        refine zt 8 hS ?_
        refine zh 9 hS (fun w hw => HWf.out) ?_
        refine zt 10 hS ?_
        refine zk 11 (fun K hK => ?_)
        go_simp
        refine Calls.mono (HWr.out _ (Upd.drew (Upd.refl No w7))) ?_
        rintro e w9 ⟨rfl,D9,hd9,hm9⟩
        go_wp2_with (fail)
        refine hK.out _ _ ((Upd.of_drew hm9.upd)) (fun hS => ?_)
        clear hK K
        try simp only [Act.put,zA,zB,zC]
        refine zt 12 hS ?_
        refine wpAnyH_done (by kernel_rfl) ?_ _
        have HD9:=hid (And.intro hd9 (And.intro (Upd.of_drew hm9.upd) (show ∀ k,D9 k → D' k ∨ w7.heap.size ≤ k from hm9.sub)))
        clear hd9 hm9 HWr hS
        have HN9:Hid (As w w9 F D q p m d A A2 (c' - (r.length)) u (r.drop (r.length)) (j + 1) ∧ j + 1 ≤ Dm.may d N):=hid ⟨{
         dk:=⟨D9,HD9.out.1,fun k hk => (HD9.out.2.2 k hk).elim (HDk.out.2 k) fun h => .inr (by omega)⟩
         upd:=HU7.out.trans HD9.out.2.1 fun i hi hd => (HDk.out.2 i hd).elim id fun h => by omega
         rd:=by
          have h1:Rn w7 .u8 A2 (r.drop (r.length)):=by
           rw [HA2.out]
           exact Rn.drop (Rd.upd HW.out.1.rd (by omega) HS7.out fun _ _ => no_ _) (by omega) hc1
          refine Rd.upd h1 (by omega) HD9.out.2.1 fun ad' e hd => ?_
          obtain ⟨ad,e1,e2⟩:=HA2b.out ad' e
          obtain ⟨ad3,e3,e4⟩:=Rd.lt HL.out.2.2.2.2.2.1 (by omega) (by omega)
          rw [e1] at e3
          injection e3 with e3
          subst e3
          rw [e2] at hd
          rcases HDk.out.2 _ hd with h | h
          · exact (HL.out.2.2.2.2.2.2.1 ad e1).1 h
          · omega
         eq:=by
          rw [HW.out.1.eq,List.drop_drop]
          rw [List.drop_eq_nil_of_le (by simp only [List.length_drop]; omega),List.drop_eq_nil_of_le (by have:=HRl.out; omega)]
         blk:=HA2b.out
         cap:=by
          rw [List.length_drop]
          omega },HMy.out⟩
        have HLd:=hid (show (r.drop (r.length)).length = r.length - (r.length) from List.length_drop ..)
        go_wp2
        go_roundw
        case rel => exact ⟨j + 1,A2,c' - (r.length),r.drop (r.length),by omega,by rw [HAe.out]; exact congrArg (Value.int .i64) (by omega),by rw [HLd.out,HA2.out,Nat.sub_self],HN9⟩
        case measure =>
         have:=HAe.out
         simp [intOf]; omega
    · have h233':(233:Int) < (r.length:Int):=by omega
      have hne:((233:Int) == (r.length:Int)) = false:=by
       rw [beq_eq_false_iff_ne]
       omega
      have hpc:pc u j = r.take 233:=by
       show (u.drop (233 * j)).take 233 = _
       rw [← HW.out.1.eq]
      have hls:lst u j = false:=by
       unfold lst
       rw [← HRl.out]
       exact decide_eq_false (by omega)
      have hcut:=cut_to (P:=Tryz.prog) 22 5 .i64 Tryz.underlying22 (by kernel_rfl) A' r.length c' (233) (233) (by omega) (by omega)
      obtain ⟨A2,hA2,hcut2⟩:=cut_from (P:=Tryz.prog) 22 5 .i64 Tryz.underlying22 (by kernel_rfl) A' r.length c' (233) (233) (by omega) (by omega)
      have HA2:=hid hA2
      have hxl:(pc u j).length = 233:=by
       rw [hpc]
       rw [List.length_take]
       omega
      have HX:=hid (And.intro hpc (And.intro hls hxl))
      have hrx:∀ W,Upd No wr W → Rd W 1 A' (233) (nums .u8 (pc u j)):=fun W hu => by
       have h1:Rn W .u8 A' (r.take (233)):=Rn.take (Rd.upd HW.out.1.rd (by omega) hu fun _ _ => no_ _) (by omega)
       have h2:r.take (233) = pc u j:=by
        rw [hpc]
       rw [h2] at h1
       unfold Rn at h1
       rwa [hxl] at h1
      have HRx:=hid hrx
      have HBw:=hid (HBl.out.1.upd HW.out.1.upd (HL.out.2.2.2.2.1 q HBl.out.2.2))
      have hHd:=fun W (hu:Upd No wr W) => header q _ _ _ vu _ _ m.ep false W (HBw.out.upd hu (no_ _)) HL.out.2.2.1.ep
      have HHd:=hid hHd
      have hw32:IntKind.u32.wrap (a:Int) = (a:Int):=by
       rw [IntKind.wrap_u32]
       omega
      have hpl:=pay_len m.ep u j
      rw [hls] at hpl
      have hpb:Byte (hdr m.ep false ++ pc u j):=fun z hz => by
       rcases List.mem_append.1 hz with hz | hz
       · exact hdr_bytes _ _ z hz
       · exact HL.out.2.2.2.2.2.2.2.1 z (List.mem_of_mem_drop (List.mem_of_mem_take hz))
      have hdl:(hdr m.ep false ++ pc u j).length = 9 + (233):=by rw [List.length_append,hdr_length,hxl]
      have hSe:∀ W A1 c1,W.ownsRow wr.heap.size 5 1 (.slice A1 (9 + (233)) c1) (9 + (233)) (nums .u8 (hdr m.ep false) ++ nums .u8 (pc u j)) → Calls Tryz.prog 176 #[.int .u8 76,.int .u32 a,.slice A1 (9 + (233)) c1] W fun e w' => ∃ g,e = .returned (.tuple #[.slice (some ⟨g,0,none⟩) 256 256,.int .i64 0]) ∧ Nb w' 5 g (sealed 76 a (hdr m.ep false ++ pc u j)) ∧ W.heap.size ≤ g ∧ Upd No W w':=fun W A1 c1 ho => by
       have h1:Rn W .u8 A1 (hdr m.ep false ++ pc u j):=by
        have:=Rd.of_own ho
        unfold Rn
        rw [nums_append,hdl]
        exact this
       have h2:=Sw.seal_ A1 c1 _ 76 a W h1 hpl hpb (by omega) (by omega)
       rwa [hdl] at h2
      have HSe:=hid hSe
      have hsz:Hid (sealed 76 a (hdr m.ep false ++ pc u j) = blk m.ep m.used u j):=hid (by
       unfold blk
       rw [hls,HAe.out])
      clear hpc hls hxl hrx hHd hpl hpb hdl hSe
      go_wp2_with (fail)
      refine wp_region_held_drew (S:=fun W => Upd No wr W) (by kernel_rfl) (Upd.drew (Upd.refl _ _)) (fun hS => ?_)
      refine zt 0 hS ?_
      refine zt 1 hS ?_
      refine zt 2 hS ?_
      refine zt 3 hS ?_
      refine zt 4 hS ?_
      refine zt 5 hS ?_
      refine zt 6 hS ?_
      refine zt 8 hS ?_
      refine zt 9 hS ?_
      refine zh 10 hS (fun w hw => hcut w) ?_
      refine zk 7 (fun K hK => ?_)
      go_simp
      refine Calls.mono (HHd.out _ hS) ?_
      rintro e w5 ⟨g5,rfl,hn5,hg5,hu5⟩
      go_wp2_with (fail)
      refine hK.out _ _ ((Upd.next hS hu5)) (fun hS => ?_)
      clear hK K
      try simp only [Act.put,zA,zB,zC]
      refine zk 11 (fun K hK => ?_)
      refine wp_ap_row wr.heap.size (.tmp 56) (.tmp 59) 22 5 (.int .u8 0) 1 1 (by rfl) Tryz.underlying22 Sw.u8_info rfl (by omega) (.slice (some ⟨g5,0,none⟩) 9 9) 9 (nums .u8 (hdr m.ep false)) A' (233) c' (nums .u8 (pc u j)) (by rfl) (by rfl) (by have:=hn5.own (base:=wr.heap.size) hg5 (by rw [hdr_length]; omega); rwa [hdr_length] at this) (HRx.out _ hS) (nums_one _ _) (by omega) (by omega) (by have:=hS.size; omega) ?_
      intro A6 c6 w6 ho6 hg6 hat6
      have hS6:Upd No wr w6:=Upd.grown hS hg6 (fun k hk => .inr (by have h1:g5 = k:=(by simpa [Value.ownBlock] using hk); simp at hg5; omega))
      refine hK.out _ _ ((by exact hS6)) (fun hS => ?_)
      clear hK K
      try simp only [Act.put,zA,zB,zC]
      refine zk 12 (fun K hK => ?_)
      go_simp
      refine Calls.mono (HSe.out _ _ _ ho6) ?_
      rintro e w7 ⟨g7,rfl,hn7,hg7,hu7⟩
      go_wp2_with (fail)
      refine hK.out _ _ ((Upd.next hS6 hu7)) (fun hS => ?_)
      clear hK K
      try simp only [Act.put,zA,zB,zC]
      refine zt 13 hS ?_
      refine zt 14 hS ?_
      refine zt 15 hS ?_
      refine zt 16 hS ?_
      refine zt 17 hS ?_
      refine wpAnyH_done (by kernel_rfl) ?_ _
      rw [hsz.out] at hn7
      have HN7:=hid hn7
      have HS7:=hid hS
      have HG7:Hid (wr.heap.size ≤ g7):=hid (Nat.le_trans hS6.size hg7)
      clear hn5 hg5 hu5 ho6 hg6 hat6 hS6 hn7 hg7 hu7 hS HHd HSe hsz
      have HU7:=hid ((HW.out.1.upd.next (HS7.out.mono fun _ _ h => h.elim):Upd D w w7))
      obtain ⟨D',hdk,hds⟩:=HW.out.1.dk
      have HDk:=hid (And.intro (hdk.upd HS7.out fun _ _ => no_ _) hds)
      have HB7:=hid (HBw.out.upd HS7.out (no_ _))
      have hbl7:=blk_length m.ep m.used u j
      have hok7:(wrs d (m.fr + m.used) (blk m.ep m.used u) j).ok:=by
       have h1:=HL.out.2.2.2.1
       unfold Dm.ok wrs at *
       refine ⟨?_,?_,h1.2.2⟩
       · simp only
         have:=HW.out.2
         unfold Dm.may at this
         split
         · rename_i h0
           by_cases hdd:d.down = true
           · rw [if_pos hdd] at this
             omega
           · rw [if_neg hdd] at this
             split at this <;> omega
         · exact h1.1
       · simp only
         split <;> omega
      have hWr:=fun W (hu:Upd No w7 W) => write p (wrs d (m.fr + m.used) (blk m.ep m.used u) j) D' (some ⟨g7,0,none⟩) 256 (blk m.ep m.used u j) ((m.fr + m.used + j:Nat):Int) W (HDk.out.1.upd hu fun _ _ => no_ _) (Rd.upd HN7.out.rn (by omega) hu fun _ _ => no_ _) (fun ad e hk => by
       injection e with e
       subst e
       have h1:=hdk.lt _ hk
       have h2:=HG7.out
       simp only at h1
       omega) hok7 (by
        simp only [wrs,List.length_append,List.length_map,List.length_range]
        omega)
      rw [hbl7] at hWr
      have hfa:(m.fr:Int) + (a:Int) = ((m.fr + m.used + j:Nat):Int):=by rw [HAe.out]; omega
      have HWf:Hid (IntKind.i64.wrap ((m.fr:Int) + (a:Int)) = ((m.fr + m.used + j:Nat):Int)):=hid (by
       rw [hfa]
       exact IntWalk.i64_in _ (by omega))
      have hsz9:=HU7.out.size
      have hF9:∀ k,F k → ¬ D' k:=fun k hk hd => (HDk.out.2 k hd).elim (HL.out.2.2.2.2.1 k hk) fun h => by
       have:=HL.out.1.lt k hk
       omega
      have HF9:=hid hF9
      have HCl:Hid (∀ W,Upd D' w7 W → W.cell? ⟨q,0,none⟩ = some (.pointer (some ⟨p,0,none⟩)) ∧ W.cell? ⟨q,1,none⟩ = some (.int .i64 m.fr)):=hid fun W hu => by
       obtain ⟨c0,c1,_⟩:=Lg.cells (HB7.out.upd hu (HF9.out q HBl.out.2.2))
       exact ⟨c0,c1⟩
      have HBl7:=hid hbl7
      clear hdk hds hbl7 hok7 hfa hF9
      by_cases hst:d.down = true ∨ (0 ≤ d.fuse ∧ d.fuse ≤ j)
      · obtain ⟨hmy,hs1,hs2⟩:=may_stop hlt HW.out.2 hst
        have hwr:∃ d',(wrs d (m.fr + m.used) (blk m.ep m.used u) j).wr ((m.fr + m.used + j:Nat):Int) (blk m.ep m.used u j) = (9,d') ∧ d' = { wrs d (m.fr + m.used) (blk m.ep m.used u) j with down:=true }:=by
         have hbn:m.fr + m.used + j < d.nb:=by
          have:=HL.out.2.2.2.2.2.2.2.2
          omega
         rcases hdd:d.down with _ | _
         · exact ⟨_,wrs_stop hdd (hs2 hdd) hbn HBl7.out,rfl⟩
         · refine ⟨_,wrs_down hdd,?_⟩
           simp only [wrs,hdd]
        obtain ⟨d',hwe,hde⟩:=hwr
        rw [hwe] at hWr
        have HWr:=hid hWr
        have HR9:Hid (m.ap d u = (9,d',{ m with over:=true })):=hid (by
         rw [HR.out,hmy,if_neg (by omega),hde])
        clear hWr hwe hde hmy hs1 hs2 hst HR
        go_wp2_with (fail)
        refine wp_region_held_drew (S:=fun W => Upd D' w7 W) (by kernel_rfl) (Upd.drew (Upd.refl _ _)) (fun hS => ?_)
        refine zt 0 hS ?_
        refine zt 1 hS ?_
        refine zt 2 hS ?_
        refine zh 3 hS (fun w hw => (HCl.out w hw).1) ?_
        refine zt 4 hS ?_
        refine zt 5 hS ?_
        refine zt 6 hS ?_
        refine zh 7 hS (fun w hw => (HCl.out w hw).2) ?_
        refine zt 8 hS ?_
        refine zh 9 hS (fun w hw => HWf.out) ?_
        refine zt 10 hS ?_
        refine zk 11 (fun K hK => ?_)
        go_simp
        refine Calls.mono (HWr.out _ (Upd.drew (Upd.refl No w7))) ?_
        rintro e w9 ⟨rfl,D9,hd9,hm9⟩
        go_wp2_with (fail)
        refine hK.out _ _ ((Upd.of_drew hm9.upd)) (fun hS => ?_)
        clear hK K
        try simp only [Act.put,zA,zB,zC]
        refine zt 12 hS ?_
        refine wpAnyH_done (by kernel_rfl) ?_ _
        have HD9:=hid (And.intro hd9 (And.intro (Upd.of_drew hm9.upd) (show ∀ k,D9 k → D' k ∨ w7.heap.size ≤ k from hm9.sub)))
        clear hd9 hm9 HWr hS
        have hF9:=HF9.out
        have HU9:Hid (Upd (fun k => F k ∨ D k) w w9):=hid ((HU7.out.mono fun _ _ h => .inr h).trans HD9.out.2.1 fun i hi hd => (HDk.out.2 i hd).elim .inr fun h => by omega)
        have hlg9:=(HL.out.1.upd HU7.out HL.out.2.2.2.2.1).upd HD9.out.2.1 hF9
        have HL9:=hid hlg9
        have HB9:=hid (HB7.out.upd HD9.out.2.1 (hF9 q HBl.out.2.2))
        have f6:=HB9.out.free 6
        obtain ⟨_,_,_,_,_,_,e6⟩:=Lg.cells HB9.out
        have HE:Hid (Ap w (w9.setCell ⟨q,6,none⟩ (.bool true)) F D q p { m with over:=true } d'):=hid ⟨⟨F,D9,HL9.out.over true,HD9.out.1.upd ((Upd.refl _ _).set1 6 (.bool true)) (fun k hk e => (HD9.out.2.2 k hk).elim (fun h => hF9 q HBl.out.2.2 (e ▸ h)) fun h => by
         have:=HL.out.1.lt q HBl.out.2.2
         have:=HD9.out.2.1.size
         omega),fun k h => .inl h,fun k hk => (HD9.out.2.2 k hk).elim (HDk.out.2 k) fun h => .inr (by omega),fun k hk hd => (HD9.out.2.2 k hd).elim (hF9 k hk) fun h => by
         have:=HL.out.1.lt k hk
         omega⟩,HU9.out.set (.inl (.inl HBl.out.2.2)) _⟩
        clear hlg9 hF9
        go_wp2
        go_ret
        rw [HR9.out]
        exact ⟨rfl,HE.out⟩
      · have hdd:d.down = false:=by
         rcases h:d.down with _ | _
         · rfl
         · exact absurd (.inl h) hst
        have hff:¬ (0 ≤ d.fuse ∧ d.fuse ≤ j):=fun h => hst (.inr h)
        have hmy:=may_more hlt hdd hff
        have hbn:m.fr + m.used + j < d.nb:=by
         have:=HL.out.2.2.2.2.2.2.2.2
         omega
        rw [wrs_more hdd hff hbn HBl7.out] at hWr
        have HWr:=hid hWr
        have HMy:=hid hmy
        have hA2b:∀ ad',A2 = some ad' → ∃ ad,A = some ad ∧ ad'.block = ad.block:=fun ad' e => by
         rw [HA2.out] at e
         obtain ⟨ad,e1,e2⟩:=cut_block e
         obtain ⟨ad2,e3,e4⟩:=HW.out.1.blk ad e1
         exact ⟨ad2,e3,e2.trans e4⟩
        have HA2b:=hid hA2b
        clear hWr hdd hff hmy hbn hst hA2b
        go_wp2_with (fail)
        refine wp_region_held_drew (S:=fun W => Upd D' w7 W) (by kernel_rfl) (Upd.drew (Upd.refl _ _)) (fun hS => ?_)
        refine zt 0 hS ?_
        refine zt 1 hS ?_
        refine zt 2 hS ?_
        refine zh 3 hS (fun w hw => (HCl.out w hw).1) ?_
        refine zt 4 hS ?_
        refine zt 5 hS ?_
        refine zt 6 hS ?_
        refine zh 7 hS (fun w hw => (HCl.out w hw).2) ?_
        refine zt 8 hS ?_
        refine zh 9 hS (fun w hw => HWf.out) ?_
        refine zt 10 hS ?_
        refine zk 11 (fun K hK => ?_)
        go_simp
        refine Calls.mono (HWr.out _ (Upd.drew (Upd.refl No w7))) ?_
        rintro e w9 ⟨rfl,D9,hd9,hm9⟩
        go_wp2_with (fail)
        refine hK.out _ _ ((Upd.of_drew hm9.upd)) (fun hS => ?_)
        clear hK K
        try simp only [Act.put,zA,zB,zC]
        refine zt 12 hS ?_
        refine wpAnyH_done (by kernel_rfl) ?_ _
        have HD9:=hid (And.intro hd9 (And.intro (Upd.of_drew hm9.upd) (show ∀ k,D9 k → D' k ∨ w7.heap.size ≤ k from hm9.sub)))
        clear hd9 hm9 HWr hS
        have HN9:Hid (As w w9 F D q p m d A A2 (c' - (233)) u (r.drop (233)) (j + 1) ∧ j + 1 ≤ Dm.may d N):=hid ⟨{
         dk:=⟨D9,HD9.out.1,fun k hk => (HD9.out.2.2 k hk).elim (HDk.out.2 k) fun h => .inr (by omega)⟩
         upd:=HU7.out.trans HD9.out.2.1 fun i hi hd => (HDk.out.2 i hd).elim id fun h => by omega
         rd:=by
          have h1:Rn w7 .u8 A2 (r.drop (233)):=by
           rw [HA2.out]
           exact Rn.drop (Rd.upd HW.out.1.rd (by omega) HS7.out fun _ _ => no_ _) (by omega) hc1
          refine Rd.upd h1 (by omega) HD9.out.2.1 fun ad' e hd => ?_
          obtain ⟨ad,e1,e2⟩:=HA2b.out ad' e
          obtain ⟨ad3,e3,e4⟩:=Rd.lt HL.out.2.2.2.2.2.1 (by omega) (by omega)
          rw [e1] at e3
          injection e3 with e3
          subst e3
          rw [e2] at hd
          rcases HDk.out.2 _ hd with h | h
          · exact (HL.out.2.2.2.2.2.2.1 ad e1).1 h
          · omega
         eq:=by
          rw [HW.out.1.eq,List.drop_drop]
          rw [show 233 * (j + 1) = 233 * j + 233 from by omega]
         blk:=HA2b.out
         cap:=by
          rw [List.length_drop]
          omega },HMy.out⟩
        have HLd:=hid (show (r.drop (233)).length = r.length - (233) from List.length_drop ..)
        go_wp2
        go_roundw
        case rel => exact ⟨j + 1,A2,c' - (233),r.drop (233),by omega,by rw [HAe.out]; exact congrArg (Value.int .i64) (by omega),by rw [HLd.out,HA2.out,if_neg (by omega)]; first | rfl | simp [Addr.add],HN9⟩
        case measure =>
         have:=HAe.out
         simp [intOf]; omega
  · obtain rfl:j = N:=by omega
    obtain ⟨a,ha⟩:∃ a,a = m.used + j:=⟨_,rfl⟩
    rw [← ha]
    have HAe:=hid ha
    have hmy:Dm.may d j = j:=by
     have h1:=Dm.may_le d j
     have h2:=HW.out.2
     omega
    have hrl:r.length = 0:=by
     rw [HW.out.1.eq,List.length_drop,HNn.out]
     unfold nbl
     omega
    have hr0:(r.length:Int) = 0:=by omega
    rw [hmy,if_pos rfl,← ha] at HR
    obtain ⟨D',hdk,hds⟩:=HW.out.1.dk
    have hFD:∀ k,F k → ¬ D' k:=fun k hk hd => (hds k hd).elim (HL.out.2.2.2.2.1 k hk) fun h => by
     have:=HL.out.1.lt k hk
     omega
    have hbw:=HBl.out.1.upd HW.out.1.upd (HL.out.2.2.2.2.1 q HBl.out.2.2)
    obtain ⟨vs,hvs,hrow,hxs,hv⟩:=HBl.out.2.1
    have hvl:vs.length = m.us.length:=by rw [← hvs]; simp
    have hml:=HL.out.2.2.1.many
    obtain ⟨Av,cv,hvu,_,_⟩:=own_shape hrow
    subst hvu
    have hDF:∀ k,F k → ¬ D k:=HL.out.2.2.2.2.1
    have hu5:Upd (fun i => i = q) wr (wr.setCell ⟨q,5,none⟩ (.int .i64 a)):=(Upd.refl _ _).set1 _ _
    have hb5:=hbw.put 5 (.int .i64 a)
    have f5:=hbw.free 5
    obtain ⟨_,_,_,_,_,c5,_⟩:=Lg.cells hbw
    have HW5:Hid (∃ w5,w5 = wr.setCell ⟨q,5,none⟩ (.int .i64 a) ∧ Blk w5 q 312 #[.pointer (some ⟨p,0,none⟩),.int .i64 m.fr,.int .i64 m.count,.int .u64 m.ep,.slice Av vs.length cv,.int .i64 a,.bool m.over] ∧
     w5.ownsRow 0 22 1 (.slice Av vs.length cv) vs.length (vs.map (·.2)) ∧ (∀ x ∈ vs,Uok w5 F x) ∧ Dk w5 D' p (wrs d (m.fr + m.used) (Gp.blk m.ep m.used u) j) ∧ Upd (fun k => F k ∨ D k) w w5 ∧ Rn w5 .u8 A u):=hid ⟨_,rfl,by simpa using hb5,
     own_upd (own_upd hrow HW.out.1.upd fun g hg => hDF g (hv g hg)) hu5 fun g hg e => own_blk_ne hrow HBl.out.1 (by decide) (e ▸ hg),
     fun x hx => ⟨own_upd ((hxs x hx).upd HW.out.1.upd hDF).1 hu5 fun g hg e => own_blk_ne (hxs x hx).1 HBl.out.1 (by decide) (e ▸ hg),(hxs x hx).2⟩,
     hdk.upd hu5 fun k hk e => hFD q HBl.out.2.2 (e ▸ hk),(HW.out.1.upd.mono fun _ _ h => .inr h).set (.inl (.inl HBl.out.2.2)) _,
     Rd.upd (Rd.upd HL.out.2.2.2.2.2.1 (by omega) HW.out.1.upd fun ad e => (HL.out.2.2.2.2.2.2.1 ad e).1) (by omega) hu5 fun ad e h => (HL.out.2.2.2.2.2.2.1 ad e).2 (h ▸ HBl.out.2.2)⟩
    have HDs:=hid (And.intro hds (And.intro hFD (And.intro hvs hv)))
    have hvl2:vs.length + 1 ≤ 9223372036854775807:=by omega
    have hvl3:(vs.length + 1) * 24 ≤ 140737488355328:=by omega
    clear hmy hrl hdk hds hFD hbw hvs hrow hxs hv hvl hDF hu5 hb5 ha
    go_wp2_with (fail)
    obtain ⟨w5,hw5,hb5,ho5,hx5,hd5,hu5,hr5⟩:=HW5.out
    rw [← hw5]
    have H5:=hid (And.intro hb5 (And.intro ho5 (And.intro hx5 (And.intro hd5 hu5))))
    have HCl:=hid (fun W (hu:Upd No w5 W) => clone A u.length c (nums .u8 u) W (Rd.upd hr5 (by omega) hu fun _ _ => no_ _) (nums_one _ _) (by omega))
    obtain ⟨_,_,_,_,q4,_,_⟩:=Lg.cells hb5
    clear hw5 hb5 ho5 hx5 hd5 hu5 hr5 HW5 f5 c5
    refine wp_region_held_drew (S:=fun _ => True) (by kernel_rfl) trivial (fun hS => ?_)
    refine zt 0 hS ?_
    refine zt 1 hS ?_
    refine zt 2 hS ?_
    refine zt 3 hS ?_
    refine zt 5 hS ?_
    refine rg_two 4 6 (by kernel_rfl) ?_ ?_
    · refine zs 4 (fun K hK => ?_)
      go_simp
      refine hK.out _ _ (trivial) (fun hS => ?_)
      clear hK K
      try simp only [Act.put,zA,zB,zC]
      refine zk 6 (fun K hK => ?_)
      go_simp
      refine Calls.mono (HCl.out _ (Upd.drew (Upd.refl No w5))) ?_
      rintro e w6 ⟨A6,c6,rfl,ho6,hu6,_⟩
      have hu6':=Upd.of_drew hu6
      have k6:=H5.out.1.upd hu6' (no_ _)
      obtain ⟨_,_,_,_,k64,_,_⟩:=Lg.cells k6
      have e6:∀ o,(w6.alloc o).cell? ⟨q,4,none⟩ = some (.slice Av vs.length cv):=fun o => (Lg.cells (k6.alloc o)).2.2.2.2.1
      have s6:=own_upd H5.out.2.1 hu6' (fun _ _ => no_ _)
      go_wp2_with (fail)
      refine hK.out _ _ (trivial) (fun hS => ?_)
      clear hK K
      try simp only [Act.put,zA,zB,zC]
      refine zk 7 (fun K hK => ?_)
      go_simp
      refine hK.out _ _ (trivial) (fun hS => ?_)
      clear hK K
      try simp only [Act.put,zA,zB,zC]
      refine zk 8 (fun K hK => ?_)
      refine wp_ap_row 0 (.tmp 91) (.tmp 94) 119 22 (.slice none 0 0) 1 24 (by rfl) Tryz.underlying119 sl_info rfl (by omega) (.slice Av vs.length cv) vs.length (vs.map (·.2)) (some ⟨w6.heap.size,0,none⟩) 1 1 [.slice A6 u.length c6] (by rfl) (by rfl) (s6.alloc _) (Rd_lit w6 _ 1 1 _ rfl) (by intro z hz; obtain rfl:=List.mem_singleton.1 hz; rfl) hvl2 hvl3 (Nat.zero_le _) ?_
      intro A8 c8 w8 ho8 hg8 hat8
      have p8:=(k6.alloc _).grown hg8 (own_blk_ne s6 k6 (by decide)).symm
      have f84:=p8.free 4
      obtain ⟨_,_,_,_,k84,_,_⟩:=Lg.cells p8
      refine hK.out _ _ (trivial) (fun hS => ?_)
      clear hK K
      try simp only [Act.put,zA,zB,zC]
      refine zt 9 hS ?_
      refine zt 10 hS ?_
      refine zk 11 (fun K hK => ?_)
      go_simp
      refine hK.out _ _ (trivial) (fun hS => ?_)
      clear hK K
      try simp only [Act.put,zA,zB,zC]
      refine wpAnyH_done (by kernel_rfl) ?_ _
      have hal:Upd No w5 (w6.alloc (.cells #[.slice A6 u.length c6] 22)):=hu6'.alloc _
      obtain ⟨F',g1,g2,g3⟩:=Lg.pushed (m:={ m with used:=a }) H5.out.1 HBl.out.2.2 (fun k hk => Nat.lt_of_lt_of_le (HL.out.1.lt k hk) H5.out.2.2.2.2.size) hal HDs.out.2.2.1 (fun x hx => ((H5.out.2.2.1 x hx).upd hal fun _ _ => no_ _)) (s6.alloc _) HDs.out.2.2.2 (own_upd (own_base ho6 (Nat.zero_le _)) ((Upd.refl No w6).alloc _) fun _ _ => no_ _) (fun k hk => (ho6.lt k hk).1) ho8 hg8 hat8
      have hsz:=H5.out.2.2.2.2.size
      have hE:Ap w (w8.setCell ⟨q,4,none⟩ (.slice A8 (vs.length + 1) c8)) F D q p { m with us:=m.us ++ [u],used:=a } (wrs d (m.fr + m.used) (Gp.blk m.ep m.used u) j):=⟨⟨F',D',g1,H5.out.2.2.2.1.upd g3 (fun k hk hf => HDs.out.2.1 k hf hk),fun k hk => (g2 k hk).imp id fun h => by omega,HDs.out.1,fun k hk hd => (g2 k hk).elim (fun h => HDs.out.2.1 k h hd) fun h => by
      have:=H5.out.2.2.2.1.lt k hd
      omega⟩,H5.out.2.2.2.2.trans g3 fun i hi h => .inl h⟩
      have HE:=hid hE
      clear ho6 hu6 hu6' k6 k64 e6 s6 ho8 hg8 hat8 p8 f84 k84 hal g1 g2 g3 hE
      go_wp2
      go_ret
      rw [HR.out]
      exact ⟨rfl,HE.out⟩
    · refine zs 6 (fun K hK => ?_)
      go_simp
      refine Calls.mono (HCl.out _ (Upd.drew (Upd.refl No w5))) ?_
      rintro e w6 ⟨A6,c6,rfl,ho6,hu6,_⟩
      have hu6':=Upd.of_drew hu6
      have k6:=H5.out.1.upd hu6' (no_ _)
      obtain ⟨_,_,_,_,k64,_,_⟩:=Lg.cells k6
      have e6:∀ o,(w6.alloc o).cell? ⟨q,4,none⟩ = some (.slice Av vs.length cv):=fun o => (Lg.cells (k6.alloc o)).2.2.2.2.1
      have s6:=own_upd H5.out.2.1 hu6' (fun _ _ => no_ _)
      go_wp2_with (fail)
      refine hK.out _ _ (trivial) (fun hS => ?_)
      clear hK K
      try simp only [Act.put,zA,zB,zC]
      refine rg_two 4 7 (by kernel_rfl) ?_ ?_
      · refine zs 4 (fun K hK => ?_)
        go_simp
        refine hK.out _ _ (trivial) (fun hS => ?_)
        clear hK K
        try simp only [Act.put,zA,zB,zC]
        refine zk 7 (fun K hK => ?_)
        go_simp
        refine hK.out _ _ (trivial) (fun hS => ?_)
        clear hK K
        try simp only [Act.put,zA,zB,zC]
        refine zk 8 (fun K hK => ?_)
        refine wp_ap_row 0 (.tmp 91) (.tmp 94) 119 22 (.slice none 0 0) 1 24 (by rfl) Tryz.underlying119 sl_info rfl (by omega) (.slice Av vs.length cv) vs.length (vs.map (·.2)) (some ⟨w6.heap.size,0,none⟩) 1 1 [.slice A6 u.length c6] (by rfl) (by rfl) (s6.alloc _) (Rd_lit w6 _ 1 1 _ rfl) (by intro z hz; obtain rfl:=List.mem_singleton.1 hz; rfl) hvl2 hvl3 (Nat.zero_le _) ?_
        intro A8 c8 w8 ho8 hg8 hat8
        have p8:=(k6.alloc _).grown hg8 (own_blk_ne s6 k6 (by decide)).symm
        have f84:=p8.free 4
        obtain ⟨_,_,_,_,k84,_,_⟩:=Lg.cells p8
        refine hK.out _ _ (trivial) (fun hS => ?_)
        clear hK K
        try simp only [Act.put,zA,zB,zC]
        refine zt 9 hS ?_
        refine zt 10 hS ?_
        refine zk 11 (fun K hK => ?_)
        go_simp
        refine hK.out _ _ (trivial) (fun hS => ?_)
        clear hK K
        try simp only [Act.put,zA,zB,zC]
        refine wpAnyH_done (by kernel_rfl) ?_ _
        have hal:Upd No w5 (w6.alloc (.cells #[.slice A6 u.length c6] 22)):=hu6'.alloc _
        obtain ⟨F',g1,g2,g3⟩:=Lg.pushed (m:={ m with used:=a }) H5.out.1 HBl.out.2.2 (fun k hk => Nat.lt_of_lt_of_le (HL.out.1.lt k hk) H5.out.2.2.2.2.size) hal HDs.out.2.2.1 (fun x hx => ((H5.out.2.2.1 x hx).upd hal fun _ _ => no_ _)) (s6.alloc _) HDs.out.2.2.2 (own_upd (own_base ho6 (Nat.zero_le _)) ((Upd.refl No w6).alloc _) fun _ _ => no_ _) (fun k hk => (ho6.lt k hk).1) ho8 hg8 hat8
        have hsz:=H5.out.2.2.2.2.size
        have hE:Ap w (w8.setCell ⟨q,4,none⟩ (.slice A8 (vs.length + 1) c8)) F D q p { m with us:=m.us ++ [u],used:=a } (wrs d (m.fr + m.used) (Gp.blk m.ep m.used u) j):=⟨⟨F',D',g1,H5.out.2.2.2.1.upd g3 (fun k hk hf => HDs.out.2.1 k hf hk),fun k hk => (g2 k hk).imp id fun h => by omega,HDs.out.1,fun k hk hd => (g2 k hk).elim (fun h => HDs.out.2.1 k h hd) fun h => by
        have:=H5.out.2.2.2.1.lt k hd
        omega⟩,H5.out.2.2.2.2.trans g3 fun i hi h => .inl h⟩
        have HE:=hid hE
        clear ho6 hu6 hu6' k6 k64 e6 s6 ho8 hg8 hat8 p8 f84 k84 hal g1 g2 g3 hE
        go_wp2
        go_ret
        rw [HR.out]
        exact ⟨rfl,HE.out⟩
      · refine zs 7 (fun K hK => ?_)
        go_simp
        refine hK.out _ _ (trivial) (fun hS => ?_)
        clear hK K
        try simp only [Act.put,zA,zB,zC]
        refine zk 4 (fun K hK => ?_)
        go_simp
        refine hK.out _ _ (trivial) (fun hS => ?_)
        clear hK K
        try simp only [Act.put,zA,zB,zC]
        refine zk 8 (fun K hK => ?_)
        refine wp_ap_row 0 (.tmp 91) (.tmp 94) 119 22 (.slice none 0 0) 1 24 (by rfl) Tryz.underlying119 sl_info rfl (by omega) (.slice Av vs.length cv) vs.length (vs.map (·.2)) (some ⟨w6.heap.size,0,none⟩) 1 1 [.slice A6 u.length c6] (by rfl) (by rfl) (s6.alloc _) (Rd_lit w6 _ 1 1 _ rfl) (by intro z hz; obtain rfl:=List.mem_singleton.1 hz; rfl) hvl2 hvl3 (Nat.zero_le _) ?_
        intro A8 c8 w8 ho8 hg8 hat8
        have p8:=(k6.alloc _).grown hg8 (own_blk_ne s6 k6 (by decide)).symm
        have f84:=p8.free 4
        obtain ⟨_,_,_,_,k84,_,_⟩:=Lg.cells p8
        refine hK.out _ _ (trivial) (fun hS => ?_)
        clear hK K
        try simp only [Act.put,zA,zB,zC]
        refine zt 9 hS ?_
        refine zt 10 hS ?_
        refine zk 11 (fun K hK => ?_)
        go_simp
        refine hK.out _ _ (trivial) (fun hS => ?_)
        clear hK K
        try simp only [Act.put,zA,zB,zC]
        refine wpAnyH_done (by kernel_rfl) ?_ _
        have hal:Upd No w5 (w6.alloc (.cells #[.slice A6 u.length c6] 22)):=hu6'.alloc _
        obtain ⟨F',g1,g2,g3⟩:=Lg.pushed (m:={ m with used:=a }) H5.out.1 HBl.out.2.2 (fun k hk => Nat.lt_of_lt_of_le (HL.out.1.lt k hk) H5.out.2.2.2.2.size) hal HDs.out.2.2.1 (fun x hx => ((H5.out.2.2.1 x hx).upd hal fun _ _ => no_ _)) (s6.alloc _) HDs.out.2.2.2 (own_upd (own_base ho6 (Nat.zero_le _)) ((Upd.refl No w6).alloc _) fun _ _ => no_ _) (fun k hk => (ho6.lt k hk).1) ho8 hg8 hat8
        have hsz:=H5.out.2.2.2.2.size
        have hE:Ap w (w8.setCell ⟨q,4,none⟩ (.slice A8 (vs.length + 1) c8)) F D q p { m with us:=m.us ++ [u],used:=a } (wrs d (m.fr + m.used) (Gp.blk m.ep m.used u) j):=⟨⟨F',D',g1,H5.out.2.2.2.1.upd g3 (fun k hk hf => HDs.out.2.1 k hf hk),fun k hk => (g2 k hk).imp id fun h => by omega,HDs.out.1,fun k hk hd => (g2 k hk).elim (fun h => HDs.out.2.1 k h hd) fun h => by
        have:=H5.out.2.2.2.1.lt k hd
        omega⟩,H5.out.2.2.2.2.trans g3 fun i hi h => .inl h⟩
        have HE:=hid hE
        clear ho6 hu6 hu6' k6 k64 e6 s6 ho8 hg8 hat8 p8 f84 k84 hal g1 g2 g3 hE
        go_wp2
        go_ret
        rw [HR.out]
        exact ⟨rfl,HE.out⟩
end Go.Proofs.YtclfmpieapbfnaaGreatDoor.Gl
end
