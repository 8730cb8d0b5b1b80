/-
  Part 48 of the proof of the statement that the last part ends in: lemmas, no conditions of their own.
-/
import Derived.Test.YtclfmpieapbfnaaGreatDoorZ47
import Derived.Test.YtclfmpieapbfnaaGreatDoorZ32
import Derived.Test.YtclfmpieapbfnaaGreatDoorZ30
import Derived.Test.YtclfmpieapbfnaaGreatDoorZ34
set_option linter.unusedVariables false
set_option linter.unusedSimpArgs false
section
namespace Go.Proofs.YtclfmpieapbfnaaGreatDoor.Eg
open Go.RowKit B Cm Cr Ou Lt Lc
open Ac (Am fresh fresh_ok encA encA_le encA_byte freshB Fit)
open Nd (Rm Inv rv setR serveR Wq rc)
structure Lw (w W:World) (F G:Nat → Prop) (pe pq:Nat) (m:Em) (l:List Rm) (s c:Nat):Prop where
 en:En W F pe m
 wq:Wq W G pq l
 sm:Sm m s c
 fg:∀ k,F k → ¬ G k
 own:∀ k,F k ∨ G k → w.heap.size ≤ k
 upd:Upd No w W
section
variable {w W W':World} {F G F' G':Nat → Prop} {pe pq s c s' c':Nat} {m m':Em} {l l':List Rm}
theorem Lw.quiet (h:Lw w W F G pe pq m l s c) (hu:Upd No W W'):Lw w W' F G pe pq m l s c:=⟨h.en.quiet hu,h.wq.quiet hu,h.sm,h.fg,h.own,h.upd.next hu⟩
theorem Lw.eng (h:Lw w W F G pe pq m l s c) (hen:En W' F' pe m') (hm:Mv F F' W W') (hs:Sm m' s' c'):Lw w W' F' G pe pq m' l s' c':=by
 have hz:=h.upd.size
 refine ⟨hen,h.wq.upd hm.upd fun k hk hf => h.fg k hf hk,hs,fun k hk hg => ?_,fun k hk => ?_,h.upd.trans hm.upd fun i hi hf => by have:=h.own i (.inl hf); omega⟩
 · rcases hm.sub k hk with h9 | h9
   · exact h.fg k h9 hg
   · have:=h.wq.lt k hg; omega
 · rcases hk with hk | hk
   · exact (hm.sub k hk).elim (fun h9 => h.own k (.inl h9)) fun h9 => by omega
   · exact h.own k (.inr hk)
theorem Lw.ref (h:Lw w W F G pe pq m l s c) (hq:Wq W' G' pq l') (hm:Mv G G' W W'):Lw w W' F G' pe pq m l' s c:=by
 have hz:=h.upd.size
 refine ⟨h.en.upd hm.upd h.fg,hq,h.sm,fun k hk hg => ?_,fun k hk => ?_,h.upd.trans hm.upd fun i hi hf => by have:=h.own i (.inr hf); omega⟩
 · rcases hm.sub k hg with h9 | h9
   · exact h.fg k hk h9
   · have:=h.en.lt k hk; omega
 · rcases hk with hk | hk
   · exact h.own k (.inl hk)
   · exact (hm.sub k hk).elim (fun h9 => h.own k (.inr h9)) fun h9 => by omega
theorem Sm.remind {r:Rm} (h:Sm m s c) (hr:Nd.I64 r.due ∧ Nd.I64 r.per ∧ Nd.I64 r.kind) (hl:m.q.length ≤ 9) (hok:(if (setR m.q r).1 = 0 then m.queued (setR m.q r).2 else m).ok):Sm (if (setR m.q r).1 = 0 then m.queued (setR m.q r).2 else m) (s + 1) (c + 1):=by
 split at hok
 · rename_i h0
   rw [if_pos h0]
   have:=set_length m.q r
   exact h.queued (h.ok.inv.set hr) (by omega) hok
 · rename_i h0
   rw [if_neg h0]
   exact ⟨h.ok,h.tidy,by have:=h.n; omega,h.cnt,by have:=h.used; omega,h.len,h.act⟩
theorem remind_q (m:Em) (r:Rm):(if (setR m.q r).1 = 0 then m.queued (setR m.q r).2 else m).q = (setR m.q r).2 ∧ (if (setR m.q r).1 = 0 then m.queued (setR m.q r).2 else m).clock = m.clock:=by
 by_cases h0:(setR m.q r).1 = 0
 · rw [if_pos h0]
   exact ⟨rfl,rfl⟩
 · rw [if_neg h0]
   exact ⟨((setR_code m.q r).2 h0).symm,rfl⟩
end
theorem Lw.more {w W:World} {F G:Nat → Prop} {pe pq s c s' c':Nat} {m:Em} {l:List Rm} (h:Lw w W F G pe pq m l s c) (hs:s ≤ s') (hc:c ≤ c'):Lw w W F G pe pq m l s' c':=
 ⟨h.en,h.wq,⟨h.sm.ok,h.sm.tidy,by have:=h.sm.n; omega,h.sm.cnt,by have:=h.sm.used; omega,h.sm.len,h.sm.act⟩,h.fg,h.own,h.upd⟩
def LsOut (w W:World) (F G:Nat → Prop) (pe pq:Nat) (m m':Em) (l:List Rm) (s c:Nat) (v:Value) (e:Ending) (w':World):Prop:=e = .returned v ∧ ∃ F',Lw w w' F' G pe pq m' l s c ∧ Mv F F' W w'
theorem lw_serve {w W:World} {F G:Nat → Prop} {pe pq s c:Nat} {m:Em} {l:List Rm} (h:Lw w W F G pe pq m l s c) (hs:s ≤ 400) (hc:c ≤ 150) {co:Int} {r':Rm} {m':Em} (hm:m.served = (co,r',m')) :
 Calls Tryz.prog 20 #[.pointer (some ⟨pe,0,none⟩)] W fun e w' => LsOut w W F G pe pq m m' l (s + 1) (c + 1) (.tuple #[rv r',.int .i64 co]) e w':=by
 have hn:=h.sm.n
 have hu:=h.sm.used
 refine (serve_ h.en h.sm.tidy (by omega) fun r l' hsv h8 => ?_).mono ?_
 · obtain ⟨hsv2,hok,hk,hi⟩:=serve_due (m:=m) (r0:=r) (o:=some r) (l':=l') h.sm.ok.inv ⟨hsv,rfl,rfl⟩
   have hl:=serve_length m.q m.clock
   rw [hsv] at hl
   have:=room_s hi (Nat.le_trans hl h.sm.len) hk (only_reminded (h.sm.act _ hk) hok h8) (h.sm.ok.own _ hk) 0 0
   have hcnt:=h.sm.cnt
   omega
 · rintro e w' ⟨rfl,F',hen,hmv⟩
   have hsm:=h.sm.served hen.ok
   rw [hm] at hen hsm ⊢
   exact ⟨rfl,F',h.eng hen hmv hsm,hmv⟩
def LaOut' (w W:World) (F G:Nat → Prop) (pe pq:Nat) (m:Em) (l:List Rm) (s c:Nat) (k:ByteArray) (e:Ending) (w':World):Prop:=∃ q pi GA F',e = .returned (.tuple #[.pointer (some ⟨q,0,none⟩),.int .i64 0]) ∧ w'.cell? ⟨q,1,none⟩ = some (.pointer (some ⟨pi,0,none⟩)) ∧ Ib.Ib w' GA pi (m.act k).inb ∧ Lw w w' F' G pe pq (m.loaded k) l s c ∧ Mv F F' W w'
theorem lw_actor {w W:World} {F G:Nat → Prop} {pe pq s c:Nat} {m:Em} {l:List Rm} (h:Lw w W F G pe pq m l s c) (hs:s ≤ 400) {k:ByteArray} (hk:Kk k) :
 Calls Tryz.prog 12 #[.pointer (some ⟨pe,0,none⟩),.string k] W fun e w' => LaOut' w W F G pe pq m l (s + 1) c k e w':=by
 have hn:=h.sm.n
 refine (actor_ h.en h.sm.tidy hk (by omega)).mono ?_
 rintro e w' ⟨q,G',F',rfl,⟨pj,pi,po,n,v,haw⟩,_,hen,hmv⟩
 obtain ⟨B,hib,_⟩:=haw.ib
 exact ⟨q,pi,B,F',rfl,haw.cells.2.1,hib,h.eng hen hmv (h.sm.loaded hen.ok),hmv⟩
theorem row_last {F:Nat → Prop} {w:World} {v:Value} {ys:List Lt.L} {x:Lt.L} (h:Ib.Row w F v (ys ++ [x])):∃ ad c u,v = .slice (some ad) (ys.length + 1) c ∧ In w x u ∧ (∀ k,u.ownBlock = some k → F k) ∧ F ad.block ∧ w.cell? ⟨(ad.add (ys.length * 4)).block,(ad.add (ys.length * 4)).off + 2,none⟩ = some (.int .i64 x.2.2.1) ∧
 w.cell? ⟨(ad.add (ys.length * 4)).block,(ad.add (ys.length * 4)).off + 3,none⟩ = some u:=by
 obtain ⟨A,c,hv,_,_⟩:=h.len
 obtain ⟨ps,h1,h2,h3,h4⟩:=h
 have hl:ps.length = ys.length + 1:=by
  have:=congrArg List.length h1
  simpa using this
 have hi:ys.length < ps.length:=by omega
 subst hv
 have hl2:(ys ++ [x]).length = ps.length:=by simp [hl]
 rw [hl2] at h2
 obtain ⟨ad,rfl,hc⟩:=Op.row_at (f:=fun z:Ib.Lv => Lt.cells z.1 z.2) h2.rd (fun _ _ => rfl) rfl hi
 have hx:ps[ys.length].1 = x:=by
  have:(ps.map (·.1))[ys.length]? = some x:=by rw [h1]; simp
  rw [List.getElem?_map,List.getElem?_eq_getElem hi] at this
  simpa using this
 have hm:=h3 _ (List.getElem_mem hi)
 have g2:=hc 2 (by omega)
 have g3:=hc 3 (by omega)
 rw [Nd.add_fl ad (ys.length * 4) 2 (by omega)] at g2
 rw [Nd.add_fl ad (ys.length * 4) 3 (by omega)] at g3
 rw [hx] at hm
 refine ⟨ad,c,ps[ys.length].2,by rw [hl2,hl],hm.1,fun k hk => (hm.2 k hk).1,h4 _ rfl,?_,?_⟩
 · rw [g2,← hx]; rfl
 · rw [g3]; rfl
theorem sm0 {p:Nat}:Sm (em0 p 8000 2) 0 0:=⟨em0_ok (by omega),⟨rfl,fun s h => by cases h⟩,Nat.le_refl _,rfl,Nat.le_refl _,by simp [em0],fun k _ => only_fresh k⟩
set_option maxHeartbeats 16000000 in
set_option maxRecDepth 100000 in
theorem rem_law {w:World} {A1 A2:Option Addr} {c1 c2:Nat} {xs:List Rm} {ts:List Int} (hr1:Rd w 5 A1 xs.length (xs.flatMap rc)) (hx:xs.length ≤ maxLen ∧ ∀ x ∈ xs,Nd.Rg x) (hr2:Rn w .u8 A2 ts) (hts:ts.length ≤ maxLen ∧ Byte ts)
 (HAw:∀ W,Upd No w W → Calls Tryz.prog 5 #[] W fun e w' => e = .returned (.bool true) ∧ Upd No W w') :
 Calls Tryz.prog 4 #[.slice A1 xs.length c1,.slice A2 ts.length c2] w fun e w' => e = .returned (.bool true) ∧ Upd No w w':=by
 have hl1:xs.length ≤ 9223372036854775807:=by have:=hx.1; simp only [maxLen] at this; omega
 have hl2:ts.length ≤ 9223372036854775807:=by have:=hts.1; simp only [maxLen] at this; omega
 have HX:=hid hx.2
 have HB:=hid hts.2
 have HR1:=hid fun W (hu:Upd No w W) => Rd.upd hr1 (by omega) hu fun _ _ => no_ _
 have HR2:=hid fun W (hu:Upd No w W) => show Rn W .u8 A2 ts from Rd.upd hr2 (by omega) hu fun _ _ => no_ _
 have HA:=hid HAw
 clear hr1 hr2 hx hts HAw
 by_cases hbig:10 < xs.length ∨ (xs.length ≤ 10 ∧ 30 < ts.length)
 · have HN:Hid True:=hid trivial
   rcases hbig with h10 | ⟨h10,h30⟩
   case' inl =>
    have k1:(10:Int) < (xs.length:Int):=by omega
   case' inr =>
    have k1:¬ (10:Int) < (xs.length:Int):=by omega
    have k2:(30:Int) < (ts.length:Int):=by omega
   all_goals
    go_enter Tryz.func4,Tryz.ntmps4
    go_wp2_with (fail)
    refine Calls.mono (HA.out w (Upd.refl _ _)) ?_
    rintro e w1 ⟨rfl,hu1⟩
    have HU1:=hid hu1
    clear hu1
    go_wp2_with (fail)
    refine Calls.mono (HA.out w1 HU1.out) ?_
    rintro e w2 ⟨rfl,hu2⟩
    have HU2:=hid (HU1.out.next hu2)
    clear hu2
    go_wp2
    go_ret
    exact ⟨rfl,HU2.out⟩
 have k1:¬ (10:Int) < (xs.length:Int):=by omega
 have k2:¬ (30:Int) < (ts.length:Int):=by omega
 clear hbig
 go_enter Tryz.func4,Tryz.ntmps4
 go_wp2_with (fail)
 refine Calls.mono (HA.out w (Upd.refl _ _)) ?_
 rintro e w1 ⟨rfl,hu1⟩
 have HU1:=hid hu1
 have HD:=hid (show Calls Tryz.prog 7 #[.int .i64 8000] w1 _ from disk_ 8000 w1 (by omega))
 clear hu1
 go_wp2_with (fail)
 refine Calls.mono HD.out ?_
 rintro e w2 ⟨p,D,rfl,hdk,hD,hu2⟩
 have HO:=hid (open_ hdk (by omega) 2 (by omega))
 have HU2:=hid (HU1.out.next hu2)
 have HDl:Hid (∀ k,D k → w.heap.size ≤ k):=hid fun k hk => by have:=hD k hk; have:=HU1.out.size; omega
 clear hdk hD hu2 HD
 go_wp2_with (fail)
 refine Calls.mono HO.out ?_
 rintro e w3 ⟨pe,F,rfl,hen,hF,hu3⟩
 have HQ:Hid (∃ w4 pq,w4 = w3.alloc (.cells #[.slice none 0 0] 67) ∧ pq = w3.heap.size ∧ Lw w w4 F (fun k => k = pq) pe pq (em0 p 8000 2) [] 0 0):=hid (by
  have hz:=(HU2.out.next hu3).size
  have hlt:=hen.lt
  refine ⟨_,_,rfl,rfl,hen.quiet ((Upd.refl _ _).alloc _),Wq.new w3,sm0,fun k hk e => by have:=hlt k hk; omega,fun k hk => ?_,(HU2.out.next hu3).alloc _⟩
  rcases hk with hk | hk
  · have:=HU2.out.size
    exact (hF k hk).elim (HDl.out k) fun h9 => by omega
  · omega)
 clear hen hF hu3 HO HDl HU2 HU1
 go_wp2_with (fail)
 obtain ⟨w4,pq,hw4,hpq,hL⟩:=HQ.out
 rw [← hw4,← hpq]
 have HL4:=hid hL
 clear hL hw4 hpq HQ
 go_loopw [46] (fun v46 W => ∃ (j:Nat) (m:Em) (F G:Nat → Prop),j ≤ xs.length ∧ v46 = .int .i64 j ∧ Hid (Lw w W F G pe pq m m.q j j) ∧ Hid (m.q.length ≤ j ∧ m.clock = 0)) (fun v46 _ => xs.length - (intOf v46).toNat)
 case atStart => exact ⟨0,_,_,_,by omega,rfl,HL4,hid ⟨Nat.le_refl _,rfl⟩⟩
 case round =>
  clear HL4
  obtain ⟨j,m,F,G,hj,rfl,HL,HC⟩:=hrel
  by_cases hlt:j < xs.length
  · have hj2:(j:Int) < (xs.length:Int):=by omega
    have hj1:(0:Int) ≤ (j:Int):=by omega
    obtain ⟨ad,rfl,hat⟩:=Nd.rm_at (HR1.out wr HL.out.upd) hlt
    have hrg:=HX.out _ (List.getElem_mem hlt)
    generalize xs[j] = x at *
    obtain ⟨ac,an,du,ap,ak⟩:=x
    obtain ⟨x0,x1,x2,x3,x4⟩:=hat
    simp only at x0 x1 x2 x3 x4
    have HG:=hid (show Nd.I64 du ∧ Nd.I64 ap ∧ Nd.I64 ak from hrg)
    have HB5:Hid (∃ w5 pb,w5 = wr.alloc (.cells #[.string ac,.string an,.int .i64 du,.int .i64 ap,.int .i64 ak] 69) ∧ pb = wr.heap.size ∧ Blk w5 pb 69 #[.string ac,.string an,.int .i64 du,.int .i64 ap,.int .i64 ak] ∧ ¬ F pb ∧ ¬ G pb ∧ Lw w w5 F G pe pq m m.q j j):=hid (by
     have h1:=HL.out.en.lt
     have h2:=HL.out.wq.lt
     exact ⟨_,_,rfl,rfl,Blk.fresh _ _ _,fun hf => by have:=h1 _ hf; omega,fun hf => by have:=h2 _ hf; omega,HL.out.quiet ((Upd.refl _ _).alloc _)⟩)
    clear hrg
    by_cases h1:1000 < ac.size
    · have h1':(1000:Int) < (ac.size:Int):=by omega
      have HU:=hid fun o => HL.out.upd.alloc o
      clear HB5
      go_wp2
      go_ret
      exact ⟨rfl,HU.out _⟩
    · have h1':¬ (1000:Int) < (ac.size:Int):=by omega
      by_cases h2:1000 < an.size
      · have h2':(1000:Int) < (an.size:Int):=by omega
        have HU:=hid fun o => HL.out.upd.alloc o
        clear HB5
        go_wp2
        go_ret
        exact ⟨rfl,HU.out _⟩
      · have h2':¬ (1000:Int) < (an.size:Int):=by omega
        go_wp2_with (fail)
        obtain ⟨w5,pb,hw5,hpb,hb5,hnF,hnG,hL5⟩:=HB5.out
        rw [← hw5,← hpb]
        have hL5d:=hL5.quiet ((Upd.refl _ _).drew)
        have HL5:=hid hL5d
        have HBx:=hid (And.intro (hb5.upd (Upd.refl _ _).drew (no_ _)) (And.intro hnF hnG))
        clear hw5 hpb hb5 hnF hnG hL5 hL5d HB5 x0 x1 x2 x3 x4
        have hroom:Gp.nbl (Bo.encL (chQ (setR m.q ⟨ac,an,du,ap,ak⟩).2)) ≤ m.bk.lg.count - m.bk.lg.used:=by
         have g1:=set_length m.q ⟨ac,an,du,ap,ak⟩
         have g2:=HC.out.1
         have g3:=room_q (HL5.out.sm.ok.inv.set (r:=⟨ac,an,du,ap,ak⟩) HG.out) (by omega)
         have g4:=HL5.out.sm.cnt
         have g5:=HL5.out.sm.used
         omega
        have hrm:=remind_ HL5.out.en HL5.out.sm.tidy ⟨ac,an,du,ap,ak⟩ HG.out (by have:=HL5.out.sm.n; omega) hroom
        have hl9:m.q.length ≤ 9:=by have:=HC.out.1; omega
        unfold rv at hrm
        have HRm:=hid hrm
        have HQl:=hid (And.intro (remind_q m ⟨ac,an,du,ap,ak⟩) (set_length m.q ⟨ac,an,du,ap,ak⟩))
        have HSr:=hid fun hok => HL5.out.sm.remind (r:=⟨ac,an,du,ap,ak⟩) HG.out hl9 hok
        have HSt:=hid fun W G' (hq:Wq W G' pq m.q) => Nd.rset_ pq G' m.q ⟨ac,an,du,ap,ak⟩ W hq (by omega)
        unfold rv at HSt
        clear hrm hroom
        unfold RdOut at HRm
        generalize hm':(if (setR m.q ⟨ac,an,du,ap,ak⟩).1 = 0 then m.queued (setR m.q ⟨ac,an,du,ap,ak⟩).2 else m) = m' at HRm HQl HSr
        generalize hsr:setR m.q ⟨ac,an,du,ap,ak⟩ = sr at HRm HQl HSr HSt
        obtain ⟨code,l'⟩:=sr
        clear hm' hsr
        have hbx:=HBx.out.1
        refine wp_region_held_drew (S:=fun W => W.cell? ⟨pb,0,none⟩ = some (.string ac) ∧ W.cell? ⟨pb,1,none⟩ = some (.string an) ∧ W.cell? ⟨pb,2,none⟩ = some (.int .i64 du) ∧ W.cell? ⟨pb,3,none⟩ = some (.int .i64 ap) ∧ W.cell? ⟨pb,4,none⟩ = some (.int .i64 ak)) (by kernel_rfl) (Nd.box5 hbx) (fun hS => ?_)
        refine zt 0 hS ?_
        refine zh 1 hS (fun w hw => hw) ?_
        refine zt 3 hS ?_
        refine zh 4 hS (fun w hw => hw) ?_
        refine zk 2 (fun K hK => ?_)
        go_simp
        refine Calls.mono HRm.out ?_
        rintro e6 w6 ⟨rfl,F6,hen6,hm6⟩
        have HL6:=hid (HL5.out.eng hen6 hm6 (HSr.out hen6.ok))
        have hb6:=hbx.upd hm6.upd HBx.out.2.1
        have HS6:=hid (HSt.out w6 G HL6.out.wq)
        clear hen6 hm6
        go_wp2_with (fail)
        refine hK.out _ _ ((Nd.box5 hb6)) (fun hS => ?_)
        clear hK K
        try simp only [Act.put,zA,zB,zC]
        refine zk 5 (fun K hK => ?_)
        go_simp
        refine Calls.mono HS6.out ?_
        rintro e7 w7 ⟨rfl,G7,hq7,hm7⟩
        have HL7:=hid (HL6.out.ref hq7 hm7)
        have hb7:=hb6.upd hm7.upd HBx.out.2.2
        clear hq7 hm7
        go_wp2_with (fail)
        refine hK.out _ _ ((Nd.box5 hb7)) (fun hS => ?_)
        clear hK K
        try simp only [Act.put,zA,zB,zC]
        refine zt 6 hS ?_
        refine wpAnyH_done (by kernel_rfl) ?_ _
        have HN:Hid (Lw w w7 F6 G7 pe pq m' m'.q (j + 1) (j + 1) ∧ m'.q.length ≤ j + 1 ∧ m'.clock = 0):=hid (by
         have e1:=HQl.out.1.1
         have e2:=HQl.out.1.2
         have e3:=HQl.out.2
         refine ⟨by rw [e1]; exact HL7.out,by rw [e1]; have:=HC.out.1; omega,by rw [e2]; exact HC.out.2⟩)
        clear hb6 hb7 hbx hS HL7 HL6 HS6 HSt HSr HRm HQl HL5 HBx HL
        go_wp2
        go_roundw
        case rel => exact ⟨j + 1,m',F6,G7,by omega,by go_num,hid HN.out.1,hid HN.out.2⟩
        case measure => simp [intOf]; omega
  · obtain rfl:j = xs.length:=by omega
    have HL0:=hid (HL.out.more (s':=10) (c':=10) (by omega) (by omega))
    have HC0:=hid HC.out.2
    clear HL HC
    go_wp2_with (fail)
    go_loopw [10,73] (fun v10 v73 W => ∃ (i:Nat) (ck:Int) (m:Em) (F G:Nat → Prop),i ≤ ts.length ∧ v73 = .int .i64 i ∧ v10 = .int .i64 ck ∧ Hid (Lw w W F G pe pq m m.q (10 + 10 * i) (10 + 4 * i)) ∧ Hid (m.clock = ck ∧ 0 ≤ ck ∧ ck ≤ 255 * i)) (fun v10 v73 _ => ts.length - (intOf v73).toNat)
    case atStart => exact ⟨0,0,m,F,G,by omega,rfl,rfl,HL0,hid ⟨HC0.out,by omega,by omega⟩⟩
    case round =>
     clear HL0 HC0
     obtain ⟨i,c0,m,F,G,hi,rfl,rfl,HL,HC⟩:=hrel
     by_cases hlt:i < ts.length
     · have hi2:(i:Int) < (ts.length:Int):=by omega
       have hi1:(0:Int) ≤ (i:Int):=by omega
       have hbt:=HB.out _ (gi_mem ts i hlt)
       obtain ⟨ad,rfl,hc⟩:=(HR2.out wr HL.out.upd).at_ hlt
       have HCl:Hid (∀ W,Upd No w W → W.cell? (ad.add i) = some (.int .u8 (gi ts i))):=hid fun W hu => by
        obtain ⟨ad',e,hc'⟩:=(HR2.out W hu).at_ hlt
        injection e with e
        subst e
        exact hc'
       generalize gi ts i = b at *
       obtain ⟨ck,hck⟩:∃ ck,c0 + b = ck:=⟨_,rfl⟩
       have hr0:0 ≤ c0 ∧ c0 ≤ 7650:=by have:=HC.out.2; omega
       have hrb:0 ≤ b ∧ b ≤ 255:=by have:=hbt; omega
       have HTk:=hid (tick_ HL.out.en b ck hrb.1 (by rw [HC.out.1,hck]) ⟨by rw [HC.out.1]; exact hr0.1,by omega⟩ (by have:=HL.out.sm.n; omega) (by have:=room_k ck; have:=HL.out.sm.cnt; have:=HL.out.sm.used; omega))
       have HKr:Hid (0 ≤ ck ∧ ck ≤ 255 * ((i + 1:Nat):Int)):=hid (by have:=HC.out.2; omega)
       have hw1:IntKind.i64.wrap b = b:=IntWalk.i64_in _ (by omega)
       have hw2:IntKind.i64.wrap (c0 + b) = ck:=by rw [hck]; exact IntWalk.i64_in _ (by omega)
       clear hbt
       go_wp2_with (fail)
       refine Calls.mono HTk.out ?_
       rintro e w5 ⟨rfl,F5,hen5,hm5⟩
       have HL5:=hid (HL.out.eng hen5 hm5 (HL.out.sm.ticked ck hen5.ok))
       have hc5:=HCl.out w5 HL5.out.upd
       clear hen5 hm5 HTk HL hc
       go_wp2_with (fail)
       go_loopw [100] (fun v100 W => ∃ (k:Nat) (m:Em) (F G:Nat → Prop),k ≤ 3 ∧ v100 = .int .i64 k ∧ Hid (Lw w W F G pe pq m m.q (11 + 10 * i + 3 * k) (11 + 4 * i + k)) ∧ Hid (m.clock = ck)) (fun v100 _ => 3 - (intOf v100).toNat)
       case atStart => exact ⟨0,m.one (chK ck) ck,F5,G,by omega,rfl,hid (HL5.out.more (by omega) (by omega)),hid rfl⟩
       case round =>
        clear HL5 hc5 HCl HC
        obtain ⟨k,m,F,G,hk,rfl,HL,HC⟩:=hrel
        by_cases hlt3:k < 3
        · have hs4:11 + 10 * i + 3 * k ≤ 390 ∧ 11 + 4 * i + k ≤ 140:=by omega
          have HS4:=hid hs4
          clear hs4
          have hdu:=Nd.rdue_ pq G m.q ck wr HL.out.wq (by have:=HL.out.sm.len; omega)
          rcases hd:Nd.dueR m.q ck with _ | r0
          case' none =>
           rw [hd] at hdu
           simp only [Nd.tell,rv,Nd.zr,Option.getD_none,Option.isSome_none] at hdu
           have HDu:=hid hdu
           have HSv:Hid (m.served = (5,Nd.zr,m)):=hid (by
            unfold Em.served serveR
            rw [HC.out,hd])
           clear hdu hd
           go_wp2_with (fail)
           refine Calls.mono HDu.out ?_
           rintro e w5 ⟨rfl,hu5⟩
           have HL5:=hid (HL.out.quiet hu5)
           clear hu5 HDu
           have HL6:Hid (∃ w6,w6 = w5.alloc (.cells #[.string ⟨#[]⟩,.string ⟨#[]⟩,.int .i64 0,.int .i64 0,.int .i64 0] 69) ∧ Lw w w6 F G pe pq m m.q (11 + 10 * i + 3 * k) (11 + 4 * i + k)):=hid ⟨_,rfl,HL5.out.quiet ((Upd.refl _ _).alloc _)⟩
           clear HL5 HL
           go_wp2_with (fail)
           obtain ⟨w6,hw6,hL6⟩:=HL6.out
           rw [← hw6]
           have HSe:=hid (lw_serve hL6 (by have:=HS4.out; omega) (by have:=HS4.out; omega) HSv.out)
           simp only [rv,Nd.zr] at HSe
           clear hw6 hL6 HL6 HSv
           refine Calls.mono HSe.out ?_
           rintro e w7 ⟨rfl,F7,hL7,_⟩
           have HN:=hid (fun o => hL7.quiet ((Upd.refl _ _).alloc o))
           clear hL7 HSe
           go_wp2
           go_roundw
           case rel => exact ⟨k + 1,m,F7,G,by omega,by go_num,hid ((HN.out _).more (by omega) (by omega)),hid HC.out⟩
           case measure => simp [intOf]; omega
          case' some =>
           rw [hd] at hdu
           have hsq:serveR m.q m.clock = (some r0,Nd.nextR m.q r0):=by
            unfold serveR
            rw [HC.out,hd]
           have hdue:=(serve_due (m:=m) (r0:=r0) (o:=some r0) (l':=Nd.nextR m.q r0) HL.out.sm.ok.inv ⟨hsq,rfl,rfl⟩).2
           obtain ⟨l',hl'⟩:∃ l',Nd.nextR m.q r0 = l':=⟨_,rfl⟩
           rw [hl'] at hsq hdue
           have HSq:=hid hsq
           have HDe:=hid hdue
           obtain ⟨ac,an,du,ap,ak⟩:=r0
           simp only [Nd.tell,rv,Option.getD_some,Option.isSome_some] at hdu
           have HDu:=hid hdu
           have HRs:=hid (show serveR m.q ck = (some ⟨ac,an,du,ap,ak⟩,l') by rw [← HC.out]; exact HSq.out)
           clear hdu hd hsq hdue hl'
           go_wp2_with (fail)
           refine Calls.mono HDu.out ?_
           rintro e w5 ⟨rfl,hu5⟩
           have HB6:Hid (∃ w6 p14,w6 = w5.alloc (.cells #[.string ac,.string an,.int .i64 du,.int .i64 ap,.int .i64 ak] 69) ∧ p14 = w5.heap.size ∧ Blk w6 p14 69 #[.string ac,.string an,.int .i64 du,.int .i64 ap,.int .i64 ak] ∧ ¬ F p14 ∧ ¬ G p14 ∧ Lw w w6 F G pe pq m m.q (11 + 10 * i + 3 * k) (11 + 4 * i + k)):=hid (by
            have h1:=(HL.out.quiet hu5).en.lt
            have h2:=(HL.out.quiet hu5).wq.lt
            exact ⟨_,_,rfl,rfl,Blk.fresh _ _ _,fun hf => by have:=h1 _ hf; omega,fun hf => by have:=h2 _ hf; omega,(HL.out.quiet hu5).quiet ((Upd.refl _ _).alloc _)⟩)
           clear hu5 HDu HL
           go_wp2_with (fail)
           obtain ⟨w6,p14,hw6,hp14,hb6,hnF,hnG,hL6⟩:=HB6.out
           rw [← hw6,← hp14]
           have HX6:=hid (And.intro hb6 (And.intro hnF hnG))
           have HAc:=hid (lw_actor hL6 (by have:=HS4.out; omega) HDe.out.2.1)
           clear hw6 hp14 hb6 hnF hnG hL6 HB6
           refine Calls.mono HAc.out ?_
           rintro e w7 ⟨qa,pi,GA,F7,rfl,hc7,hib7,hL7,hm7⟩
           have HX7:Hid (Blk w7 p14 69 #[.string ac,.string an,.int .i64 du,.int .i64 ap,.int .i64 ak] ∧ ¬ F7 p14 ∧ ¬ G p14):=hid ⟨HX6.out.1.upd hm7.upd HX6.out.2.1,fun hf => (hm7.sub _ hf).elim HX6.out.2.1 fun h9 => by have:=HX6.out.1.lt; omega,HX6.out.2.2⟩
           have hin8:=(hL7.sm.ok.act HDe.out.2.1).inb.1
           replace hin8:(m.act ac).inb.length ≤ 8:=hin8
           have HLn:=hid (Ib.len_ pi _ GA w7 hib7)
           have HL7:=hid hL7
           have HL7inv:Hid (Inv m.q):=hid hL7.sm.ok.inv
           obtain ⟨n8,hn8⟩:∃ n8,(m.act ac).inb.length = n8:=⟨_,rfl⟩
           rw [hn8] at HLn hin8
           have HN8:=hid hn8
           clear hib7 hL7 hm7 HX6 HAc hn8
           rcases Nat.lt_or_ge n8 8 with h8 | h8
           case' inl =>
            have hne:¬ (n8:Int) = 8:=by omega
            have hlt8:(m.act ac).inb.length < 8:=by have:=HN8.out; omega
            have hsv:=served_go (m:=m.loaded ac) (r0:=⟨ac,an,du,ap,ak⟩) (l:=l') HSq.out hlt8
            obtain ⟨M,hM⟩:∃ M,M = ((m.loaded ac).loaded ac).commit [(0,reminded ((m.loaded ac).act ac) ⟨ac,an,du,ap,ak⟩)] (some (0,l')) none:=⟨_,rfl⟩
            have HM:Hid (M.q = l' ∧ M.clock = m.clock ∧ (M.act ac).inb = (m.act ac).inb ++ [remL ⟨ac,an,du,ap,ak⟩]):=hid (by
             subst hM
             refine ⟨rfl,rfl,?_⟩
             show (actN m.act [(0,reminded (m.act ac) ⟨ac,an,du,ap,ak⟩)] ac).inb = _
             have hown:(reminded (m.act ac) ⟨ac,an,du,ap,ak⟩).out.own = ac:=HL7.out.sm.ok.own ac HDe.out.2.1
             have:=actN_at m.act (ac:=[(0,reminded (m.act ac) ⟨ac,an,du,ap,ak⟩)]) (by simp) (List.mem_singleton.2 rfl)
             simp only [hown] at this
             rw [this]
             rfl)
            have hsv':(m.loaded ac).served = (0,⟨ac,an,du,ap,ak⟩,M):=by rw [hM]; exact hsv
            have HSe:=hid (lw_serve HL7.out (by have:=HS4.out; omega) (by have:=HS4.out; omega) hsv')
            simp only [rv] at HSe
            clear hM hsv hsv' hlt8
            go_wp2_with (fail)
            refine Calls.mono HLn.out ?_
            rintro e w8 ⟨rfl,rfl⟩
            go_wp2_with (fail)
            refine Calls.mono HSe.out ?_
            rintro e w9 ⟨rfl,F9,hL9,hm9⟩
            have hx9:Blk w9 p14 69 #[.string ac,.string an,.int .i64 du,.int .i64 ap,.int .i64 ak]:=HX7.out.1.upd hm9.upd HX7.out.2.1
            have hn9:¬ F9 p14:=fun hf => (hm9.sub _ hf).elim HX7.out.2.1 fun h9 => by have:=HX7.out.1.lt; omega
            have HB10:Hid (∃ w10 p19,w10 = w9.alloc (.cells #[.string ac,.string an,.int .i64 du,.int .i64 ap,.int .i64 ak] 71) ∧ p19 = w9.heap.size ∧ Blk w10 p19 71 #[.string ac,.string an,.int .i64 du,.int .i64 ap,.int .i64 ak] ∧ ¬ F9 p19 ∧ ¬ G p19 ∧ (Blk w10 p14 69 #[.string ac,.string an,.int .i64 du,.int .i64 ap,.int .i64 ak] ∧ ¬ F9 p14 ∧ ¬ G p14) ∧ Lw w w10 F9 G pe pq M m.q (11 + 10 * i + 3 * k + 1 + 1) (11 + 4 * i + k + 1)):=hid (by
             have h1:=hL9.en.lt
             have h2:=hL9.wq.lt
             exact ⟨_,_,rfl,rfl,Blk.fresh _ _ _,fun hf => by have:=h1 _ hf; omega,fun hf => by have:=h2 _ hf; omega,⟨hx9.alloc _,hn9,HX7.out.2.2⟩,hL9.quiet ((Upd.refl _ _).alloc _)⟩)
            have x14:w9.cell? ⟨p14,0,none⟩ = some (.string ac):=by simpa using hx9.cell 0
            have y14:(w9.alloc (.cells #[.string ac,.string an,.int .i64 du,.int .i64 ap,.int .i64 ak] 71)).cell? ⟨p14,0,none⟩ = some (.string ac):=by simpa using (hx9.alloc (.cells #[.string ac,.string an,.int .i64 du,.int .i64 ap,.int .i64 ak] 71)).cell 0
            clear hL9 hm9 hx9 hn9 HX7 HL7 HSe HLn
            go_wp2_with (fail)
            obtain ⟨w10,p19,hw10,hp19,hb19,hf19,hg19,hb14,hL10⟩:=HB10.out
            rw [← hw10,← hp19]
            have HX10:=hid (And.intro (And.intro hb19 (And.intro hf19 hg19)) hb14)
            have HAc:=hid (lw_actor hL10 (by have:=HS4.out; omega) HDe.out.2.1)
            clear hw10 hp19 hb19 hf19 hg19 hb14 hL10 HB10 x14 y14
            refine Calls.mono HAc.out ?_
            rintro e w11 ⟨qb,pi2,GB,F11,rfl,hc11,hib11,hL11,hm11⟩
            have hfit:=(hL11.sm.ok.act HDe.out.2.1).inb
            replace hfit:Fit (M.act ac).inb:=hfit
            have HIa:=hid (La.iall pi2 _ GB w11 hib11 (fun x hx => by have:=(formed_le (hfit.2 x hx).1).2; omega) (by have:=hfit.1; omega))
            rw [HM.out.2.2] at HIa
            have HL11:=hid hL11
            have HX11:Hid ((Blk w11 p19 71 #[.string ac,.string an,.int .i64 du,.int .i64 ap,.int .i64 ak] ∧ ¬ G p19) ∧ Blk w11 p14 69 #[.string ac,.string an,.int .i64 du,.int .i64 ap,.int .i64 ak] ∧ ¬ G p14):=hid ⟨⟨HX10.out.1.1.upd hm11.upd HX10.out.1.2.1,HX10.out.1.2.2⟩,HX10.out.2.1.upd hm11.upd HX10.out.2.2.1,HX10.out.2.2.2⟩
            clear hib11 hL11 hm11 hfit HX10 HAc
            go_wp2_with (fail)
            refine Calls.mono HIa.out ?_
            rintro e w12 ⟨v12,G12,rfl,hrow12,hG12,hu12⟩
            have HL12:=hid (HL11.out.quiet hu12)
            obtain ⟨ad,c12,u12,rfl,hin12,hu12F,hadF,hk12,ha12⟩:=row_last hrow12
            obtain ⟨ga,ca,rfl,hrn,_,_⟩:=hin12
            simp only [remL] at hrn hk12 ha12 hu12F
            obtain ⟨ga,rfl,hd12⟩:=hrn.at_ (i:=0) (by simp)
            rw [HN8.out] at hk12 ha12
            have HF12:Hid ((w12.cell? ⟨(ad.add (n8 * 4)).block,(ad.add (n8 * 4)).off + 2,none⟩ = some (.int .i64 ak) ∧ w12.cell? ⟨(ad.add (n8 * 4)).block,(ad.add (n8 * 4)).off + 3,none⟩ = some (.slice (some ga) 1 ca) ∧ w12.cell? ga = some (.int .i64 du)) ∧ ¬ G ad.block ∧ ¬ G ga.block ∧ Upd No w11 w12):=hid (by
             have hGl:=HL11.out.wq.lt
             have ga1:=hG12 _ (hu12F ga.block rfl)
             have ad1:=hG12 _ hadF
             exact ⟨⟨hk12,ha12,hd12⟩,fun hg => by have:=hGl _ hg; omega,fun hg => by have:=hGl _ hg; omega,hu12⟩)
            clear hrow12 hG12 hu12 hu12F hadF hk12 ha12 hrn hd12 HL11 HIa hc11
            rw [HN8.out]
            have hrv:=Nd.rserve_ pq G m.q ck w12 HL12.out.wq HL7inv.out
            rw [HRs.out] at hrv
            have HRv:=hid hrv
            clear hrv
            go_wp2_with (fail)
            refine Calls.mono HRv.out ?_
            rintro e w13 ⟨rfl,G13,hq13,hm13⟩
            have HL13:=hid (HL12.out.ref hq13 hm13)
            have h19:Blk w13 p19 71 #[.string ac,.string an,.int .i64 du,.int .i64 ap,.int .i64 ak]:=(HX11.out.1.1.upd HF12.out.2.2.2 (no_ _)).upd hm13.upd HX11.out.1.2
            have h14:Blk w13 p14 69 #[.string ac,.string an,.int .i64 du,.int .i64 ap,.int .i64 ak]:=(HX11.out.2.1.upd HF12.out.2.2.2 (no_ _)).upd hm13.upd HX11.out.2.2
            have hS13:(w13.cell? ⟨p19,0,none⟩ = some (.string ac) ∧ w13.cell? ⟨p19,1,none⟩ = some (.string an) ∧ w13.cell? ⟨p19,2,none⟩ = some (.int .i64 du) ∧ w13.cell? ⟨p19,3,none⟩ = some (.int .i64 ap) ∧ w13.cell? ⟨p19,4,none⟩ = some (.int .i64 ak)) ∧ (w13.cell? ⟨p14,0,none⟩ = some (.string ac) ∧ w13.cell? ⟨p14,1,none⟩ = some (.string an) ∧ w13.cell? ⟨p14,2,none⟩ = some (.int .i64 du) ∧ w13.cell? ⟨p14,3,none⟩ = some (.int .i64 ap) ∧ w13.cell? ⟨p14,4,none⟩ = some (.int .i64 ak)) ∧
             w13.cell? ⟨(ad.add (n8 * 4)).block,(ad.add (n8 * 4)).off + 2,none⟩ = some (.int .i64 ak) ∧ w13.cell? ⟨(ad.add (n8 * 4)).block,(ad.add (n8 * 4)).off + 3,none⟩ = some (.slice (some ga) 1 ca) ∧ w13.cell? ga = some (.int .i64 du):=by
             obtain ⟨⟨f1,f2,f3⟩,f4,f5,_⟩:=HF12.out
             have e4:(ad.add (n8 * 4)).block = ad.block:=by unfold Addr.add; split <;> rfl
             exact ⟨Nd.box5 h19,Nd.box5 h14,cell_keep f1 hm13.upd (by show ¬ G (ad.add (n8 * 4)).block; rw [e4]; exact f4),cell_keep f2 hm13.upd (by show ¬ G (ad.add (n8 * 4)).block; rw [e4]; exact f4),cell_keep f3 hm13.upd f5⟩
            have k1:(0:Int) ≤ (n8:Int):=by omega
            have k2:(n8:Int) < (n8:Int) + 1:=by omega
            have HK3:Hid (IntKind.i64.wrap (n8:Int) = (n8:Int)):=hid (IntWalk.i64_in _ (by omega))
            clear hq13 hm13 h19 h14 HRv HX11 HF12 HL12
            go_wp2_with (fail)
            refine wp_region_held_drew (S:=fun W => (W.cell? ⟨p19,0,none⟩ = some (.string ac) ∧ W.cell? ⟨p19,1,none⟩ = some (.string an) ∧ W.cell? ⟨p19,2,none⟩ = some (.int .i64 du) ∧ W.cell? ⟨p19,3,none⟩ = some (.int .i64 ap) ∧ W.cell? ⟨p19,4,none⟩ = some (.int .i64 ak)) ∧ (W.cell? ⟨p14,0,none⟩ = some (.string ac) ∧ W.cell? ⟨p14,1,none⟩ = some (.string an) ∧ W.cell? ⟨p14,2,none⟩ = some (.int .i64 du) ∧ W.cell? ⟨p14,3,none⟩ = some (.int .i64 ap) ∧ W.cell? ⟨p14,4,none⟩ = some (.int .i64 ak)) ∧
             W.cell? ⟨(ad.add (n8 * 4)).block,(ad.add (n8 * 4)).off + 2,none⟩ = some (.int .i64 ak) ∧ W.cell? ⟨(ad.add (n8 * 4)).block,(ad.add (n8 * 4)).off + 3,none⟩ = some (.slice (some ga) 1 ca) ∧ W.cell? ga = some (.int .i64 du)) (by kernel_rfl) hS13 (fun hS => ?_)
            refine zt 0 hS ?_
            refine zt 1 hS ?_
            refine zt 2 hS ?_
            refine zh 3 hS (fun w hw => hw.1) ?_
            refine zh 4 hS (fun w hw => hw.2.1) ?_
            refine zt 5 hS ?_
            refine zt 6 hS ?_
            refine zt 7 hS ?_
            refine zt 8 hS ?_
            refine zt 9 hS ?_
            refine zt 10 hS ?_
            refine zt 11 hS ?_
            refine zt 12 hS ?_
            refine zt 13 hS ?_
            refine zt 14 hS ?_
            refine zt 15 hS ?_
            refine zh 16 hS (fun w hw => HK3.out) ?_
            refine zt 17 hS ?_
            refine zt 18 hS ?_
            refine zh 19 hS (fun w hw => hw.2.2.2.1) ?_
            refine zt 20 hS ?_
            refine zh 21 hS (fun w hw => hw.2.2.2.2) ?_
            refine zt 22 hS ?_
            refine zh 23 hS (fun w hw => hw.2.1) ?_
            refine zt 24 hS ?_
            refine zt 25 hS ?_
            refine zt 26 hS ?_
            refine zt 27 hS ?_
            refine zt 28 hS ?_
            refine zt 29 hS ?_
            refine zh 30 hS (fun w hw => HK3.out) ?_
            refine zt 31 hS ?_
            refine zt 32 hS ?_
            refine zh 33 hS (fun w hw => hw.2.2.1) ?_
            refine zt 34 hS ?_
            refine zh 35 hS (fun w hw => hw.2.1) ?_
            refine zt 36 hS ?_
            refine zt 37 hS ?_
            refine wpAnyH_done (by kernel_rfl) ?_ _
            have HN:=hid (HL13.out.quiet ((Upd.refl _ _).drew))
            have HNq:Hid (Lw w w13.drew F11 G13 pe pq (M.loaded ac) (M.loaded ac).q (11 + 10 * i + 3 * k + 1 + 1 + 1) (11 + 4 * i + k + 1)):=hid (by
             rw [show (M.loaded ac).q = l' from HM.out.1]
             exact HN.out)
            have HCk:Hid ((M.loaded ac).clock = ck):=hid (HM.out.2.1.trans HC.out)
            clear hS hS13 HL13 HN
            go_wp2
            go_roundw
            case rel => exact ⟨k + 1,M.loaded ac,F11,G13,by omega,by go_num,hid (HNq.out.more (by omega) (by omega)),HCk⟩
            case measure => simp [intOf]; omega
           case' inr =>
            obtain rfl:n8 = 8:=by omega
            have HSv:Hid ((m.loaded ac).served = (7,Nd.zr,(m.loaded ac).loaded ac)):=hid (served_full (m:=m.loaded ac) (r0:=⟨ac,an,du,ap,ak⟩) (l:=l') HSq.out (by show ¬ (m.act ac).inb.length < 8; have:=HN8.out; omega))
            have HSe:=hid (lw_serve HL7.out (by have:=HS4.out; omega) (by have:=HS4.out; omega) HSv.out)
            simp only [rv,Nd.zr] at HSe
            clear HSv
            go_wp2_with (fail)
            refine Calls.mono HLn.out ?_
            rintro e w8 ⟨rfl,rfl⟩
            go_wp2_with (fail)
            refine Calls.mono HSe.out ?_
            rintro e w9 ⟨rfl,F9,hL9,_⟩
            have HL10:Hid (∃ w10,w10 = w9.alloc (.cells #[.string ⟨#[]⟩,.string ⟨#[]⟩,.int .i64 0,.int .i64 0,.int .i64 0] 71) ∧ Lw w w10 F9 G pe pq ((m.loaded ac).loaded ac) m.q (11 + 10 * i + 3 * k + 1 + 1) (11 + 4 * i + k + 1)):=hid ⟨_,rfl,hL9.quiet ((Upd.refl _ _).alloc _)⟩
            clear hL9 HSe HL7 HLn
            go_wp2_with (fail)
            obtain ⟨w10,hw10,hL10⟩:=HL10.out
            rw [← hw10]
            obtain ⟨Aq,cq,hcq,_,hql,hqm⟩:=hL10.wq.cell
            simp only [maxLen] at hqm
            have hAl:=all_ (hL10.en.quiet ((Upd.refl _ _).drew))
            have HAl:=hid (show Calls Tryz.prog 21 #[.pointer (some ⟨pe,0,none⟩)] w10.drew fun e w' => Nd.NewR w10.drew m.q e w' from hAl)
            have HLd:=hid (hL10.quiet ((Upd.refl _ _).drew))
            have HHc:Hid (∀ W,Upd No w10 W → W.cell? ⟨pq,0,none⟩ = some (.slice Aq m.q.length cq)):=hid fun W hu => by
             obtain ⟨v9,hb9,_⟩:=hL10.wq
             have e1:=(hb9.upd hu (no_ _)).cell 0
             have e2:=hb9.cell 0
             rw [hcq] at e2
             exact e1.trans e2.symm
            clear hw10 hL10 HL10 hAl hcq
            refine wp_region_held_drew (S:=fun W => W.cell? ⟨pq,0,none⟩ = some (.slice Aq m.q.length cq)) (by kernel_rfl) (HHc.out _ ((Upd.refl _ _).drew)) (fun hS => ?_)
            refine zt 0 hS ?_
            refine zt 1 hS ?_
            refine zt 2 hS ?_
            refine zt 3 hS ?_
            refine zt 6 hS ?_
            refine zt 7 hS ?_
            refine zt 8 hS ?_
            refine zh 9 hS (fun w hw => hw) ?_
            refine zt 10 hS ?_
            refine zk 4 (fun K hK => ?_)
            go_simp
            refine Calls.mono HAl.out ?_
            rintro e11 w11 ⟨A11,c11,rfl,_,hu11⟩
            have HL11:=hid (HLd.out.quiet hu11)
            have hS11:=HHc.out w11 (((Upd.refl No w10).drew).next hu11)
            clear hu11
            go_wp2_with (fail)
            refine hK.out _ _ (hS11) (fun hS => ?_)
            clear hK K
            try simp only [Act.put,zA,zB,zC]
            refine zt 5 hS ?_
            refine zt 11 hS ?_
            refine zt 12 hS ?_
            refine wpAnyH_done (by kernel_rfl) ?_ _
            clear hS11 hS HHc HLd HAl
            go_wp2
            go_roundw
            case rel => exact ⟨k + 1,(m.loaded ac).loaded ac,F9,G,by omega,by go_num,hid (HL11.out.more (by omega) (by omega)),hid HC.out⟩
            case measure => simp [intOf]; omega
        · obtain rfl:k = 3:=by omega
          go_wp2
          go_roundw
          case rel => exact ⟨i + 1,ck,m,F,G,by omega,by go_num,rfl,hid (HL.out.more (by omega) (by omega)),hid ⟨HC.out,HKr.out⟩⟩
          case measure => simp [intOf]; omega
     · obtain rfl:i = ts.length:=by omega
       go_wp2
       go_ret
       exact ⟨rfl,HL.out.upd⟩
end Go.Proofs.YtclfmpieapbfnaaGreatDoor.Eg
end
