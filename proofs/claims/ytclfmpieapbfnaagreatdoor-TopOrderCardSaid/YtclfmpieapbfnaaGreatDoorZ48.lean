/- Part 48: lemmas, no conditions. -/
import Derived.Test.YtclfmpieapbfnaaGreatDoorZ47
import Derived.Test.YtclfmpieapbfnaaGreatDoorZ46
import Derived.Test.YtclfmpieapbfnaaGreatDoorZ33
import Derived.Test.YtclfmpieapbfnaaGreatDoorZ08
import Derived.Test.YtclfmpieapbfnaaGreatDoorZ32
import Derived.Test.YtclfmpieapbfnaaGreatDoorZ35
set_option maxHeartbeats 4000000
namespace Go.Proofs.YtclfmpieapbfnaaGreatDoor
set_option linter.unusedVariables false
set_option linter.unusedSimpArgs false
section
namespace Eg
open Go.RowKit B Cm Cr Cw Ou Lt Lc
open Ac (Am fresh fresh_ok encA encA_le encA_byte freshB)
open Bo (Bp Bm Cg bst La Vb Cl ccells bare encL sizeC)
open Nd (Rm Inv)
open Mc (Mst)
open Pr (Pg Ins Gi)
open Tu (ocm tkn Tk)
structure Tq (a:Am) (ns:List ByteArray) (cs:List Ins) (x:L) (r:List L) (n:Nat) (T:Nat → Mst):Prop where
 n8:ns.length ≤ 8
 c200:cs.length ≤ 200
 kk:∀ s ∈ ns,Kk s
 gi:∀ i ∈ cs,Gi ns.length cs.length i
 inb:a.inb = x :: r
 fm:formed x = true
 t0:T 0 = ⟨0,[],Jn.sts a.jn.1 a.jn.2.1,[],[],0⟩
 tr:∀ w uN uC,Pg w uN uC ns cs → ∀ us W,In W x us → Upd No w W → Mc.Trace W cs ⟨uN,uC,x,us,0⟩ n T
 one:(T n).snt.length ≤ 1
 ev:(T n).evs.length ≤ 100
 sk:∀ s ∈ (T n).snt,Kk s.1
 room:(T n).snt = [] ∨ a.out.ser.length < 64
def Te (a:Am) (c:Mst) (cd:Int) (d:Bool) (st:Int) (a':Am):Prop:=
 (cd = 0 ∧ d = true ∧ st = c.steps ∧ a' = tkn a c ∧ (c.snt = [] ∨ a.out.lst.length < 32)) ∨ (cd = 8 ∧ d = false ∧ st = 0 ∧ a' = a ∧ c.snt ≠ [] ∧ a.out.lst.length = 32)
section
variable {w W W':World} {F F5 V:Nat → Prop} {p:Nat} {m m':Em} {T:List Ob} {pa:Nat} {a:Am}
theorem sy_first {p4:Nat} {t:TypeId} {cs:Array Value} (h:En w F p m) (hu:Upd No w W) (hb:Blk W p4 t cs) (hp:w.heap.size ≤ p4):Sy w W F F (fun k => k = p4) p m [Ob.blk p4 t cs]:=
 ⟨h.quiet hu,star1 (Ob.blk_is hb),fun k hk => by subst hk; exact ⟨fun hf => by have:=h.lt _ hf; omega,hp⟩,fun k hk => .inl hk,hu.mono fun _ _ h => h.elim⟩
theorem sy_put {L:List Ob} {g:Nat} {t:TypeId} {cs:Array Value} (h:Sy w W F F5 V p m L) (i:Nat) (hi:L[i]? = some (Ob.blk g t cs)) (cs':Array Value):∃ V',Sy w (W.setRow g cs') F F5 V' p m (L.set i (Ob.blk g t cs')):=by
 obtain ⟨B,hb,hbV,hput⟩:=h.st.at_ i hi
 have hu:=Nd.Upd.setRow (w:=W) g cs'
 have hm:Mv B B W (W.setRow g cs'):=⟨hu.mono fun k _ e => (hb.2 k).2 e,fun k hk => .inl hk⟩
 obtain ⟨V',k1,k2⟩:=hput _ B (Ob.blk g t cs') hm ⟨Nd.Blk.row hb.1 cs',hb.2⟩
 have hs:=h.upd.size
 have hl:=h.en.lt
 exact ⟨V',h.en.upd hm.upd fun k hk hB => (h.vf k (hbV k hB)).1 hk,k1,fun k hk => (k2.sub k hk).elim (h.vf k) fun h9 => ⟨fun hf => by have:=hl k hf; omega,by omega⟩,h.sub,h.upd.trans hm.upd fun i hi hB => by have:=(h.vf i (hbV i hB)).2; omega⟩
theorem sy_blk {L:List Ob} {g:Nat} {t:TypeId} {cs:Array Value} (h:Sy w W F F5 V p m L) (i:Nat) (hi:L[i]? = some (Ob.blk g t cs)):Blk W g t cs:=by
 obtain ⟨_,h1,_⟩:=Star.own h.st i hi
 exact h1.1
theorem sy_new {L:List Ob} {t:TypeId} {cs:Array Value} (h:Sy w W F F5 V p m L) (hW:W' = W.alloc (.cells cs t)):∃ V',Sy w W' F F5 V' p m (Ob.blk W.heap.size t cs :: L):=by
 subst hW
 exact h.push ((Upd.refl No W).alloc _) (Ob.blk_is (Blk.fresh W t cs)) fun k hk => by omega
theorem en_prog {ns:List ByteArray} {cs:List Ins} (h:En W F5 p m) (hpo:m.po = prO ns cs):∃ u v,W.cell? ⟨p,6,none⟩ = some u ∧ W.cell? ⟨p,7,none⟩ = some v ∧ W.cell? ⟨p,5,none⟩ = some (.int .i64 m.clock) ∧ Pg W u v ns cs:=by
 obtain ⟨e,hs⟩:=h.ex
 obtain ⟨B,hb,_⟩:=Star.own hs 0 rfl
 obtain ⟨_,h1,_⟩:=Star.own hs 7 (o:=m.po e.v6 e.v7) rfl
 rw [hpo] at h1
 have hc:=ecells hb.1
 exact ⟨e.v6,e.v7,hc.2.2.1,hc.2.2.2.1,hc.2.1,h1.1⟩
theorem sy_turn {L:List Ob} {o o':Ob} (h:Sy w W F F5 V p m (o :: L)):∃ G,o.is W G ∧ (∀ k,F5 k → ¬ G k) ∧ ∀ W' G',Mv G G' W W' → o'.is W' G' → ∃ V',Sy w W' F F5 V' p m (o' :: L):=by
 obtain ⟨G,h1,hGV,hput⟩:=h.st.at_ 0 (o:=o) rfl
 refine ⟨G,h1,fun k hk hG => (h.vf k (hGV k hG)).1 hk,fun W' G' hm ho => ?_⟩
 obtain ⟨V',h2,h3⟩:=hput W' G' o' hm ho
 have hl:=h.en.lt
 have hs:=h.upd.size
 exact ⟨V',h.en.upd hm.upd fun k hk hA => (h.vf k (hGV k hA)).1 hk,h2,fun k hk => (h3.sub k hk).elim (h.vf k) fun h9 => ⟨fun hf => by have:=hl k hf; omega,by omega⟩,h.sub,h.upd.trans hm.upd fun i hi hA => by have:=(h.vf i (hGV i hA)).2; omega⟩
theorem cell_kp {H:Nat → Prop} {c:Addr} {u:Value} (h:W.cell? c = some u) (hu:Upd H W W') (hn:¬ H c.block):W'.cell? c = some u:=by
 have hl:c.block < W.heap.size:=by
  rcases Nat.lt_or_ge c.block W.heap.size with h1 | h1
  · exact h1
  · unfold World.cell? at h
    rw [Array.getElem?_eq_none h1] at h
    cases h
 rw [hu.cell hl hn]
 exact h
theorem en_here (h:En W F5 p m):F5 p:=by
 obtain ⟨e,hs⟩:=h.ex
 obtain ⟨B,hb,hB⟩:=Star.own hs 0 rfl
 exact hB _ ((hb.2 _).2 rfl)
theorem sy_ne {L:List Ob} {g:Nat} {t:TypeId} {cs:Array Value} (h:Sy w W F F5 V p m L) (i:Nat) (hi:L[i]? = some (Ob.blk g t cs)):¬ p = g:=by
 obtain ⟨B,h1,hB⟩:=Star.own h.st i hi
 intro e
 subst e
 exact (h.vf _ (hB _ ((h1.2 _).2 rfl))).1 (en_here h.en)
structure Ec (W:World) (p:Nat) (u v:Value):Prop where
 prog:W.cell? ⟨p,6,none⟩ = some u ∧ W.cell? ⟨p,7,none⟩ = some v
 clock:W.cell? ⟨p,5,none⟩ = some (.int .i64 0)
theorem Ec.keep {u v:Value} {H:Nat → Prop} (h:Ec W p u v) (hu:Upd H W W') (hn:¬ H p):Ec W' p u v:=⟨⟨cell_kp h.prog.1 hu hn,cell_kp h.prog.2 hu hn⟩,cell_kp h.clock hu hn⟩
def TsOut (w W:World) (F F5:Nat → Prop) (p:Nat) (m:Em) (L:List Ob) (cd:Int) (oc:Array Value) (e:Ending) (w':World):Prop:=e = .returned (.tuple #[.agg oc,.int .i64 cd]) ∧ (∃ V',Sy w w' F F5 V' p m L) ∧ ∃ H,Upd H W w' ∧ ¬ H p
theorem sy_take {ns:List ByteArray} {cs:List Ins} {x:L} {r:List L} {n:Nat} {Tt:Nat → Mst} {u v:Value} {cd st:Int} {d:Bool} {a':Am} (h:Sy w W F F5 V p m (acO (pa,a) :: T)) (hok:a.ok BB) (hp:Pg W u v ns cs) (hq:Tq a ns cs x r n Tt) (he:Te a (Tt n) cd d st a') :
 Calls Tryz.prog 56 #[.agg #[u,v],.pointer (some ⟨pa,0,none⟩),.int .i64 0] W fun e w' => TsOut w W F F5 p m (acO (pa,a') :: T) cd (ocm d st) e w':=by
 obtain ⟨G,hat,hFG,hput⟩:=sy_turn h (o':=acO (pa,a'))
 refine (Tu.take_ ⟨hat,hok,hp,hq.n8,hq.c200,hq.kk,hq.gi,hq.inb,hq.fm,hq.t0,hq.tr W u v hp,hq.one,hq.ev,hq.sk,hq.room⟩).mono ?_
 rintro e w' (⟨h1,rfl,G',h2,h3⟩ | ⟨h1,h2,rfl,h3⟩)
 · rcases he with ⟨rfl,rfl,rfl,rfl,_⟩ | ⟨_,_,_,_,h5,h6⟩
   · obtain ⟨V',hs⟩:=hput w' G' h3 h2
     exact ⟨rfl,⟨V',hs⟩,G,h3.upd,hFG p (en_here h.en)⟩
   · exact absurd h1 (by rintro (h9 | h9); exact h5 h9; have h7:a.out.lst.length < 32:=h9; omega)
 · rcases he with ⟨_,_,_,_,h5⟩ | ⟨rfl,rfl,rfl,rfl,_⟩
   · exact absurd h5 (by rintro (h9 | h9); exact h1 h9; have h7:a.out.lst.length = 32:=h2; omega)
   · exact ⟨rfl,⟨_,h.quiet h3⟩,No,h3,no_ _⟩
end
def PkOut (w:World) (F:Nat → Prop) (p:Nat) (m:Em) (k:ByteArray) (cd:Int) (d:Bool) (st:Int) (a':Am) (e:Ending) (w':World):Prop:=e = .returned (.tuple #[.agg (ocm d st),.int .i64 cd]) ∧ Kept w F p (if cd = 0 then m.picked k a' else m.loaded k) w'
theorem PkOut.of {w:World} {F:Nat → Prop} {p:Nat} {m:Em} {k:ByteArray} {cd st:Int} {d:Bool} {a':Am} {e:Ending} {w':World} (h:e = .returned (.tuple #[.agg (ocm d st),.int .i64 cd]) ∧ Kept w F p (if cd = 0 then m.picked k a' else m.loaded k) w'):PkOut w F p m k cd d st a' e w':=h
set_option maxRecDepth 100000 in
theorem pick_ {w:World} {F:Nat → Prop} {p:Nat} {m:Em} (h:En w F p m) (htd:m.tidy) {k:ByteArray} (hk:Kk k) (hn:m.n + 210 ≤ 400000) {ns:List ByteArray} {cs:List Ins} (hpo:m.po = prO ns cs) (hcl:m.clock = 0) {x:L} {r:List L} {n:Nat} {Tt:Nat → Mst} (hq:Tq (m.act k) ns cs x r n Tt) {cd st:Int} {d:Bool} {a':Am} (he:Te (m.act k) (Tt n) cd d st a')
 (hok:a'.ok BB ∧ (a'.jn.2.2 = 0 → a'.jn = Jn.s0)) (hroom:Gp.nbl (encL (chs [(0,a')] none none)) ≤ m.bk.lg.count - m.bk.lg.used) :
 Calls Tryz.prog 10 #[.pointer (some ⟨p,0,none⟩),.string k] w fun e w' => PkOut w F p m k cd d st a' e w':=by
 obtain ⟨w1,p4,hw1,hp4⟩:∃ w1 p4,w1 = w.alloc (.cells (ocm false 0) 43) ∧ p4 = w.heap.size:=⟨_,_,rfl,rfl⟩
 have hu1:Upd No w w1:=by rw [hw1]; exact (Upd.refl _ _).alloc _
 have hs1:=sy_first h hu1 (show Blk w1 p4 43 (ocm false 0) by rw [hw1,hp4]; exact Blk.fresh _ _ _) (by omega)
 have HS1:=hid hs1
 have HG:=hid (gone_ hs1.en)
 have HK:=hid (fun W => Nd.key_ k W)
 have hkb:=kk_key hk
 rw [hkb] at HK
 have HL:=hid (load_ hs1.en htd hk (by omega))
 have HH:=hid (And.intro h (And.intro hk (And.intro hn (And.intro hq (And.intro he (And.intro hok hroom))))))
 have HPo:=hid (And.intro (show (m.loaded k).po = prO ns cs from hpo) (show (m.loaded k).clock = 0 from hcl))
 unfold ocm at hw1
 have HW1:=hid (And.intro hw1 hp4)
 clear h htd hk hn hpo hcl hq he hok hroom hw1 hp4 hu1 hs1 hkb
 go_enter Tryz.func10,Tryz.ntmps10
 go_wp2_with (fail)
 rw [← HW1.out.1]
 try rw [← HW1.out.2]
 clear HW1
 refine Calls.mono HG.out ?_
 rintro e w2 ⟨rfl,rfl⟩
 go_wp2_with (fail)
 refine Calls.mono (HK.out _) ?_
 rintro e w2 ⟨rfl,rfl⟩
 go_wp2_with (fail)
 refine Calls.mono HL.out ?_
 rintro e w5 ⟨qa,G5,F5,rfl,hat5,hen5,hm5⟩
 have HC:=hid (Ac.copied hat5 (HH.out.1.ok.act HH.out.2.1) (by unfold BB; omega))
 obtain ⟨F6,hs5⟩:=HS1.out.kept ⟨F5,hen5,hm5⟩
 have HS5:=hid hs5
 clear hat5 hen5 hm5 hs5 HL HG HK HS1
 go_wp2_with (fail)
 refine Calls.mono HC.out ?_
 rintro e w6 ⟨pa,G6,rfl,hat6,hf6,hu6⟩
 obtain ⟨V6,hs6⟩:=HS5.out.push (o:=acO (pa,m.act k)) hu6 hat6 hf6
 have HS6:=hid (hs6.quiet (Upd.refl _ _).drew)
 clear hat6 hf6 hu6 hs6 HC HS5
 go_wp2_with (fail)
 obtain ⟨u,v,c6,c7,c5,hp⟩:=en_prog HS6.out.en HPo.out.1
 obtain ⟨A1,a1,A2,a2,hue,hve,_⟩:=hp.ex
 subst hue hve
 rw [HPo.out.2] at c5
 have HEc:=hid (show Ec w6.drew p (.slice A1 ns.length a1) (.slice A2 cs.length a2) from ⟨⟨c6,c7⟩,c5⟩)
 have HTk:=hid fun W V T (hs:Sy w W F F6 V p (m.loaded k) (acO (pa,m.act k) :: T)) (hu:Upd No w6.drew W) => sy_take (cd:=cd) (d:=d) (st:=st) (a':=a') hs (HH.out.1.ok.act HH.out.2.1) (hp.quiet hu) HH.out.2.2.2.1 HH.out.2.2.2.2.1
 have hSy:=HS6.out
 clear c6 c7 c5 hp
 refine wp_region_held_drew (S:=fun W => Ec W p (.slice A1 ns.length a1) (.slice A2 cs.length a2)) (by kernel_rfl) HEc.out (fun hS => ?_)
 generalize w6.drew = w7 at *
 have hU:=Upd.refl No w7
 refine zt 0 hS ?_
 refine zt 1 hS ?_
 refine zt 2 hS ?_
 refine zh 3 hS (fun w hw => hw.prog) ?_
 refine zt 4 hS ?_
 refine zt 5 hS ?_
 refine zt 6 hS ?_
 refine zt 7 hS ?_
 refine zh 8 hS (fun w hw => hw.clock) ?_
 refine rg_two 9 13 (by kernel_rfl) ?_ ?_
 focus
  refine zs 9 (fun K hK => ?_)
  go_simp
  refine Calls.mono (HTk.out _ _ _ hSy hU) ?_
  rintro e9 W9 ⟨rfl,⟨V9,hSy9⟩,H9,hu9,hn9⟩
  have hSy:=hSy9
  clear hSy9
  go_wp2_with (fail)
  refine hK.out _ _ ((by exact hS.keep hu9 hn9)) (fun hS => ?_)
  clear hK K
  try simp only [Act.put,zA,zB,zC]
  refine zt 10 hS ?_
  refine zt 11 hS ?_
  refine zt 12 hS ?_
  refine zk 13 (fun K hK => ?_)
  go_simp
  refine hK.out _ _ ((by exact hS.keep ((Upd.refl No _).alloc _) (no_ _))) (fun hS => ?_)
  clear hK K
  try simp only [Act.put,zA,zB,zC]
  refine rg_world fun Wa hWa => ?_
  obtain ⟨Va,hSya⟩:=sy_new hSy hWa
  have hSy:=hSya.swap
  try have hU:=(show Upd No w7 Wa by rw [hWa]; exact hU.alloc _)
  have hb8:=sx_b hWa
  rw [← hWa] at hS
  clear hSya hWa
  refine zk 14 (fun K hK => ?_)
  refine wp_store_row 43 (.tmp 8) (.tmp 40) (by rfl) _ (ocm d st) (by rfl) (by rfl) 43 _ (sy_blk hSy 1 rfl) (by kernel_rfl) (by rfl) (by simp [ocm,Value.oneCell']) ?_
  refine hK.out _ _ ((by exact hS.keep (Nd.Upd.setRow _ _) (sy_ne hSy 1 rfl))) (fun hS => ?_)
  clear hK K
  try simp only [Act.put,zA,zB,zC]
  refine rg_world fun W10 hW10 => ?_
  obtain ⟨V10,hSy10⟩:=sy_put hSy 1 rfl (ocm d st)
  rw [← hW10] at hSy10 hS
  clear hW10
  refine zt 15 hS ?_
  refine wpAnyH_done (by kernel_rfl) ?_ _
 rotate_left 1
 focus
  refine zs 13 (fun K hK => ?_)
  go_simp
  refine hK.out _ _ ((by exact hS.keep ((Upd.refl No _).alloc _) (no_ _))) (fun hS => ?_)
  clear hK K
  try simp only [Act.put,zA,zB,zC]
  refine rg_world fun Wa hWa => ?_
  obtain ⟨Va,hSya⟩:=sy_new hSy hWa
  have hSy:=hSya.swap
  try have hU:=(show Upd No w7 Wa by rw [hWa]; exact hU.alloc _)
  have hb8:=sx_b hWa
  rw [← hWa] at hS
  clear hSya hWa
  refine zk 9 (fun K hK => ?_)
  go_simp
  refine Calls.mono (HTk.out _ _ _ hSy hU) ?_
  rintro e9 W9 ⟨rfl,⟨V9,hSy9⟩,H9,hu9,hn9⟩
  have hSy:=hSy9
  clear hSy9
  go_wp2_with (fail)
  refine hK.out _ _ ((by exact hS.keep hu9 hn9)) (fun hS => ?_)
  clear hK K
  try simp only [Act.put,zA,zB,zC]
  refine zt 10 hS ?_
  refine zt 11 hS ?_
  refine zt 12 hS ?_
  refine zk 14 (fun K hK => ?_)
  refine wp_store_row 43 (.tmp 8) (.tmp 40) (by rfl) _ (ocm d st) (by rfl) (by rfl) 43 _ (sy_blk hSy 1 rfl) (by kernel_rfl) (by rfl) (by simp [ocm,Value.oneCell']) ?_
  refine hK.out _ _ ((by exact hS.keep (Nd.Upd.setRow _ _) (sy_ne hSy 1 rfl))) (fun hS => ?_)
  clear hK K
  try simp only [Act.put,zA,zB,zC]
  refine rg_world fun W10 hW10 => ?_
  obtain ⟨V10,hSy10⟩:=sy_put hSy 1 rfl (ocm d st)
  rw [← hW10] at hSy10 hS
  clear hW10
  refine zt 15 hS ?_
  refine wpAnyH_done (by kernel_rfl) ?_ _
 all_goals
  simp only [List.set_cons_succ,List.set_cons_zero] at hSy10
  have hEx:∃ g,g = _ ∧ Blk W10 g 43 (ocm d st):=⟨_,rfl,sy_blk hSy10 1 rfl⟩
  obtain ⟨p8,hp8,hb10⟩:=hEx
  rw [← hp8] at hSy10 ⊢
  have HS10:=hid hSy10
  have e0:∀ o o',((W10.alloc o).alloc o').cell? ⟨p8,0,none⟩ = some (.bool d):=fun o o' => ((hb10.alloc o).alloc o').cell 0
  have e4:∀ o o',((W10.alloc o).alloc o').cell? ⟨p8,4,none⟩ = some (.slice none 0 0):=fun o o' => ((hb10.alloc o).alloc o').cell 4
  have he:=HH.out.2.2.2.2.1
  clear hS hSy10 hSy hp8 hb10 HTk HEc
  rcases he with ⟨h1,h2,h3⟩ | ⟨h1,h2,h3⟩
  · clear h3
    subst h1 h2
    have HCm:=hid fun W11 (hW11:W11 = (W10.alloc (.cells #[.pointer (some ⟨pa,0,none⟩)] 49)).alloc (.cells #[.slice (some ⟨W10.heap.size,0,none⟩) 1 1,.pointer none,.pointer none,.slice none 0 0] 143)) =>
     sy_commit1 (W:=W11) (A:=some ⟨W10.heap.size,0,none⟩) (c:=1) (HS10.out.quiet (show Upd No W10 W11 by rw [hW11]; exact ((Upd.refl _ _).alloc _).alloc _)) (loaded_tidy _ _) (by rw [hW11]; exact (Rd_lit W10 49 1 1 [.pointer (some ⟨pa,0,none⟩)] rfl).alloc (by omega) _) (fun ad e hf => by injection e with e; subst e; exact absurd (HS10.out.en.lt _ hf) (Nat.lt_irrefl _)) ⟨Nat.le_refl _,by simp [maxLen]⟩ HH.out.2.2.2.2.2.1 (by have:=HH.out.2.2.1; show m.n + 1 + 200 ≤ 400000; omega) HH.out.2.2.2.2.2.2
    go_wp2_with (fail)
    refine Calls.mono (HCm.out _ rfl) ?_
    rintro e12 W12 ⟨rfl,F7,V7,hs12⟩
    have g0:W12.cell? ⟨p8,0,none⟩ = some (.bool true):=(sy_blk hs12 0 rfl).cell 0
    obtain ⟨e14,hst14,hc14⟩:=count_ hs12.en
    obtain ⟨B14,hb14,_⟩:=Star.own hst14 0 rfl
    have c8:=(ecells hb14.1).2.2.2.2.1
    have HC0:=hid (show Calls Tryz.prog 55 #[.pointer (some ⟨e14.pc,0,none⟩),.int .i64 1,.int .u64 1] W12 _ from hc14 1 (by omega))
    have HS12:=hid hs12
    clear hs12 hst14 hc14 hb14 HCm e0 e4
    go_wp2_with (fail)
    refine Calls.mono HC0.out ?_
    rintro e15 W15 ⟨n15,rfl,hk15⟩
    obtain ⟨F16,hs15⟩:=HS12.out.kept hk15
    have hb8:=sy_blk hs15 0 rfl
    unfold ocm at hb8
    have s0:W15.cell? ⟨p8,0,none⟩ = some (.bool true):=hb8.cell 0
    have s1:W15.cell? ⟨p8,1,none⟩ = some (.bool false):=hb8.cell 1
    have s2:W15.cell? ⟨p8,2,none⟩ = some (.int .i64 0):=hb8.cell 2
    have s3:W15.cell? ⟨p8,3,none⟩ = some (.int .i64 st):=hb8.cell 3
    have s4:W15.cell? ⟨p8,4,none⟩ = some (.slice none 0 0):=hb8.cell 4
    have HB4:=hid (sy_blk hs15 1 rfl)
    obtain ⟨V16,hs16⟩:=sy_put hs15 1 rfl (ocm true st)
    have HS16:=hid hs16
    clear hs15 hb8 hs16 hk15 HC0 c8 g0
    go_wp2_with (refine wpList_store_row rfl 43 (.tmp 4) (.tmp 111) rfl p4 (ocm true st) rfl rfl 43 _ HB4.out (by kernel_rfl) (by rfl) (by simp [ocm,Value.oneCell']) ?_)
    have hq:=sy_blk HS16.out 1 rfl
    unfold ocm at hq
    have q0:World.cell? _ ⟨p4,0,none⟩ = some _:=hq.cell 0
    have q1:World.cell? _ ⟨p4,1,none⟩ = some _:=hq.cell 1
    have q2:World.cell? _ ⟨p4,2,none⟩ = some _:=hq.cell 2
    have q3:World.cell? _ ⟨p4,3,none⟩ = some _:=hq.cell 3
    have q4:World.cell? _ ⟨p4,4,none⟩ = some _:=hq.cell 4
    clear hq s0 s1 s2 s3 s4
    exact bodyPost_ret (v:=.tuple #[.agg (ocm true st),.int .i64 0]) (by simp [results,go_sem,ocm,q0,q1,q2,q3,q4]) rfl (PkOut.of (d:=true) (st:=st) ⟨rfl,by rw [if_pos rfl]; exact HS16.out.fin⟩)
  · clear h3
    subst h1 h2
    have HQ:=hid fun W11 (hW11:W11 = (W10.alloc (.cells #[.pointer (some ⟨pa,0,none⟩)] 49)).alloc (.cells #[.slice (some ⟨W10.heap.size,0,none⟩) 1 1,.pointer none,.pointer none,.slice none 0 0] 143)) => HS10.out.quiet (show Upd No W10 W11 by rw [hW11]; exact ((Upd.refl _ _).alloc _).alloc _)
    go_wp2_with (fail)
    refine Calls.mono (end_ (HQ.out _ rfl).en 8 (by decide) (by decide)) ?_
    rintro e15 W15 ⟨rfl,hk15⟩
    obtain ⟨F16,hs15⟩:=(HQ.out _ rfl).kept hk15
    have HB4:=hid (sy_blk hs15 2 rfl)
    obtain ⟨V16,hs16⟩:=sy_put hs15 2 rfl (ocm false 0)
    have HS16:=hid hs16
    clear hs15 hs16 hk15 e0 e4
    go_wp2_with (refine wpList_store_row rfl 43 (.tmp 4) (.tmp 99) rfl p4 (ocm false 0) rfl rfl 43 _ HB4.out (by kernel_rfl) (by rfl) (by simp [ocm,Value.oneCell']) ?_)
    have hq:=sy_blk HS16.out 2 rfl
    unfold ocm at hq
    have q0:World.cell? _ ⟨p4,0,none⟩ = some _:=hq.cell 0
    have q1:World.cell? _ ⟨p4,1,none⟩ = some _:=hq.cell 1
    have q2:World.cell? _ ⟨p4,2,none⟩ = some _:=hq.cell 2
    have q3:World.cell? _ ⟨p4,3,none⟩ = some _:=hq.cell 3
    have q4:World.cell? _ ⟨p4,4,none⟩ = some _:=hq.cell 4
    have hst:st = 0:=by
     rcases HH.out.2.2.2.2.1 with ⟨h9,_⟩ | ⟨_,_,h9,_⟩
     · exact absurd h9 (by decide)
     · exact h9
    clear hq
    exact bodyPost_ret (v:=.tuple #[.agg (ocm false 0),.int .i64 8]) (by simp [results,go_sem,ocm,q0,q1,q2,q3,q4]) rfl (PkOut.of (d:=false) (st:=st) ⟨by rw [hst],by rw [if_neg (by decide)]; exact HS16.out.fin⟩)
end Eg
end
section
namespace Eg
open Go.RowKit B Cm Cr Cw Ou Lt Lc
open Ac (Am Aw fresh fresh_ok encA encA_le encA_byte freshB)
open Bo (Bp Bm Cg bst La Vb Cl ccells bare encL sizeC)
open Nd (Rm Inv)
section
variable {w W W':World} {F F5 V:Nat → Prop} {p:Nat} {m m':Em} {T:List Ob} {pa pb:Nat} {a b:Am}
theorem sy_none (h:En w F p m):Sy w w F F No p m []:=⟨h,fun _ h => h.elim,fun _ h => h.elim,fun _ h => .inl h,Upd.refl _ _⟩
theorem Sy.front {o:Ob} {l2:List Ob} (l1:List Ob) (h:Sy w W F F5 V p m (l1 ++ o :: l2)):Sy w W F F5 V p m (o :: (l1 ++ l2)):=⟨h.en,Star.perm List.perm_middle h.st,h.vf,h.sub,h.upd⟩
theorem Sy.add {L:List Ob} {o:Ob} {G:Nat → Prop} (h:Sy w W F F5 V p m L) (ho:o.is W G) (hG:∀ k,G k → ¬ V k ∧ ¬ F5 k ∧ w.heap.size ≤ k):∃ V',Sy w W F F5 V' p m (o :: L):=
 ⟨fun k => G k ∨ V k,h.en,⟨G,V,ho,h.st,fun k hg hv => (hG k hg).1 hv,fun k hk => .inl hk,fun k hk => .inr hk,fun k hk => hk.elim (o.lt ho k) (h.st.lt k)⟩,fun k hk => hk.elim (fun h9 => (hG k h9).2) (h.vf k),h.sub,h.upd⟩
theorem sy_turn0 {L:List Ob} {o o':Ob} (h:Sy w W F F5 V p m (o :: L)):∃ G,o.is W G ∧ (∀ k,G k → V k) ∧ ∀ W' G',Upd G W W' → (∀ k,G' k → G k) → o'.is W' G' → ∃ V',Sy w W' F F5 V' p m (o' :: L) ∧ ∀ k,V' k → V k:=by
 obtain ⟨G,h1,hGV,hput⟩:=Star.grow h.st 0 (o:=o) rfl
 refine ⟨G,h1,hGV,fun W' G' hu hg ho => ?_⟩
 obtain ⟨V',h2,h3⟩:=hput W' G' o' hu (fun k hk => .inl (hg k hk)) ho
 have hv:∀ k,V' k → V k:=fun k hk => (h3 k hk).elim id fun h9 => hGV k (hg k h9)
 have hs:=h.upd.size
 exact ⟨V',⟨h.en.upd hu fun k hk hA => (h.vf k (hGV k hA)).1 hk,h2,fun k hk => h.vf k (hv k hk),h.sub,h.upd.trans hu fun i hi hA => by have:=(h.vf i (hGV i hA)).2; omega⟩,hv⟩
theorem at_out (h:Ac.At W V pa a):∃ po B n,W.cell? ⟨pa,2,none⟩ = some (.pointer (some ⟨po,0,none⟩)) ∧ Ot W B po a.out n ∧ (∀ k,B k → V k) ∧ ∀ W' mo,Ot W' B po mo n → Upd B W W' → ∃ V',Ac.At W' V' pa { a with out:=mo } ∧ ∀ k,V' k → V k:=by
 obtain ⟨pj,pi,po,n,v,h⟩:=h
 obtain ⟨B,h1,hB,hput⟩:=Star.grow h.st 3 (o:=Ac.otO po a.out n) rfl
 refine ⟨po,B,n,h.cells.2.2.1,h1,hB,fun W' mo ho hu => ?_⟩
 obtain ⟨V',k1,k2⟩:=hput W' B (Ac.otO po mo n) hu (fun k hk => .inl hk) ho
 exact ⟨V',⟨pj,pi,po,n,v,k1,h.few⟩,fun k hk => (k2 k hk).elim id (hB k)⟩
def RpOut (w W:World) (F F5:Nat → Prop) (p:Nat) (m:Em) (pa:Nat) (a:Am) (x:Oe) (T:List Ob) (e:Ending) (w':World):Prop:=∃ u V',e = .returned (.tuple #[.agg (oval x u),.bool true]) ∧ Sy w w' F F5 V' p m (inO x.2 u :: acO (pa,{ a with out:=popO a.out }) :: T)
theorem sy_opop {x:Oe} {r:List Oe} (h:Sy w W F F5 V p m (acO (pa,a) :: T)) (hok:a.ok BB) (hm:a.out.lst = x :: r) (hl:x.2.2.2.2.length ≤ 1000):∃ po,W.cell? ⟨pa,2,none⟩ = some (.pointer (some ⟨po,0,none⟩)) ∧
 Calls Tryz.prog 60 #[.pointer (some ⟨po,0,none⟩)] W fun e w' => RpOut w W F F5 p m pa a x T e w':=by
 obtain ⟨G,hat,hGV,hput⟩:=sy_turn0 h (o':=acO (pa,{ a with out:=popO a.out }))
 obtain ⟨po,B,n,hc,hot,hB,hfin⟩:=at_out hat
 refine ⟨po,hc,(pop_some hot hok.out.key hm hl).mono ?_⟩
 rintro e w' ⟨u,rfl,hin,hot',hu,hf⟩
 obtain ⟨G',hat',hG'⟩:=hfin w' (popO a.out) hot' hu
 obtain ⟨V',hs,hV⟩:=hput w' G' (hu.mono fun k _ hk => hB k hk) hG' hat'
 have hl1:=h.st.lt
 have hl2:=h.en.lt
 have hz:=h.upd.size
 obtain ⟨V2,hs2⟩:=hs.add (o:=inO x.2 u) (G:=fun k => u.ownBlock = some k) ⟨hin,fun k hk => hk,fun k hk => (hf k hk).2⟩ fun k hk => by
  have h9:=(hf k hk).1
  exact ⟨fun hv => by have:=hl1 k (hV k hv); omega,fun hf5 => by have:=hl2 k hf5; omega,by omega⟩
 exact ⟨u,V2,rfl,hs2⟩
theorem sy_onone (h:Sy w W F F5 V p m (acO (pa,a) :: T)) (hok:a.ok BB) (hm:a.out.lst = []):∃ po,W.cell? ⟨pa,2,none⟩ = some (.pointer (some ⟨po,0,none⟩)) ∧
 Calls Tryz.prog 60 #[.pointer (some ⟨po,0,none⟩)] W fun e w' => e = .returned (.tuple #[.agg oz,.bool false]) ∧ Upd No W w':=by
 obtain ⟨G,hat,hGV⟩:=Star.own h.st 0 (o:=acO (pa,a)) rfl
 obtain ⟨po,B,n,hc,hot,hB,hfin⟩:=at_out hat
 exact ⟨po,hc,pop_none hot hok.out.key hm⟩
def slO (v:Value) (t:TypeId) (n:Nat) (xs:List Value):Ob:=⟨fun w F => Sl w 0 t 1 v n xs ∧ (∀ k,v.ownBlock = some k → F k) ∧ ∀ k,F k → k < w.heap.size,fun h hu hn => ⟨h.1.upd hu fun g hg => hn g (h.2.1 g hg),h.2.1,fun k hk => Nat.lt_of_lt_of_le (h.2.2 k hk) hu.size⟩,fun h => h.2.2⟩
theorem sy_sl {L:List Ob} {v:Value} {t:TypeId} {n:Nat} {xs:List Value} (h:Sy w W F F5 V p m L) (i:Nat) (hi:L[i]? = some (slO v t n xs)):Sl W 0 t 1 v n xs ∧ ∀ k,v.ownBlock = some k → ¬ F5 k:=by
 obtain ⟨G,h1,hG⟩:=Star.own h.st i hi
 exact ⟨h1.1,fun k hk => (h.vf k (hG k (h1.2.1 k hk))).1⟩
theorem sy_row1 {L:List Ob} {t:TypeId} {x:Value} (h:Sy w W F F5 V p m L) (hW:W' = W.alloc (.cells #[x] t)):∃ V',Sy w W' F F5 V' p m (slO (.slice (some ⟨W.heap.size,0,none⟩) 1 1) t 1 [x] :: L):=by
 subst hW
 refine h.push (G:=fun k => k = W.heap.size) ((Upd.refl No W).alloc _) ⟨⟨rfl,.inr ⟨W.heap.size,0,1,#[x],rfl,Nat.zero_le _,Blk.fresh W t #[x],Nat.le_refl _,by simp [maxLen],by simp,fun j u hj => by simpa using hj⟩⟩,fun k hk => by simpa [Value.ownBlock] using hk.symm,fun k hk => by subst hk; simp⟩ fun k hk => by omega
theorem sy_grow {L:List Ob} {v v':Value} {t:TypeId} {n n':Nat} {xs ys:List Value} (h:Sy w W F F5 V p m (slO v t n xs :: L)) {Wa:World} (hua:Upd No W Wa) (hs:Sl W' 0 t 1 v' n' ys) (hu:Upd (fun k => v.ownBlock = some k) Wa W') (hat:∀ g,v'.ownBlock = some g → v.ownBlock = some g ∨ Wa.heap.size ≤ g):∃ V',Sy w W' F F5 V' p m (slO v' t n' ys :: L):=by
 obtain ⟨G,hg,hFG,hput⟩:=sy_turn (h.quiet hua) (o':=slO v' t n' ys)
 have hz:=hu.size
 exact hput W' (fun k => G k ∨ v'.ownBlock = some k) ⟨hu.mono fun k _ hk => hg.2.1 k hk,fun k hk => hk.elim .inl fun h9 => (hat k h9).elim (fun h8 => .inl (hg.2.1 k h8)) .inr⟩ ⟨hs,fun k hk => .inr hk,fun k hk => hk.elim (fun h9 => Nat.lt_of_lt_of_le (hg.2.2 k h9) hz) fun h9 => (hs.lt k h9).2⟩
theorem sy_set {L:List Ob} {g:Nat} {t:TypeId} {cs:Array Value} (h:Sy w W F F5 V p m (Ob.blk g t cs :: L)) (i:Nat) (u:Value):∃ V',Sy w (W.setCell ⟨g,i,none⟩ u) F F5 V' p m (Ob.blk g t (cs.setIfInBounds i u) :: L):=by
 obtain ⟨G,hg,hFG,hput⟩:=sy_turn h (o':=Ob.blk g t (cs.setIfInBounds i u))
 obtain ⟨g1,g2⟩:=Ob.blk_put hg i u
 exact hput _ G g2 g1
end
end Eg
end
section
namespace Eg
open Go.RowKit B Cm Cr Cw Ou Lt Lc
open Ac (Am Aw fresh fresh_ok encA encA_le encA_byte freshB)
open Bo (Bp Bm Cg bst La Vb Cl ccells bare encL sizeC)
open Nd (Rm Inv)
set_option maxRecDepth 100000 in
theorem relay_none {w:World} {F:Nat → Prop} {p:Nat} {m:Em} (h:En w F p m) (htd:m.tidy) {k:ByteArray} (hk:Kk k) (hn:m.n + 210 ≤ 400000) (hl:(m.act k).out.lst = []) :
 Calls Tryz.prog 11 #[.pointer (some ⟨p,0,none⟩),.string k] w fun e w' => e = .returned (.tuple #[.string ⟨#[]⟩,.int .i64 5]) ∧ Kept w F p (m.loaded k) w':=by
 have HG:=hid (gone_ h)
 have HK:=hid (fun W => Nd.key_ k W)
 have hkb:=kk_key hk
 rw [hkb] at HK
 have HL:=hid (load_ h htd hk (by omega))
 have HH:=hid (And.intro h (And.intro hk hl))
 clear h htd hk hn hl hkb
 go_enter Tryz.func11,Tryz.ntmps11
 go_wp2_with (fail)
 refine Calls.mono HG.out ?_
 rintro e w2 ⟨rfl,rfl⟩
 go_wp2_with (fail)
 refine Calls.mono (HK.out _) ?_
 rintro e w2 ⟨rfl,rfl⟩
 go_wp2_with (fail)
 refine Calls.mono HL.out ?_
 rintro e w5 ⟨qa,G5,F5,rfl,hat5,hen5,hm5⟩
 have HC:=hid (Ac.copied hat5 (HH.out.1.ok.act HH.out.2.1) (by unfold BB; omega))
 obtain ⟨F6,hs5⟩:=(sy_none HH.out.1).kept ⟨F5,hen5,hm5⟩
 have HS5:=hid hs5
 clear hat5 hen5 hm5 hs5 HL HG HK
 go_wp2_with (fail)
 refine Calls.mono HC.out ?_
 rintro e w6 ⟨pa,G6,rfl,hat6,hf6,hu6⟩
 obtain ⟨V6,hs6⟩:=HS5.out.push (o:=acO (pa,m.act k)) hu6 hat6 hf6
 obtain ⟨po,c2,hpop⟩:=sy_onone hs6 (HH.out.1.ok.act HH.out.2.1) HH.out.2.2
 have HP:=hid hpop
 have HS6:=hid hs6
 clear hat6 hf6 hu6 hs6 hpop HC HS5
 go_wp2_with (fail)
 refine Calls.mono HP.out ?_
 rintro e w7 ⟨rfl,hu7⟩
 have HQ:=hid fun o => HS6.out.quiet (hu7.alloc o)
 clear hu7 c2 HP
 unfold oz
 go_wp2_with (fail)
 refine Calls.mono (end_ (HQ.out _).en 5 (by decide) (by decide)) ?_
 rintro e w8 ⟨rfl,hk8⟩
 obtain ⟨F9,hs9⟩:=(HQ.out _).kept hk8
 have HF:=hid hs9.fin
 clear hs9 hk8
 go_wp2
 go_ret2
 exact ⟨rfl,HF.out⟩
def RlOut (w:World) (F:Nat → Prop) (p:Nat) (m:Em) (e:Ending) (w':World):Prop:=∃ s cd,e = .returned (.tuple #[.string s,.int .i64 cd]) ∧ Kept w F p m w'
theorem RlOut.of {w:World} {F:Nat → Prop} {p:Nat} {m:Em} {e:Ending} {w':World} (h:∃ s cd,e = .returned (.tuple #[.string s,.int .i64 cd]) ∧ Kept w F p m w'):RlOut w F p m e w':=h
set_option maxRecDepth 100000 in
theorem relay_ {w:World} {F:Nat → Prop} {p:Nat} {m:Em} (h:En w F p m) (htd:m.tidy) {k to:ByteArray} (hk:Kk k) (hk2:Kk to) (hne:k ≠ to) (hn:m.n + 220 ≤ 400000) {fr:ByteArray} {sn kd:Int} {l:List Int} {r:List Oe} (hl:(m.act k).out.lst = (to,fr,sn,kd,l) :: r) (hx:formed (fr,sn,kd,l) = true ∧ Wf (fr,sn,kd,l))
 (hok:({ m.act k with out:=popO (m.act k).out }:Am).ok BB ∧ ((m.act k).jn.2.2 = 0 → (m.act k).jn = Jn.s0)) (hroom:(m.act to).inb.length < 8 → Gp.nbl (encL (chs [(0,{ m.act k with out:=popO (m.act k).out }),(0,got (m.act to) (fr,sn,kd,l))] none none)) ≤ m.bk.lg.count - m.bk.lg.used) :
 Calls Tryz.prog 11 #[.pointer (some ⟨p,0,none⟩),.string k] w fun e w' => RlOut w F p (if (m.act to).inb.length < 8 then ((m.loaded k).loaded to).commit [(0,{ m.act k with out:=popO (m.act k).out }),(0,got (m.act to) (fr,sn,kd,l))] none none else (m.loaded k).loaded to) e w':=by
 have HG:=hid (gone_ h)
 have HK:=hid (fun W => Nd.key_ k W)
 have hkb:=kk_key hk
 rw [hkb] at HK
 have HL:=hid (load_ h htd hk (by omega))
 have HH:=hid (And.intro h (And.intro hk (And.intro hk2 (And.intro hn (And.intro hl (And.intro hx (And.intro hok hroom)))))))
 have hneq:(to.toList == k.toList) = false:=by
  rw [beq_eq_false_iff_ne]
  intro e
  rw [Nd.toList_data,Nd.toList_data] at e
  exact hne (ByteArray.ext (Array.toList_inj.1 e)).symm
 clear h htd hk hk2 hn hl hx hok hroom hkb hne
 go_enter Tryz.func11,Tryz.ntmps11
 go_wp2_with (fail)
 refine Calls.mono HG.out ?_
 rintro e w2 ⟨rfl,rfl⟩
 go_wp2_with (fail)
 refine Calls.mono (HK.out _) ?_
 rintro e w2 ⟨rfl,rfl⟩
 go_wp2_with (fail)
 refine Calls.mono HL.out ?_
 rintro e w5 ⟨qa,G5,F5,rfl,hat5,hen5,hm5⟩
 have HC:=hid (Ac.copied hat5 (HH.out.1.ok.act HH.out.2.1) (by unfold BB; omega))
 obtain ⟨F6,hs5⟩:=(sy_none HH.out.1).kept ⟨F5,hen5,hm5⟩
 have HS5:=hid hs5
 clear hat5 hen5 hm5 hs5 HL HG HK
 go_wp2_with (fail)
 refine Calls.mono HC.out ?_
 rintro e w6 ⟨pa,G6,rfl,hat6,hf6,hu6⟩
 obtain ⟨V6,hs6⟩:=HS5.out.push (o:=acO (pa,m.act k)) hu6 hat6 hf6
 obtain ⟨po,c2,hpop⟩:=sy_opop hs6 (HH.out.1.ok.act HH.out.2.1) HH.out.2.2.2.2.1 (by have h9:l.length ≤ 4:=(formed_le HH.out.2.2.2.2.2.1.1).2; show l.length ≤ 1000; omega)
 have HP:=hid hpop
 clear hat6 hf6 hu6 hs6 hpop HC HS5
 go_wp2_with (fail)
 refine Calls.mono HP.out ?_
 rintro e w7 ⟨u,V7,rfl,hs7⟩
 have hin7:=sy_in hs7 0 rfl
 obtain ⟨us,uc,hus,_⟩:=hin7
 subst hus
 obtain ⟨w8,p8,hw8,hp8⟩:∃ w8 p8,w8 = w7.alloc (.cells (oval (to,fr,sn,kd,l) (.slice us l.length uc)) 150) ∧ p8 = w7.heap.size:=⟨_,_,rfl,rfl⟩
 obtain ⟨V8,hs8⟩:=sy_new hs7 hw8
 rw [← hp8] at hs8
 obtain ⟨w9,ps,hw9,hps⟩:∃ w9 ps,w9 = w8.alloc (.cells #[.pointer (some ⟨pa,0,none⟩)] 49) ∧ ps = w8.heap.size:=⟨_,_,rfl,rfl⟩
 obtain ⟨V9,hs9⟩:=sy_row1 hs8 hw9
 rw [← hps] at hs9
 obtain ⟨w10,pu,hw10,hpu⟩:∃ w10 pu,w10 = w9.alloc (.cells #[.slice (some ⟨ps,0,none⟩) 1 1,.pointer none,.pointer none,.slice none 0 0] 143) ∧ pu = w9.heap.size:=⟨_,_,rfl,rfl⟩
 obtain ⟨V10,hs10⟩:=sy_new hs9 hw10
 rw [← hpu] at hs10
 have e8:ps = p8 + 1 ∧ pu = ps + 1:=by
  rw [hpu,hw9,hps,hw8,hp8]
  simp
 have HS10:=hid hs10
 unfold oval at hw8
 have HW:=hid (And.intro hw8 (And.intro hp8 (And.intro hw9 (And.intro hw10 e8))))
 clear hs7 hs8 hs9 hs10 hw8 hp8 hw9 hps hw10 hpu e8 c2 HP
 unfold oval
 go_wp2_with (fail)
 rw [← HW.out.1]
 try rw [← HW.out.2.1]
 try rw [← HW.out.2.2.2.2.1]
 rw [← HW.out.2.2.1,← HW.out.2.2.2.1]
 try rw [← HW.out.2.2.2.2.2]
 clear HW
 have HL2:=hid (load_ HS10.out.en (loaded_tidy m k) HH.out.2.2.1 (by have:=HH.out.2.2.2.1; show m.n + 1 < 400000; omega))
 refine Calls.mono HL2.out ?_
 rintro e w11 ⟨qb,G11,F11,rfl,hat11,hen11,hm11⟩
 have HC2:=hid (Ac.copied (a:=m.act to) hat11 (HH.out.1.ok.act HH.out.2.2.1) (by unfold BB; omega))
 obtain ⟨F12,hs11⟩:=HS10.out.kept ⟨F11,hen11,hm11⟩
 have g0:w11.cell? ⟨p8,0,none⟩ = some (.string to):=(sy_blk hs11 2 rfl).cell 0
 have HS11:=hid hs11
 clear hat11 hen11 hm11 hs11 HL2 HS10
 go_wp2_with (fail)
 refine Calls.mono HC2.out ?_
 rintro e w12 ⟨pb,G12,rfl,hat12,hf12,hu12⟩
 obtain ⟨V12,hs12⟩:=HS11.out.push (o:=acO (pb,m.act to)) hu12 hat12 hf12
 have HS12:=hid hs12
 have d0:w12.cell? ⟨pu,0,none⟩ = some (.slice (some ⟨ps,0,none⟩) 1 1):=(sy_blk hs12 1 rfl).cell 0
 have HSl:=hid (sy_sl hs12 2 rfl).1
 clear hat12 hf12 hu12 hs12 g0 HC2 HS11
 go_wp2_with (at_builtin; go_must (refine ap_sl 0 rfl (.tmp 54) (.tmp 56) 141 49 (.pointer none) 1 8 rfl Tryz.underlying141 (by kernel_rfl) rfl (by omega) (.slice (some ⟨ps,0,none⟩) 1 1) 1 [.pointer (some ⟨pa,0,none⟩)] (some ⟨w12.heap.size,0,none⟩) 1 1 [.pointer (some ⟨pb,0,none⟩)] rfl rfl (HSl.out.upd ((Upd.refl No w12).alloc _) fun _ _ => no_ _) (Rd_lit w12 _ 1 1 [.pointer (some ⟨pb,0,none⟩)] rfl) (by simp [Value.oneCell']) (by omega) (by omega) (Nat.zero_le _) ?_); intro A13 c13 w13 ho13 hu13 hat13; obtain ⟨V13,hs13⟩:=sy_grow (HS12.out.front [_,_]) ((Upd.refl No w12).alloc (.cells #[.pointer (some ⟨pb,0,none⟩)] 49)) ho13 hu13 hat13; have hb13:=sy_blk hs13 2 rfl; have d1:w13.cell? ⟨pu,0,none⟩ = some (.slice (some ⟨ps,0,none⟩) 1 1):=hb13.cell 0; have f1:=hb13.free 0; obtain ⟨V14,hs14⟩:=sy_set (hs13.front [_,_]) 0 (.slice A13 (1 + 1) c13); have HS14:=hid hs14; clear ho13 hu13 hat13 hs13 hb13 hs14)
 clear d0 d1 f1
 generalize w13.setCell ⟨pu,0,none⟩ (.slice A13 (1 + 1) c13) = w14 at *
 have HS15:Hid (Sy w w14 F F12 V14 p ((m.loaded k).loaded to) (acO (pb,m.act to) :: Ob.blk pu 143 #[.slice A13 2 c13,.pointer none,.pointer none,.slice none 0 0] :: slO (.slice A13 2 c13) 49 2 [.pointer (some ⟨pa,0,none⟩),.pointer (some ⟨pb,0,none⟩)] :: Ob.blk p8 150 (oval (to,fr,sn,kd,l) (.slice us l.length uc)) :: inO (fr,sn,kd,l) (.slice us l.length uc) :: acO (pa,{ m.act k with out:=popO (m.act k).out }) :: [])):=hid (HS14.out.front [_,_])
 have hpl:Ib.pushL (m.act to).inb (fr,sn,kd,l) = if (m.act to).inb.length < 8 then (0,(m.act to).inb ++ [(fr,sn,kd,l)]) else (7,(m.act to).inb):=by
  unfold Ib.pushL
  rw [if_pos HH.out.2.2.2.2.2.1.1]
 obtain ⟨pi,hpi,hpush⟩:=sy_push HS15.out
 have hpc:=(hpush w14.drew (Upd.refl _ _).drew).2 (fr,sn,kd,l) (.slice us l.length uc) (sy_in (HS15.out.quiet (Upd.refl _ _).drew) 4 rfl)
 have hcell:=(hpush w14.drew (Upd.refl _ _).drew).1
 have hb8:=(sy_blk HS15.out 3 rfl).drew
 rw [hpl] at hpc
 unfold Lt.val at hpc
 clear hpl hpi hpush HSl HS14 HS12
 by_cases h8:(m.act to).inb.length < 8
 case' pos => rw [if_pos h8] at hpc
 case' neg => rw [if_neg h8] at hpc
 all_goals
  have HPc:=hid hpc
  have H8:=hid h8
  clear hpc h8
  refine wp_region_held_drew (S:=fun W => W.cell? ⟨pb,1,none⟩ = some (.pointer (some ⟨pi,0,none⟩)) ∧ W.cell? ⟨p8,1,none⟩ = some (.string fr) ∧ W.cell? ⟨p8,2,none⟩ = some (.int .u64 sn) ∧ W.cell? ⟨p8,3,none⟩ = some (.int .i64 kd) ∧ W.cell? ⟨p8,4,none⟩ = some (.slice us l.length uc)) (by kernel_rfl) ⟨hcell,hb8.cell 1,hb8.cell 2,hb8.cell 3,hb8.cell 4⟩ (fun hS => ?_)
  generalize w14.drew = w15 at *
  refine zt 0 hS ?_
  refine zt 1 hS ?_
  refine zt 2 hS ?_
  refine zh 3 hS (fun w hw => hw.1) ?_
  refine zt 4 hS ?_
  refine zh 5 hS (fun w hw => hw.2) ?_
  refine zk 6 (fun K hK => ?_)
  go_simp
  refine Calls.mono HPc.out ?_
  rintro e16 W16 ⟨rfl,hc16,V16,hs16⟩
  go_wp2_with (fail)
  refine hK.out _ _ ((by exact ⟨hc16,(sy_blk hs16 3 rfl).cell 1,(sy_blk hs16 3 rfl).cell 2,(sy_blk hs16 3 rfl).cell 3,(sy_blk hs16 3 rfl).cell 4⟩)) (fun hS => ?_)
  clear hK K
  try simp only [Act.put,zA,zB,zC]
  refine zt 7 hS ?_
  refine wpAnyH_done (by kernel_rfl) ?_ _
  have HS16:=hid hs16
  clear hs16 hc16 hS hcell hb8 HPc
 · go_wp2_with (fail)
   refine Calls.mono (end_ HS16.out.en 7 (by decide) (by decide)) ?_
   rintro e17 W17 ⟨rfl,hk17⟩
   obtain ⟨F17,hs17⟩:=HS16.out.kept hk17
   have HF:=hid hs17.fin
   clear hs17 hk17
   go_wp2
   go_ret2
   exact .of ⟨_,_,rfl,by first | exact HF.out | (rw [if_neg H8.out]; exact HF.out)⟩
 · have u0:W16.cell? ⟨pu,0,none⟩ = some (.slice A13 2 c13):=(sy_blk HS16.out 1 rfl).cell 0
   have u1:W16.cell? ⟨pu,1,none⟩ = some (.pointer none):=(sy_blk HS16.out 1 rfl).cell 1
   have u2:W16.cell? ⟨pu,2,none⟩ = some (.pointer none):=(sy_blk HS16.out 1 rfl).cell 2
   have u3:W16.cell? ⟨pu,3,none⟩ = some (.slice none 0 0):=(sy_blk HS16.out 1 rfl).cell 3
   have hsl:=sy_sl HS16.out 2 rfl
   have hc9:2 ≤ c13 ∧ c13 ≤ maxLen:=by
    obtain ⟨_,_,e9,hc9,hm9⟩:=hsl.1.shape
    injection e9 with _ _ e9
    subst e9
    exact ⟨hc9,hm9⟩
   have HS17:Hid (Sy w W16 F F12 V16 p ((m.loaded k).loaded to) (acO (pa,{ m.act k with out:=popO (m.act k).out }) :: acO (pb,got (m.act to) (fr,sn,kd,l)) :: Ob.blk pu 143 #[.slice A13 2 c13,.pointer none,.pointer none,.slice none 0 0] :: slO (.slice A13 2 c13) 49 2 [.pointer (some ⟨pa,0,none⟩),.pointer (some ⟨pb,0,none⟩)] :: Ob.blk p8 150 (oval (to,fr,sn,kd,l) (.slice us l.length uc)) :: inO (fr,sn,kd,l) (.slice us l.length uc) :: [])):=hid (HS16.out.front [_,_,_,_,_])
   have hroom:Gp.nbl (encL (chs [(0,{ m.act k with out:=popO (m.act k).out }),(0,got (m.act to) (fr,sn,kd,l))] none none)) ≤ ((m.loaded k).loaded to).bk.lg.count - ((m.loaded k).loaded to).bk.lg.used:=HH.out.2.2.2.2.2.2.2 H8.out
   have HRm:=hid hroom
   clear hroom
   have HCm:=hid (sy_commit2 (a:={ m.act k with out:=popO (m.act k).out }) (b:=got (m.act to) (fr,sn,kd,l)) (A:=A13) (c:=c13) HS17.out (loaded_tidy _ _) hsl.1.rd (fun ad e => hsl.2 _ (by rw [e]; rfl)) hc9 HH.out.2.2.2.2.2.2.1 ⟨got_ok (HH.out.1.ok.act HH.out.2.2.1) HH.out.2.2.2.2.2.1 H8.out,HH.out.1.ok.zer _ HH.out.2.2.1⟩ (by
    show (m.act k).out.own ≠ (m.act to).out.own
    rw [HH.out.1.ok.own k HH.out.2.1,HH.out.1.ok.own to HH.out.2.2.1]
    intro e
    subst e
    simp at hneq) (by have:=HH.out.2.2.2.1; show m.n + 1 + 1 + 200 ≤ 400000; omega) HRm.out)
   clear hsl hc9
   go_wp2_with (fail)
   refine Calls.mono HCm.out ?_
   rintro e18 W18 ⟨rfl,F18,V18,hs18⟩
   obtain ⟨e19,hst19,hc19⟩:=count_ hs18.en
   obtain ⟨B19,hb19,_⟩:=Star.own hst19 0 rfl
   have c8:=(ecells hb19.1).2.2.2.2.1
   have HC0:=hid (show Calls Tryz.prog 55 #[.pointer (some ⟨e19.pc,0,none⟩),.int .i64 3,.int .u64 1] W18 _ from hc19 3 (by omega))
   have HS18:=hid hs18
   clear hs18 hst19 hc19 hb19 HCm u0 u1 u2 u3
   go_wp2_with (fail)
   refine Calls.mono HC0.out ?_
   rintro e20 W20 ⟨n20,rfl,hk20⟩
   obtain ⟨F20,hs20⟩:=HS18.out.kept hk20
   have g0:W20.cell? ⟨p8,0,none⟩ = some (.string to):=(sy_blk hs20 2 rfl).cell 0
   have HF:=hid hs20.fin
   clear hs20 hk20 HC0 c8
   go_wp2
   go_ret2
   exact .of ⟨_,_,rfl,by first | exact HF.out | (rw [if_pos H8.out]; exact HF.out)⟩
end Eg
end
section
namespace Tp
open Go.RowKit B Cm Cr Cw Ou Lt Lc
open Ac (Am fresh fresh_ok encA)
open Eg (BB got Tq Te)
open Mc (Mst Env Mo)
open Pr (Pg Ins Gi Opk kd bel)
open Tu (tkn sendL)
def ns0:List ByteArray:=[kb]
def cs0:List Ins:=[(5,0),(16,5),(23,0),(3,1),(15,8),(1,1),(4,0),(17,0)]
theorem gi0:∀ i ∈ cs0,Gi ns0.length cs0.length i ∧ Jn.I64 i.2 ∧ i.1 ≤ 100:=by
 intro i hi
 simp only [cs0,List.mem_cons,List.not_mem_nil,or_false] at hi
 rcases hi with rfl | rfl | rfl | rfl | rfl | rfl | rfl | rfl
 all_goals exact ⟨⟨by unfold Opk; decide,by decide⟩,by unfold Jn.I64; decide,by decide⟩
theorem kk0:∀ s ∈ ns0,Kk s:=fun s hs => by rw [List.mem_singleton.1 hs]; exact kb_k
def TA (reg:List Int) (z:Int):Nat → Mst
 | 0 => ⟨0,[],reg,[],[],0⟩
 | 1 => ⟨1,[0],reg,[],[],1⟩
 | 2 => ⟨5,[],reg,[],[],2⟩
 | 3 => ⟨6,[1],reg,[],[],3⟩
 | 4 => ⟨7,[1,z],reg,[],[],4⟩
 | _ => ⟨8,[],reg,[],[(kb,1,z)],5⟩
def TB (reg:List Int) (s:Int):Nat → Mst
 | 0 => ⟨0,[],reg,[],[],0⟩
 | 1 => ⟨1,[1],reg,[],[],1⟩
 | 2 => ⟨2,[],reg,[],[],2⟩
 | 3 => ⟨3,[s],reg,[],[],3⟩
 | 4 => ⟨4,[],reg.set 1 s,[(1,s)],[],4⟩
 | _ => ⟨8,[],reg.set 1 s,[(1,s)],[],5⟩
theorem lt5 {P:Nat → Prop} (h0:P 0) (h1:P 1) (h2:P 2) (h3:P 3) (h4:P 4):∀ k,k < 5 → P k:=by
 intro k hk
 match k,hk with
 | 0,_ => exact h0
 | 1,_ => exact h1
 | 2,_ => exact h2
 | 3,_ => exact h3
 | 4,_ => exact h4
theorem lt6 {P:Nat → Prop} (h0:P 0) (h1:P 1) (h2:P 2) (h3:P 3) (h4:P 4) (h5:P 5):∀ k,k ≤ 5 → P k:=by
 intro k hk
 match k,hk with
 | 0,_ => exact h0
 | 1,_ => exact h1
 | 2,_ => exact h2
 | 3,_ => exact h3
 | 4,_ => exact h4
 | 5,_ => exact h5
theorem name0 {w W:World} {uN uC:Value} (h:Pg w uN uC ns0 cs0) (hu:Upd No w W):∃ ad cap,uN = .slice (some ad) 1 cap ∧ ∀ w0,Upd No W w0 → ∀ W',Upd No w0 W' → W'.cell? ad = some (.string kb):=by
 obtain ⟨A,a,B,b,rfl,rfl,h1,_⟩:=h.ex
 obtain ⟨ad,x,rfl,hx,hc⟩:=h1.at_ (k:=0) (by decide)
 refine ⟨ad,a,rfl,fun w0 h0 W' h9 => ?_⟩
 have e:x = .string kb:=by
  have:(At.strs ns0)[0]? = some (.string kb):=rfl
  rw [this] at hx
  exact (Option.some.inj hx).symm
 subst e
 exact Mc.cell_q hc ((hu.next h0).next h9)
theorem arg0 {W:World} {s k z:Int} {fr:ByteArray} {us:Value} (h:In W (fr,s,k,[z]) us):∃ ad cap,us = .slice (some ad) 1 cap ∧ ∀ w0,Upd No W w0 → ∀ W',Upd No w0 W' → W'.cell? ad = some (.int .i64 z):=by
 obtain ⟨A,c,rfl,h1,_⟩:=h
 obtain ⟨ad,rfl,hc⟩:=h1.at_ (i:=0) (by simp)
 exact ⟨ad,c,rfl,fun w0 h0 W' h9 => Mc.cell_q hc (h0.next h9)⟩
theorem kb_ne:kb.toList.isEmpty = false:=str_nz kb_k.1
theorem at_of {a k:Nat} {x:Int} (h:x = (a:Int)) (hx:x = (k:Int)):a = k:=by omega
theorem trA {w W:World} {uN uC us:Value} {reg:List Int} {z:Int} (hp:Pg w uN uC ns0 cs0) (hin:In W (lA z) us) (hu:Upd No w W):Mc.Trace W cs0 ⟨uN,uC,lA z,us,0⟩ 5 (TA reg z):=by
 obtain ⟨ad,cap,hN,hc⟩:=name0 hp hu
 obtain ⟨ad2,cap2,hU,hc2⟩:=arg0 hin
 refine ⟨by omega,lt6 rfl rfl rfl rfl rfl rfl,lt5 ⟨0,rfl,by decide⟩ ⟨1,rfl,by decide⟩ ⟨5,rfl,by decide⟩ ⟨6,rfl,by decide⟩ ⟨7,rfl,by decide⟩,by show ((8:Nat):Int) ≤ 8; omega,lt5 ?_ ?_ ?_ ?_ ?_⟩
 · intro a ha he w0 W' p h0 hM
   obtain rfl:a = 0:=at_of he.symm.symm rfl
   exact Mc.op5 hM (by show (0:Nat) < 16; omega) 0
 · intro a ha he w0 W' p h0 hM
   obtain rfl:a = 1:=at_of he.symm.symm rfl
   exact Mc.op16 hM (st:=[]) (x:=0) rfl (by decide) 5
 · intro a ha he w0 W' p h0 hM
   obtain rfl:a = 5:=at_of he.symm.symm rfl
   exact Mc.op1 hM (by show (0:Nat) < 16; omega) 1
 · intro a ha he w0 W' p h0 hM
   obtain rfl:a = 6:=at_of he.symm.symm rfl
   exact Mc.op4 hM (by show (1:Nat) < 16; omega) hU (hc2 w0 h0)
 · intro a ha he w0 W' p h0 hM
   obtain rfl:a = 7:=at_of he.symm.symm rfl
   exact Mc.op17 hM (st:=[]) (k:=1) (a:=z) rfl (by decide) (by show (0:Nat) < 4; omega) hN (by omega) (hc w0 h0) kb_ne
theorem trB {w W:World} {uN uC us:Value} {reg:List Int} {s z:Int} (hr:reg.length = 8) (hs:0 ≤ s ∧ s ≤ 1000) (hp:Pg w uN uC ns0 cs0) (hin:In W (lB s z) us) (hu:Upd No w W):Mc.Trace W cs0 ⟨uN,uC,lB s z,us,0⟩ 5 (TB reg s):=by
 refine ⟨by omega,lt6 rfl rfl rfl rfl rfl rfl,lt5 ⟨0,rfl,by decide⟩ ⟨1,rfl,by decide⟩ ⟨2,rfl,by decide⟩ ⟨3,rfl,by decide⟩ ⟨4,rfl,by decide⟩,by show ((8:Nat):Int) ≤ 8; omega,lt5 ?_ ?_ ?_ ?_ ?_⟩
 · intro a ha he w0 W' p h0 hM
   obtain rfl:a = 0:=at_of he.symm.symm rfl
   exact Mc.op5 hM (by show (0:Nat) < 16; omega) 0
 · intro a ha he w0 W' p h0 hM
   obtain rfl:a = 1:=at_of he.symm.symm rfl
   exact Mc.op16 hM (st:=[]) (x:=1) rfl (by decide) 5
 · intro a ha he w0 W' p h0 hM
   obtain rfl:a = 2:=at_of he.symm.symm rfl
   exact Mc.op23 hM (by show (0:Nat) < 16; omega) 0 hs
 · intro a ha he w0 W' p h0 hM
   obtain rfl:a = 3:=at_of he.symm.symm rfl
   exact Mc.op3 hM (st:=[]) (x:=s) rfl (by decide) hr (by show (0:Nat) ≤ 100; omega)
 · intro a ha he w0 W' p h0 hM
   obtain rfl:a = 4:=at_of he.symm.symm rfl
   exact Mc.op15 hM 8
end Tp
end
section
namespace Eg
open Go.RowKit B Cm Cr Cw Ou Lt Lc
open Ac (Am Aw fresh fresh_ok encA encA_le encA_byte freshB)
open Bo (Bp Bm Cg bst La Vb Cl ccells bare encL sizeC)
open Nd (Rm Inv)
open Tp
open Tu (ocm tkn sendL)
abbrev Oz (m:Em):=Os m (prO ns0 cs0)
section
variable {m:Em} {s u j:Nat} {xs:List Int} {jn:Jn.S} {lo:Int} {ys zs:List Int}
theorem tqA {x:Int} (h:Oz m s u j (x :: xs) jn lo ys zs):Tq (m.act ka) ns0 cs0 (lA x) (xs.map lA) 5 (TA (Jn.sts Jn.s0.1 Jn.s0.2.1) x):=by
 rw [h.ea]
 refine ⟨by decide,by decide,kk0,fun i hi => (gi0 i hi).1,rfl,rfl,rfl,fun w uN uC hp us W hin hu => trA hp hin hu,Nat.le_refl _,Nat.zero_le _,fun s hs => ?_,.inr ?_⟩
 · have hs':s ∈ [((kb,1,x):Mc.Se)]:=hs
   rw [List.mem_singleton.1 hs']
   exact kb_k
 · show (serA _).length < 64
   unfold serA
   split <;> simp
theorem teA {x:Int} (h:Oz m s u j (x :: xs) jn lo ys zs):∃ cd d st a',Te (m.act ka) (TA (Jn.sts Jn.s0.1 Jn.s0.2.1) x 5) cd d st a' ∧ ((cd = 0 ∧ zs.length < 32 ∧ a' = stA xs (lo + ys.length) (zs ++ [x])) ∨ (cd = 8 ∧ a' = m.act ka)):=by
 have hl:(m.act ka).out.lst.length = zs.length:=by rw [h.ea]; simp [stA,chain_length]
 by_cases h32:zs.length < 32
 · refine ⟨0,true,5,_,.inl ⟨rfl,rfl,rfl,rfl,.inr (by omega)⟩,.inl ⟨rfl,h32,?_⟩⟩
   rw [h.ea]
   have h1:=sendA (xs:=xs) (lo:=lo + ys.length) (zs:=zs) (by have:=h.lo0; omega) x
   have h2:tkn (stA (x :: xs) (lo + ys.length) zs) (TA (Jn.sts Jn.s0.1 Jn.s0.2.1) x 5) = ⟨(Jn.addS Jn.s0 []).2,xs.map lA,sendO (stA xs (lo + ys.length) zs).out kb 1 [x],0,[]⟩:=rfl
   rw [h2,h1,addS_nil]
   rfl
 · exact ⟨8,false,0,_,.inr ⟨rfl,rfl,rfl,rfl,by simp [TA],by have:=h.z8.2; omega⟩,.inr ⟨rfl,rfl⟩⟩
theorem tqB {y:Int} (h:Oz m s u j xs jn lo (y :: ys) zs) (hj:j ≤ 41):Tq (m.act kb) ns0 cs0 (lB (lo + 1) y) (chain (lo + 1) ys) 5 (TB (Jn.sts jn.1 jn.2.1) (lo + 1)):=by
 have h1:=h.top
 have h2:=h.lo0
 simp only [List.length_cons] at h1
 rw [h.eb]
 refine ⟨by decide,by decide,kk0,fun i hi => (gi0 i hi).1,rfl,rfl,rfl,fun w uN uC hp us W hin hu => trB (by rw [Jn.sts_length]; exact h.jb.jo.b8) (by omega) hp hin hu,Nat.zero_le _,by show 1 ≤ 100; omega,fun s hs => (by cases hs),.inl rfl⟩
theorem teB {y:Int} (h:Oz m s u j xs jn lo (y :: ys) zs):Te (m.act kb) (TB (Jn.sts jn.1 jn.2.1) (lo + 1) 5) 0 true 5 (stB (Jn.addS jn [(1,lo + 1)]).2 (lo + 1) ys):=by
 refine .inl ⟨rfl,rfl,rfl,?_,.inl rfl⟩
 rw [h.eb]
 rfl
end
structure Lo (w W:World) (F:Nat → Prop) (pe:Nat) (m:Em) (s u j:Nat) (xs:List Int) (jn:Jn.S) (lo:Int) (ys zs:List Int):Prop where
 en:En W F pe m
 os:Oz m s u j xs jn lo ys zs
 own:∀ k,F k → w.heap.size ≤ k
 upd:Upd No w W
section
variable {w W W':World} {F F':Nat → Prop} {pe s u j s' u' j':Nat} {m m':Em} {xs ys zs xs' ys' zs':List Int} {jn jn':Jn.S} {lo lo':Int}
theorem Lo.quiet (h:Lo w W F pe m s u j xs jn lo ys zs) (hu:Upd No W W'):Lo w W' F pe m s u j xs jn lo ys zs:=⟨h.en.quiet hu,h.os,h.own,h.upd.next hu⟩
theorem Lo.eng (h:Lo w W F pe m s u j xs jn lo ys zs) (hk:Kept W F pe m' W') (hs:m'.ok → Oz m' s' u' j' xs' jn' lo' ys' zs'):∃ F',Lo w W' F' pe m' s' u' j' xs' jn' lo' ys' zs':=by
 obtain ⟨F',hen,hm⟩:=hk
 have hz:=h.upd.size
 exact ⟨F',hen,hs hen.ok,fun k hk => (hm.sub k hk).elim (h.own k) fun h9 => by omega,h.upd.trans hm.upd fun i hi hf => by have:=h.own i hf; omega⟩
theorem Lo.more (h:Lo w W F pe m s u j xs jn lo ys zs) (hs:s ≤ s') (hu:u ≤ u'):Lo w W F pe m s' u' j xs jn lo ys zs:=⟨h.en,h.os.more hs hu,h.own,h.upd⟩
def FoO (w:World) (pe s u j:Nat) (jn:Jn.S) (lo:Int) (ys zs:List Int) (e:Ending) (w':World):Prop:=∃ b c F' m' xs',e = .returned (.tuple #[.bool b,.int .i64 c]) ∧ xs' ≠ [] ∧ Lo w w' F' pe m' s u j xs' jn lo ys zs
theorem lo_offer (h:Lo w W F pe m s u j xs jn lo ys zs) (hs:s ≤ 900) (hu:u ≤ 1900) (hj:j ≤ 40) {x:Int} (hx:0 ≤ x ∧ x ≤ 255) {g:Nat} (hg:g = W.heap.size) (hW:W' = W.alloc (.cells #[.int .i64 x] 2)) :
 Calls Tryz.prog 9 #[.pointer (some ⟨pe,0,none⟩),.int .u64 j,.int .u64 1,.string ka,.int .i64 0,.slice (some ⟨g,0,none⟩) 1 1] W' fun e w' => FoO w pe (s + 1) (u + 5) (j + 1) jn lo ys zs e w':=by
 subst hg
 have hq:Upd No W W':=by rw [hW]; exact (Upd.refl _ _).alloc _
 have h':=h.quiet hq
 have hin:In W' (lA x) (.slice (some ⟨W.heap.size,0,none⟩) 1 1):=⟨_,1,rfl,by rw [hW]; exact Rn.lit W .i64 2 [x],Nat.le_refl _,by simp [maxLen]⟩
 have hn:=h.os.n
 refine (offer_ (c:=j) (s:=1) (k:=0) (l:=[x]) h'.en h.os.tidy h.os.nd ⟨hn.1,by omega⟩ ka_k (lA_ok hx) hin ⟨by omega,by omega⟩ ⟨by omega,by omega⟩ (fun hns => ?_)).mono ?_
 · exact h.os.roomO hj hu hx
 rintro e w' ⟨rfl,hk⟩
 obtain ⟨F',hen,hm⟩:=hk
 obtain ⟨xs',hne,hos⟩:=h.os.offer hx hj hen.ok
 obtain ⟨F2,hl⟩:=h'.eng ⟨F',hen,hm⟩ (fun _ => hos)
 exact ⟨_,_,F2,_,xs',rfl,hne,hl⟩
def PaO (w:World) (pe s u j:Nat) (jn:Jn.S) (lo:Int) (ys:List Int) (e:Ending) (w':World):Prop:=∃ d st c F' m' xs' zs',e = .returned (.tuple #[.agg (ocm d st),.int .i64 c]) ∧ Lo w w' F' pe m' s u j xs' jn lo ys zs'
theorem lo_pickA (h:Lo w W F pe m s u j xs jn lo ys zs) (hne:xs ≠ []) (hs:s ≤ 900) (hu:u ≤ 1900) (hj:j ≤ 41) :
 Calls Tryz.prog 10 #[.pointer (some ⟨pe,0,none⟩),.string ka] W fun e w' => PaO w pe (s + 1) (u + 3) j jn lo ys e w':=by
 obtain ⟨x,r,rfl⟩:∃ x r,xs = x :: r:=by
  cases xs with
  | nil => exact absurd rfl hne
  | cons x r => exact ⟨x,r,rfl⟩
 obtain ⟨cd,d,st,a',hte,hcase⟩:=teA h.os
 have hn:=h.os.n
 have htop:=h.os.top
 have hlo:=h.os.lo0
 simp only [List.length_cons] at htop
 have hx8:=h.os.x8.2
 simp only [List.length_cons] at hx8
 have hok:a'.ok BB ∧ (a'.jn.2.2 = 0 → a'.jn = Jn.s0):=by
  rcases hcase with ⟨_,h32,rfl⟩ | ⟨_,rfl⟩
  · exact ⟨Tp.stA_ok h.os.x8.1.tail (h.os.z8.1.app (h.os.x8.1 x (by simp))) (by omega) (by omega) (by simp; omega) (by simp; omega),fun _ => rfl⟩
  · exact ⟨h.os.ok.act ka_k,h.os.ok.zer _ ka_k⟩
 have hroom:Gp.nbl (encL (chs [(0,a')] none none)) ≤ m.bk.lg.count - m.bk.lg.used:=by
  have h3:=h.os.cnt
  have h4:=h.os.used
  have h5:Gp.nbl (encL (chs [(0,a')] none none)) ≤ 3:=by
   rcases hcase with ⟨_,h32,rfl⟩ | ⟨_,rfl⟩
   · exact room_P1 0 akey_ab.1 (encA_A h.os.x8.1.tail (h.os.z8.1.app (h.os.x8.1 x (by simp))) (by omega) (by simp; omega) (by simp; omega))
   · rw [h.os.ea]
     exact room_P1 0 akey_ab.1 (encA_A h.os.x8.1 h.os.z8.1 (by simp; omega) (by omega) h.os.z8.2)
  omega
 refine (pick_ h.en h.os.tidy ka_k (by omega) h.os.po h.os.clock (tqA h.os) hte hok hroom).mono ?_
 rintro e w' ⟨rfl,hk⟩
 rcases hcase with ⟨rfl,h32,rfl⟩ | ⟨rfl,rfl⟩
 · rw [if_pos rfl] at hk
   obtain ⟨F2,hl⟩:=h.eng hk fun hok' => h.os.pickedA h32 hj hok'
   exact ⟨_,_,_,F2,_,r,_,rfl,hl⟩
 · rw [if_neg (by decide)] at hk
   obtain ⟨F2,hl⟩:=h.eng (s':=s + 1) (u':=u + 3) hk fun hok' => (h.os.loaded hok').more (by omega) (by omega)
   exact ⟨_,_,_,F2,_,_,_,rfl,hl⟩
theorem loaded_ok {m:Em} {k:ByteArray} (h:m.ok) (hk:Kk k) (hn:m.n + 1 ≤ 400000):(m.loaded k).ok:=by
 have t:=(touched_ok h hk).1
 exact ⟨t.bok,hn,t.rm,t.tl,t.tie,t.own,t.inv,t.zer,⟨by have:=h.pnd.1; show m.bk.pend ≤ m.n + 1; omega,by have:=h.pnd.2; show m.bk.d.log.length ≤ 2 * (m.n + 1); omega⟩,t.wok⟩
def ReO (w:World) (pe s u j:Nat) (jn:Jn.S) (lo:Int) (e:Ending) (w':World):Prop:=∃ t c F' m' xs' ys' zs',e = .returned (.tuple #[.string t,.int .i64 c]) ∧ Lo w w' F' pe m' s u j xs' jn lo ys' zs'
theorem lo_relay (h:Lo w W F pe m s u j xs jn lo ys zs) (hs:s ≤ 900) (hu:u ≤ 1900) (hj:j ≤ 41) :
 Calls Tryz.prog 11 #[.pointer (some ⟨pe,0,none⟩),.string ka] W fun e w' => ReO w pe (s + 2) (u + 5) j jn lo e w':=by
 have hn:=h.os.n
 have htop:=h.os.top
 have hlo:=h.os.lo0
 cases zs with
 | nil =>
  refine (relay_none h.en h.os.tidy ka_k (by omega) (by rw [h.os.ea]; rfl)).mono ?_
  rintro e w' ⟨rfl,hk⟩
  obtain ⟨F2,hl⟩:=h.eng (s':=s + 2) (u':=u + 5) hk fun hok' => (h.os.loaded hok').more (by omega) (by omega)
  exact ⟨_,_,F2,_,_,_,_,rfl,hl⟩
 | cons z zs =>
  simp only [List.length_cons] at htop
  have hz:=h.os.z8.1 z (by simp)
  have h32:=h.os.z8.2
  simp only [List.length_cons] at h32
  have hlst:(m.act ka).out.lst = (kb,ka,lo + ys.length + 1,1,[z]) :: (chain (lo + ys.length + 1) zs).map fun x => (kb,x):=by rw [h.os.ea]; rfl
  have ea':({ m.act ka with out:=popO (m.act ka).out }:Am) = stA xs (lo + (ys ++ [z]).length) zs:=by
   have e1:lo + ((ys ++ [z]).length:Int) = lo + ys.length + 1:=by simp; omega
   rw [h.os.ea,popA,e1]
   rfl
  have eb':got (m.act kb) (ka,lo + ys.length + 1,1,[z]) = stB jn lo (ys ++ [z]):=by
   rw [h.os.eb]
   exact gotB jn lo ys z
  have hoka:(stA xs (lo + (ys ++ [z]).length) zs).ok BB:=Tp.stA_ok h.os.x8.1 h.os.z8.1.tail h.os.x8.2 (by omega) (by simp; omega) (by omega)
  have hib:(m.act kb).inb.length = ys.length:=by rw [h.os.eb]; exact chain_length _ _
  refine (relay_ h.en h.os.tidy ka_k kb_k kab (by omega) hlst (lB_ok (s:=lo + ys.length + 1) (x:=z) (by omega) hz) ⟨by rw [ea']; exact hoka,h.os.ok.zer _ ka_k⟩ (fun h8 => ?_)).mono ?_
  · have h8':ys.length < 8:=by omega
    rw [ea',eb']
    have h3:=h.os.cnt
    have h4:=h.os.used
    have h5:=room_R (a:=stA xs (lo + (ys ++ [z]).length) zs) (b:=stB jn lo (ys ++ [z])) 0 0 akey_ab.1 akey_ab.2 (encA_A h.os.x8.1 h.os.z8.1.tail (by have:=h.os.x8.2; omega) (by simp; omega) (by omega)) (encA_B h.os.jb (h.os.y8.1.app hz) (by simp; omega) (by simp; omega))
    omega
  rintro e w' ⟨t,c,rfl,hk⟩
  by_cases h8:(m.act kb).inb.length < 8
  · rw [if_pos h8,ea',eb'] at hk
    obtain ⟨F2,hl⟩:=h.eng (m':=m.relayed (stA xs (lo + (ys ++ [z]).length) zs) (stB jn lo (ys ++ [z]))) hk fun hok' => (h.os.relayed hj (by omega) hok').more (s':=s + 2) (u':=u + 5) (by omega) (by omega)
    exact ⟨_,_,F2,_,_,_,_,rfl,hl⟩
  · rw [if_neg h8] at hk
    obtain ⟨F2,hl⟩:=h.eng (m':=(m.loaded ka).loaded kb) (s':=s + 2) (u':=u + 5) hk fun hok' => ((h.os.loaded (loaded_ok h.os.ok ka_k (by omega))).loaded hok').more (by omega) (by omega)
    exact ⟨_,_,F2,_,_,_,_,rfl,hl⟩
def LbO (w W:World) (F:Nat → Prop) (pe s u j:Nat) (xs:List Int) (jn:Jn.S) (lo:Int) (ys zs:List Int) (e:Ending) (w':World):Prop:=∃ q pj pi GJ GA F' m',e = .returned (.tuple #[.pointer (some ⟨q,0,none⟩),.int .i64 0]) ∧ w'.cell? ⟨q,0,none⟩ = some (.pointer (some ⟨pj,0,none⟩)) ∧ w'.cell? ⟨q,1,none⟩ = some (.pointer (some ⟨pi,0,none⟩)) ∧ Jn.Jd w' GJ pj jn ∧ Ib.Ib w' GA pi (chain lo ys) ∧ Upd F W w' ∧ Lo w w' F' pe m' s u j xs jn lo ys zs
theorem lo_actor (h:Lo w W F pe m s u j xs jn lo ys zs) (hs:s ≤ 900) :
 Calls Tryz.prog 12 #[.pointer (some ⟨pe,0,none⟩),.string kb] W fun e w' => LbO w W F pe (s + 1) u j xs jn lo ys zs e w':=by
 have hn:=h.os.n
 refine (actor_ h.en h.os.tidy kb_k (by omega)).mono ?_
 rintro e w' ⟨q,G',F',rfl,⟨pj,pi,po,n,v,haw⟩,_,hen,hmv⟩
 obtain ⟨B,hib,_⟩:=haw.ib
 obtain ⟨C,hjn,_⟩:=haw.jn
 rw [h.os.eb] at hib hjn
 obtain ⟨F2,hl⟩:=h.eng ⟨F',hen,hmv⟩ fun hok' => h.os.loaded hok'
 exact ⟨q,pj,pi,C,B,F2,_,rfl,haw.cells.1,haw.cells.2.1,hjn,hib,hmv.upd,hl⟩
def PbO (w:World) (pe s u j:Nat) (xs:List Int) (lo:Int) (ys zs:List Int) (e:Ending) (w':World):Prop:=∃ F' m' jn',e = .returned (.tuple #[.agg (ocm true 5),.int .i64 0]) ∧ Lo w w' F' pe m' s u j xs jn' (lo + 1) ys zs
theorem lo_pickB {y:Int} (h:Lo w W F pe m s u j xs jn lo (y :: ys) zs) (hs:s ≤ 900) (hu:u ≤ 1900) (hj:j ≤ 41) :
 Calls Tryz.prog 10 #[.pointer (some ⟨pe,0,none⟩),.string kb] W fun e w' => PbO w pe (s + 1) (u + 3) j xs lo ys zs e w':=by
 have hn:=h.os.n
 have htop:=h.os.top
 have hlo:=h.os.lo0
 simp only [List.length_cons] at htop
 have hy8:=h.os.y8.2
 simp only [List.length_cons] at hy8
 have hjb:=(h.os.jb.add hlo (by omega)).2
 have hok:=Tp.stB_ok hjb h.os.y8.1.tail (by omega) (by omega) (by omega)
 have hroom:Gp.nbl (encL (chs [(0,stB (Jn.addS jn [(1,lo + 1)]).2 (lo + 1) ys)] none none)) ≤ m.bk.lg.count - m.bk.lg.used:=by
  have h3:=h.os.cnt
  have h4:=h.os.used
  have h5:=room_P1 (a:=stB (Jn.addS jn [(1,lo + 1)]).2 (lo + 1) ys) 0 akey_ab.2 (by have:=encA_B hjb h.os.y8.1.tail (by omega) (by omega); omega)
  omega
 refine (pick_ h.en h.os.tidy kb_k (by omega) h.os.po h.os.clock (tqB h.os hj) (teB h.os) ⟨hok,hjb.z⟩ hroom).mono ?_
 rintro e w' ⟨rfl,hk⟩
 rw [if_pos rfl] at hk
 obtain ⟨F2,hl⟩:=h.eng hk fun hok' => h.os.pickedB hj hjb hok'
 exact ⟨F2,_,_,rfl,hl⟩
end
end Eg
end
