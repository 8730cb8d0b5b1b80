/- Part 43: lemmas, no conditions. -/
import Derived.Test.YtclfmpieapbfnaaGreatDoorZ26
import Derived.Test.YtclfmpieapbfnaaGreatDoorZ30
import Derived.Test.YtclfmpieapbfnaaGreatDoorZ42
import Derived.Test.YtclfmpieapbfnaaGreatDoorZ23
import Derived.Test.YtclfmpieapbfnaaGreatDoorZ12
import Derived.Test.YtclfmpieapbfnaaGreatDoorZ37
import Derived.Test.YtclfmpieapbfnaaGreatDoorZ15
import Derived.Test.YtclfmpieapbfnaaGreatDoorZ33
import Derived.Laws.Concat
import Derived.Test.YtclfmpieapbfnaaGreatDoorZ31
set_option maxHeartbeats 8000000
namespace Go.Proofs.YtclfmpieapbfnaaGreatDoor
set_option linter.unusedVariables false
set_option linter.unusedSimpArgs false
section
namespace Fr
open Go.RowKit Go.Maps B Cm
open Dk (Dm)
open Bo (Bp Bm bst bcs tbO chO dkO lgO)
def d0 (nb:Nat):Dm:=⟨nb,[],-1,false⟩
theorem d0_ok {nb:Nat} (h:nb ≤ 65536):(d0 nb).ok:=⟨by simp [d0],by simp [d0],h⟩
theorem sup_new {nb:Nat} (h:2 ≤ nb):Up.opS (d0 nb) = (0,some ⟨0,[],false⟩):=by
 unfold Up.opS
 rw [if_neg (by show ¬ nb < 2; omega),if_neg (by simp [d0])]
 have e:∀ k,Up.bk (d0 nb).log k = List.replicate 256 0:=fun k => rfl
 have e2:Up.frm (Up.bk (d0 nb).log) 2 0 (0,[]) = (0,[]):=by
  simp only [Up.frm,e,Up.rd1_zero]
  rfl
 rw [e2]
theorem parts_ {w:World} {D:Nat → Prop} {p nb:Nat} (h:Dk.Dk w D p (d0 nb)) (hnb:24 ≤ nb ∧ nb ≤ 65536) :
 Calls Tryz.prog 80 #[.pointer (some ⟨p,0,none⟩)] w fun e w' => e = .returned (.tuple #[.int .i64 2,.int .i64 ((nb / 4:Nat):Int),.int .i64 ((2 + nb / 4:Nat):Int),.int .i64 ((nb - 2 - nb / 4:Nat):Int)]) ∧ w = w':=by
 have HB:=hid (show Calls Tryz.prog 75 #[.pointer (some ⟨p,0,none⟩)] w fun e w' => e = .returned (.int .i64 nb) ∧ w = w' from Dk.blocks p (d0 nb) D w h (d0_ok hnb.2))
 obtain ⟨N,hN⟩:∃ N,N = nb / 4:=⟨_,rfl⟩
 have h1:N ≤ 16384:=by omega
 have h2:24 ≤ nb:=hnb.1
 have h3:nb ≤ 65536:=hnb.2
 have h4:N + 2 ≤ nb:=by omega
 have hq:((nb:Int) / 4) = (N:Int):=by omega
 have hq2:Int.tdiv (nb:Int) 4 = (N:Int):=by rw [hN]; exact (Int.ofNat_tdiv nb 4).symm
 have H1:=hid (show (2:Int) + N = ((2 + N:Nat):Int) by omega)
 have H2:=hid (show (nb:Int) - 2 - N = ((nb - 2 - N:Nat):Int) by omega)
 rw [← hN]
 clear h hnb hN
 go_enter Tryz.func80,Tryz.ntmps80
 go_wp2_with (fail)
 refine Calls.mono HB.out ?_
 rintro e w1 ⟨rfl,rfl⟩
 go_wp2_with (fail)
 refine Calls.mono HB.out ?_
 rintro e w1 ⟨rfl,rfl⟩
 go_wp2
 refine bodyPost_ret (v:=.tuple #[.int .i64 2,.int .i64 (N:Int),.int .i64 ((2:Int) + N),.int .i64 ((nb:Int) - 2 - N)]) (by simp [results,go_sem]) rfl ?_
 rw [H1.out,H2.out]
 exact ⟨rfl,rfl⟩
structure Og (w W:World) (D:Nat → Prop) (p g b1 b2:Nat) (d:Dm) (vs vl vp vt:Value):Prop where
 blk:Blk W g 186 #[.pointer (some ⟨p,0,none⟩),vs,vl,vp,vt,.int .u64 1,.map (some b1),.map (some b2),.int .i64 0,.bool false]
 m1:Ms.Ms Tryz.prog W 9 b1 0 fun _ => none
 m2:Ms.Ms Tryz.prog W 9 b2 0 fun _ => none
 dk:Dk.Dk W D p d
 ap:¬ D g ∧ ¬ D b1 ∧ ¬ D b2 ∧ b1 ≠ b2 ∧ b1 ≠ g ∧ b2 ≠ g
 lo:w.heap.size ≤ g ∧ w.heap.size ≤ b1 ∧ w.heap.size ≤ b2
 upd:Upd No w W
section
variable {w W W':World} {D:Nat → Prop} {p g b1 b2:Nat} {d:Dm} {vs vl vp vt u:Value}
theorem Og.quiet (h:Og w W D p g b1 b2 d vs vl vp vt) (hu:Upd No W W'):Og w W' D p g b1 b2 d vs vl vp vt:=
 ⟨h.blk.upd hu (no_ _),h.m1.upd hu (no_ _),h.m2.upd hu (no_ _),h.dk.upd hu fun _ _ => no_ _,h.ap,h.lo,h.upd.next hu⟩
theorem Og.step (h:Og w W D p g b1 b2 d vs vl vp vt) (i:Nat) (u:Value) {a b c e:Value} (hb:Blk (W.setCell ⟨g,i,none⟩ u) g 186 #[.pointer (some ⟨p,0,none⟩),a,b,c,e,.int .u64 1,.map (some b1),.map (some b2),.int .i64 0,.bool false]):Og w (W.setCell ⟨g,i,none⟩ u) D p g b1 b2 d a b c e:=by
 have hu:Upd (fun k => k = g) W (W.setCell ⟨g,i,none⟩ u):=Upd.set1 (Upd.refl _ _) _ _
 exact ⟨hb,h.m1.upd hu h.ap.2.2.2.2.1,h.m2.upd hu h.ap.2.2.2.2.2,h.dk.upd hu fun k hk e => h.ap.1 (e ▸ hk),h.ap,h.lo,h.upd.trans hu fun i hi e => by have:=h.lo.1; omega⟩
theorem Og.put1 (h:Og w W D p g b1 b2 d vs vl vp vt) (u:Value):Og w (W.setCell ⟨g,1,none⟩ u) D p g b1 b2 d u vl vp vt:=h.step 1 u (h.blk.put 1 u)
theorem Og.put2 (h:Og w W D p g b1 b2 d vs vl vp vt) (u:Value):Og w (W.setCell ⟨g,2,none⟩ u) D p g b1 b2 d vs u vp vt:=h.step 2 u (h.blk.put 2 u)
theorem Og.put3 (h:Og w W D p g b1 b2 d vs vl vp vt) (u:Value):Og w (W.setCell ⟨g,3,none⟩ u) D p g b1 b2 d vs vl u vt:=h.step 3 u (h.blk.put 3 u)
theorem Og.put4 (h:Og w W D p g b1 b2 d vs vl vp vt) (u:Value):Og w (W.setCell ⟨g,4,none⟩ u) D p g b1 b2 d vs vl vp u:=h.step 4 u (h.blk.put 4 u)
theorem Og.cells (h:Og w W D p g b1 b2 d vs vl vp vt):W.cell? ⟨g,1,none⟩ = some vs ∧ W.cell? ⟨g,2,none⟩ = some vl ∧ W.cell? ⟨g,3,none⟩ = some vp ∧ W.cell? ⟨g,4,none⟩ = some vt ∧ W.cell? ⟨g,5,none⟩ = some (.int .u64 1):=
 ⟨by simpa using h.blk.cell 1,by simpa using h.blk.cell 2,by simpa using h.blk.cell 3,by simpa using h.blk.cell 4,by simpa using h.blk.cell 5⟩
end
def bm0 (nb:Nat):Bm:=⟨d0 nb,Gl.Lm.new 2 (nb / 4) 1,fun _ => none,fun _ => false,0,false⟩
theorem bm0_ok {nb:Nat} (h:24 ≤ nb ∧ nb ≤ 65536):(bm0 nb).ok:=
 ⟨Gl.Snd.new h.2 (by omega) ⟨by omega,by omega⟩,rfl,rfl,by show (-1:Int) < 0; omega,rfl,by show 0 < 1000000; omega⟩
def BoOut (w:World) (D:Nat → Prop) (p nb:Nat) (e:Ending) (w':World):Prop:=∃ (b:Bp) (F:Nat → Prop),e = .returned (.tuple #[.pointer (some ⟨b.q,0,none⟩),.int .i64 0]) ∧ b.pd = p ∧ Star (bst b (bm0 nb) 0 0 (Ob.and (b.pd = p) (Ob.star []))) w' F ∧ (∀ k,F k → D k ∨ w.heap.size ≤ k) ∧ Upd No w w'
theorem BoOut.of {w:World} {D:Nat → Prop} {p nb:Nat} {e:Ending} {w':World} (h:∃ (b:Bp) (F:Nat → Prop),e = .returned (.tuple #[.pointer (some ⟨b.q,0,none⟩),.int .i64 0]) ∧ b.pd = p ∧ Star (bst b (bm0 nb) 0 0 (Ob.and (b.pd = p) (Ob.star []))) w' F ∧ (∀ k,F k → D k ∨ w.heap.size ≤ k) ∧ Upd No w w'):BoOut w D p nb e w':=h
theorem Og.done {w W:World} {D G:Nat → Prop} {p g b1 b2 l nb:Nat} {vs vp vt:Value} (h:Og w W D p g b1 b2 (d0 nb) vs (.pointer (some ⟨l,0,none⟩)) vp vt) (hl:Gl.Lg W G l p (Gl.Lm.new 2 (nb / 4) 1)) (hG:∀ k,G k → w.heap.size ≤ k ∧ ¬ D k ∧ k ≠ g ∧ k ≠ b1 ∧ k ≠ b2) :
 BoOut w D p nb (.returned (.tuple #[.pointer (some ⟨g,0,none⟩),.int .i64 0])) W:=by
 obtain ⟨a1,a2,a3,a4,a5,a6⟩:=h.ap
 obtain ⟨l1,l2,l3⟩:=h.lo
 have hg:=h.blk.lt
 have h1:=h.m1.lt
 have h2:=h.m2.lt
 have hD:=h.dk.lt
 have hGl:∀ k,G k → k < W.heap.size:=fun k hk => (lgO l p (Gl.Lm.new 2 (nb / 4) 1)).lt (F:=G) hl k hk
 refine .of ⟨⟨g,p,l,b1,b2,vs,vp,vt,1⟩,fun k => k = g ∨ k = b1 ∨ k = b2 ∨ D k ∨ G k,rfl,rfl,?_,?_,h.upd⟩
 · refine ⟨fun k => k = g,fun k => k = b1 ∨ k = b2 ∨ D k ∨ G k,Ob.blk_is h.blk,⟨fun k => k = b1,fun k => k = b2 ∨ D k ∨ G k,⟨fun _ => none,No,h.m1,fun s hs => rfl,rfl,fun k hk => hk.elim,fun k hk => by subst hk; exact h1⟩,⟨fun k => k = b2,fun k => D k ∨ G k,⟨h.m2,fun _ => Iff.rfl⟩,⟨D,G,h.dk,⟨G,No,hl,⟨No,No,⟨rfl,fun k hk => hk.elim⟩,(fun k hk => hk.elim),fun _ h => h.elim,fun _ h => h,fun _ h => h,fun k hk => hk.elim⟩,fun _ _ h => h,fun _ h => h,fun _ h => h.elim,hGl⟩,?_,?_,?_,?_⟩,?_,?_,?_,?_⟩,?_,?_,?_,?_⟩,?_,?_,?_,?_⟩
   · intro k hk hg; exact (hG k hg).2.1 hk
   · intro k hk; exact .inl hk
   · intro k hk; exact .inr hk
   · rintro k (hk | hk)
     · exact hD k hk
     · exact hGl k hk
   · rintro k hk (e | e)
     · subst hk; exact a3 e
     · exact (hG k e).2.2.2.2 hk
   · intro k hk; exact .inl hk
   · intro k hk; exact .inr hk
   · rintro k (hk | hk | hk)
     · subst hk; exact h2
     · exact hD k hk
     · exact hGl k hk
   · rintro k hk (e | e | e)
     · subst hk; exact a4 e
     · subst hk; exact a2 e
     · exact (hG k e).2.2.2.1 hk
   · intro k hk; exact .inl hk
   · intro k hk; exact .inr hk
   · rintro k (hk | hk | hk | hk)
     · subst hk; exact h1
     · subst hk; exact h2
     · exact hD k hk
     · exact hGl k hk
   · rintro k hk (e | e | e | e)
     · subst hk; exact a5 e.symm
     · subst hk; exact a6 e.symm
     · subst hk; exact a1 e
     · exact (hG k e).2.2.1 hk
   · intro k hk; exact .inl hk
   · intro k hk; exact .inr hk
   · rintro k (hk | hk | hk | hk | hk)
     · subst hk; exact hg
     · subst hk; exact h1
     · subst hk; exact h2
     · exact hD k hk
     · exact hGl k hk
 · rintro k (hk | hk | hk | hk | hk)
   · subst hk; exact .inr l1
   · subst hk; exact .inr l2
   · subst hk; exact .inr l3
   · exact .inl hk
   · exact .inr (hG k hk).1
set_option maxRecDepth 100000 in
theorem open_ {w:World} {D:Nat → Prop} {p nb:Nat} (h:Dk.Dk w D p (d0 nb)) (hnb:24 ≤ nb ∧ nb ≤ 65536) :
 Calls Tryz.prog 25 #[.pointer (some ⟨p,0,none⟩)] w fun e w' => BoOut w D p nb e w':=by
 have HN:=hid hnb
 have hok:=d0_ok hnb.2
 have hb24:¬ (nb:Int) < 24:=by omega
 have HB:=hid (show Calls Tryz.prog 75 #[.pointer (some ⟨p,0,none⟩)] w fun e w' => e = .returned (.int .i64 nb) ∧ w = w' from Dk.blocks p (d0 nb) D w h hok)
 have hmk:=@run_makeMap Tryz.prog
 have HO:Hid (∃ w3 g b1 b2,w3 = ((w.alloc (.map #[] 0)).alloc (.map #[] 0)).alloc (.cells #[.pointer (some ⟨p,0,none⟩),.pointer none,.pointer none,.pointer none,.pointer none,.int .u64 1,.map (some w.heap.size),.map (some (w.alloc (.map #[] 0)).heap.size),.int .i64 0,.bool false] 186) ∧
  g = ((w.alloc (.map #[] 0)).alloc (.map #[] 0)).heap.size ∧ b1 = w.heap.size ∧ b2 = (w.alloc (.map #[] 0)).heap.size ∧ Og w w3 D p g b1 b2 (d0 nb) (.pointer none) (.pointer none) (.pointer none) (.pointer none)):=hid (by
  have hlt:=h.lt
  have u3:Upd No w (((w.alloc (.map #[] 0)).alloc (.map #[] 0)).alloc (.cells #[.pointer (some ⟨p,0,none⟩),.pointer none,.pointer none,.pointer none,.pointer none,.int .u64 1,.map (some w.heap.size),.map (some (w.alloc (.map #[] 0)).heap.size),.int .i64 0,.bool false] 186)):=(((Upd.refl _ _).alloc _).alloc _).alloc _
  refine ⟨_,_,_,_,rfl,rfl,rfl,rfl,Blk.fresh _ _ _,(Ms.Ms.made _ _ _).upd (((Upd.refl No _).alloc _).alloc _) (no_ _),(Ms.Ms.made _ _ _).upd ((Upd.refl No _).alloc _) (no_ _),h.upd u3 fun _ _ => no_ _,⟨fun hd => ?_,fun hd => ?_,fun hd => ?_,?_,?_,?_⟩,⟨?_,?_,?_⟩,u3⟩
  · have:=hlt _ hd; simp at this; omega
  · have:=hlt _ hd; omega
  · have:=hlt _ hd; simp at this; omega
  all_goals (simp; try omega))
 clear h hok hnb
 go_enter Tryz.func25,Tryz.ntmps25
 go_wp2_with (fail)
 refine Calls.mono HB.out ?_
 rintro e w1 ⟨rfl,rfl⟩
 go_wp2_with (fail)
 obtain ⟨w3,g,b1,b2,hw3,hg,hb1,hb2,hO⟩:=HO.out
 have e2:(w.alloc (.map #[] 0)).heap.size = w.heap.size + 1:=by simp
 have e3:((w.alloc (.map #[] 0)).alloc (.map #[] 0)).heap.size = w.heap.size + 1 + 1:=by simp
 rw [e2] at hb2 hw3
 rw [e3] at hg
 rw [← hb2,← hb1] at hw3
 rw [← hg,← hb2,← hb1,← hw3]
 clear e2 e3
 have HO3:=hid hO
 clear hO hw3 hg hb1 hb2 HO
 have HS:=Up.open_ p (d0 nb) D w3 HO3.out.dk (d0_ok HN.out.2) (fun x hx => by cases hx)
 rw [sup_new (by have:=HN.out.1; omega)] at HS
 refine Calls.mono HS ?_
 rintro e w4 ⟨qs,Fs,rfl,hsp,hspok,hFs,hu4⟩
 have hO4:=HO3.out.quiet hu4
 have f4:=hO4.blk.free 1
 have o4:=hO4.cells.1
 have hO5:=hO4.put1 (.pointer (some ⟨qs,0,none⟩))
 have k5:=hO5.cells.1
 have hsp5:Up.Sp (w4.setCell ⟨g,1,none⟩ (.pointer (some ⟨qs,0,none⟩))) Fs qs p ⟨0,[],false⟩:=hsp.upd (Upd.set1 (Upd.refl _ _) _ _) fun k hk e => by
  have h1:=hFs k hk
  have h2:=HO3.out.blk.lt
  omega
 have HG5:=hid (Up.generation _ Fs qs p ⟨0,[],false⟩ hsp5)
 have HO5:=hid hO5
 clear hsp hspok hFs hu4 hO4 hO5 hsp5 HS
 go_wp2_with (fail)
 refine Calls.mono HG5.out ?_
 rintro e w5 ⟨rfl,rfl⟩
 obtain ⟨w5,hw5⟩:∃ w5,w5 = w4.setCell ⟨g,1,none⟩ (.pointer (some ⟨qs,0,none⟩)):=⟨_,rfl⟩
 rw [← hw5] at HO5 ⊢
 clear hw5 f4 o4 k5 HG5
 have HP:=hid (parts_ HO5.out.dk HN.out)
 go_wp2_with (fail)
 refine Calls.mono HP.out ?_
 rintro e w6 ⟨rfl,rfl⟩
 obtain ⟨N,hN⟩:∃ N,N = nb / 4:=⟨_,rfl⟩
 obtain ⟨fr,hfr⟩:∃ fr,fr = 2 + nb / 4:=⟨_,rfl⟩
 obtain ⟨ct,hct⟩:∃ ct,ct = nb - 2 - nb / 4:=⟨_,rfl⟩
 have hfc:24 ≤ nb ∧ nb ≤ 65536 ∧ fr + ct = nb ∧ 1 ≤ fr ∧ 1 ≤ ct ∧ 1 ≤ N ∧ 2 + N ≤ nb:=by have:=HN.out; omega
 have har:Gl.areaB (d0 nb).nb (fr:Int) (ct:Int) = true:=by
  unfold Gl.areaB
  exact decide_eq_true ⟨by omega,by omega,by show (fr:Int) ≤ (nb:Int); omega,by show (ct:Int) ≤ (nb:Int) - fr; omega⟩
 have HNm:=hid (names_ HO5.out.dk (d0_ok HN.out.2) rfl har (by omega))
 have HAr:=hid (And.intro har hfc)
 have HNe:=hid hN
 rw [← hfr,← hct,← hN]
 clear har hfc hN hfr hct HP
 go_wp2_with (fail)
 refine Calls.mono HNm.out ?_
 rintro e w6 ⟨rfl,hu6⟩
 have HO6:=hid (HO5.out.quiet hu6)
 have HPg:=hid (pages_ HO6.out.dk (d0_ok HN.out.2) rfl HAr.out.1 (by have:=HAr.out.2; omega))
 clear hu6 HNm HO5
 go_wp2_with (fail)
 refine Calls.mono HPg.out ?_
 rintro e w7 ⟨qp,rfl,⟨pa,pb,pc,hpg⟩,hlo7,hu7⟩
 have hO7:=HO6.out.quiet hu7
 have f7:=hO7.blk.free 3
 have o7:=hO7.cells.2.2.1
 have hO8:=hO7.put3 (.pointer (some ⟨qp,0,none⟩))
 have k8:=hO8.cells.2.2.1
 have hpg8:=hpg.upd (Upd.set1 (g:=g) (Upd.refl _ _) 3 (.pointer (some ⟨qp,0,none⟩))) (fun e => by have:=HO6.out.blk.lt; omega)
 have HT8:=hid (tree_ hpg8 (by have:=HAr.out.2; omega))
 have HO8:=hid hO8
 clear hpg hlo7 hu7 hO7 hO8 hpg8 HPg HO6
 go_wp2_with (fail)
 refine Calls.mono HT8.out ?_
 rintro e w9 ⟨t,rfl,⟨ta,tb,htr⟩,hlo9,hu9⟩
 have hO9:=HO8.out.quiet hu9
 have f9:=hO9.blk.free 4
 have o9:=hO9.cells.2.2.2.1
 have o95:=hO9.cells.2.2.2.2
 have hO10:=hO9.put4 (.pointer (some ⟨t,0,none⟩))
 have k10:=hO10.cells.2.2.2.2
 have htr10:=htr.upd (Upd.set1 (g:=g) (Upd.refl _ _) 4 (.pointer (some ⟨t,0,none⟩))) (fun e => by have:=HO8.out.blk.lt; omega)
 have hlg:=Gl.open_ p (d0 nb) D 2 N 1 _ hO10.dk (d0_ok HN.out.2) (fun x hx => by cases hx) ⟨by omega,by omega⟩
 have hop:=Gl.opL_new (nb:=nb) (fr:=2) (count:=N) (ep:=1) (by have:=HAr.out.2; omega) (by have:=HAr.out.2; omega) ⟨by omega,by omega⟩
 rw [show (((2:Nat):Int)) = 2 from rfl] at hop
 rw [show d0 nb = ⟨nb,[],-1,false⟩ from rfl,hop] at hlg
 have HL:=hid hlg
 have HO10:=hid hO10
 have HTr:=hid htr10
 have HTn:Hid (¬ t = g):=hid (by have:=HO8.out.blk.lt; omega)
 clear htr hlo9 hu9 hO9 hO10 htr10 hlg hop HT8 HO8 f7 k8 o7
 go_wp2_with (fail)
 refine Calls.mono HL.out ?_
 rintro e w11 ⟨l,G,rfl,hlg,hlgok,hG,hu11⟩
 have hO11:=HO10.out.quiet hu11
 have f11:=hO11.blk.free 2
 have o11:=hO11.cells.2.1
 have o114:=hO11.cells.2.2.2.1
 have hO12:=hO11.put2 (.pointer (some ⟨l,0,none⟩))
 have k12:=hO12.cells.2.1
 have k12t:=hO12.cells.2.2.2.1
 have hu12:Upd (fun k => k = g) w11 (w11.setCell ⟨g,2,none⟩ (.pointer (some ⟨l,0,none⟩))):=Upd.set1 (g:=g) (Upd.refl _ _) 2 (.pointer (some ⟨l,0,none⟩))
 have hgl:=HO10.out.blk.lt
 have hlg12:=(lgO l p (Gl.Lm.new 2 N 1)).keep (F:=G) hlg hu12 fun k hk e => by have:=hG k hk; omega
 have htr12:=(HTr.out.upd hu11 (no_ _)).upd hu12 HTn.out
 have HTk:=hid (tkeys_ htr12 ⟨#[]⟩ ⟨#[]⟩)
 have HO12:=hid hO12
 have HL12:=hid hlg12
 have HG12:Hid (∀ k,G k → w.heap.size ≤ k ∧ ¬ D k ∧ k ≠ g ∧ k ≠ b1 ∧ k ≠ b2):=hid fun k hk => by
  have h1:=hG k hk
  have h2:=HO10.out.upd.size
  have h3:=HO10.out.m1.lt
  have h4:=HO10.out.m2.lt
  exact ⟨by omega,fun hd => by have:=HO10.out.dk.lt k hd; omega,by omega,by omega,by omega⟩
 clear hlg hG hu11 hO11 hO12 hu12 hlg12 htr12 hgl HL HTr HTn f9 k10 o9 o95
 have HGl:=hid hlgok
 clear hlgok
 go_wp2_with (fail)
 refine Calls.mono HTk.out ?_
 rintro e w13 ⟨rfl,hu13⟩
 have HO13:=hid (HO12.out.quiet hu13)
 have HL13:=hid ((lgO l p (Gl.Lm.new 2 N 1)).keep (F:=G) HL12.out hu13 fun _ _ => no_ _)
 clear hu13 HO12 HL12 HTk HO10 f11 k12 k12t o11 o114
 go_wp2_with (fail)
 go_loopw [121] (fun v121 W => v121 = .int .i64 0 ∧ Hid (W = w13)) (fun _ _ => 0)
 case atStart => exact ⟨rfl,hid rfl⟩
 case round =>
  obtain ⟨rfl,hW⟩:=hrel
  obtain rfl:=hW.out
  have k13:=HO13.out.cells.2.1
  have HU:=hid (Gl.units l p _ G _ HL13.out HGl.out)
  rw [show (Gl.Lm.new 2 N 1).us = [] from rfl] at HU
  go_wp2_with (fail)
  refine Calls.mono HU.out ?_
  rintro e w14 ⟨A14,c14,rfl,_,hu14⟩
  rw [List.length_nil]
  have HO14:=hid (HO13.out.quiet hu14)
  have HL14:=hid ((lgO l p (Gl.Lm.new 2 N 1)).keep (F:=G) HL13.out hu14 fun _ _ => no_ _)
  clear hu14 HO13 HL13 HU k13
  go_wp2_with (fail)
  go_loopw [146] (fun v146 W => v146 = .int .i64 0 ∧ Hid (W = w14)) (fun _ _ => 0)
  case atStart => exact ⟨rfl,hid rfl⟩
  case round =>
   obtain ⟨rfl,hW2⟩:=hrel
   obtain rfl:=hW2.out
   go_wp2
   go_ret2
   have:=HNe.out
   subst this
   exact HO14.out.done HL14.out HG12.out
end Fr
end
section
namespace Eg
open Go.RowKit B Cm Ou
open Ac (Am fresh fresh_ok encA encA_le encA_byte)
open Bo (Bp Bm Cg bst La)
open Nd (Rm Inv)
def BB:Int:=1000000000000
structure Ep where
 b:Bp
 pt:Nat
 ba:Nat
 pq:Nat
 pw:Nat
 pc:Nat
 v6:Value
 v7:Value
structure Wh where
 al:List ByteArray
 rem:List ByteArray
structure Em where
 bk:Bm
 n:Nat
 room:Int
 tx:List ByteArray
 act:ByteArray → Am
 wh:Wh
 q:List Rm
 win:Wp.St
 clock:Int
 R:Bp → Ob
 po:Value → Value → Ob
def bkO (b:Bp) (m:Bm) (n:Nat) (R:Ob):Ob:=⟨fun w F => ∃ n1 n2,n1 ≤ n ∧ n2 ≤ n ∧ Star (bst b m n1 n2 R) w F,fun ⟨n1,n2,h1,h2,h3⟩ hu hn => ⟨n1,n2,h1,h2,h3.keep hu hn⟩,fun ⟨_,_,_,_,h⟩ => h.lt⟩
def taO (p:Nat) (room:Int) (x:List ByteArray):Ob:=⟨fun w F => At.Ta w F p room x,fun h hu hn => h.upd hu hn,fun h => h.lt⟩
def qoO (p:Nat) (l:List Rm):Ob:=⟨fun w F => Nd.Qo w F p l,fun h hu hn => h.upd hu hn,fun h => h.lt⟩
def wdO (p:Nat) (x:Wp.St) (n:Nat):Ob:=⟨fun w F => Ww.Wd w F p x n,fun h hu hn => h.upd hu hn,fun h => h.lt⟩
structure Rs (w:World) (F:Nat → Prop) (b n:Nat) (act:ByteArray → Am) (wh:Wh):Prop where
 ex:∃ n' T,n' ≤ n ∧ Ms.Ms Tryz.prog w 9 b n' T ∧ (∀ s,Ms.Ks s → ∀ v,T s = some v → s ∈ wh.al ∧ (s ∉ wh.rem → ∃ p G,v = .pointer (some ⟨p,0,none⟩) ∧ Ac.At w G p (act s) ∧ ∀ k,G k → F k ∧ k ≠ b))
 here:F b
 lt:∀ k,F k → k < w.heap.size
theorem Rs.upd {w w':World} {F H:Nat → Prop} {b n:Nat} {act:ByteArray → Am} {wh:Wh} (h:Rs w F b n act wh) (hu:Upd H w w') (hn:∀ k,F k → ¬ H k):Rs w' F b n act wh:=by
 obtain ⟨⟨n',T,h1,h2,h3⟩,h4,h5⟩:=h
 refine ⟨⟨n',T,h1,h2.upd hu (hn _ h4),fun s hs v hv => ⟨(h3 s hs v hv).1,fun hr => ?_⟩⟩,h4,fun k hk => Nat.lt_of_lt_of_le (h5 k hk) hu.size⟩
 obtain ⟨p,G,e,ha,hg⟩:=(h3 s hs v hv).2 hr
 exact ⟨p,G,e,ha.upd hu fun k hk => hn _ (hg k hk).1,hg⟩
def rsO (b n:Nat) (act:ByteArray → Am) (wh:Wh):Ob:=⟨fun w F => Rs w F b n act wh,fun h hu hn => h.upd hu hn,fun h => h.lt⟩
section
variable {w w2 w3:World} {F H:Nat → Prop} {b n:Nat} {act:ByteArray → Am} {wh:Wh}
theorem Rs.made (w:World) (act:ByteArray → Am) (n:Nat) (wh:Wh):Rs (w.alloc (.map #[] 0)) (fun k => k = w.heap.size) w.heap.size n act wh:=
 ⟨⟨0,_,Nat.zero_le _,Ms.Ms.made _ _ _,fun s _ v hv => by cases hv⟩,rfl,fun k hk => by subst hk; simp⟩
theorem Rs.look (h:Rs w F b n act wh) (h0:wh.rem = []) {s:ByteArray} (hs:Ms.Ks s):∃ v ok,(Instr.lookup 96 (.map (some b)) (.string s) true).run Tryz.prog w = .ok (.tuple #[v,.bool ok]) w ∧
 (ok = true → ∃ p G,v = .pointer (some ⟨p,0,none⟩) ∧ Ac.At w G p (act s)):=by
 obtain ⟨⟨n',T,h1,h2,h3⟩,h4,h5⟩:=h
 have hl:=h2.look_ok (t:=96) (e:=49) Tryz.underlying9 Tryz.underlying96 (z:=.pointer none) (by kernel_rfl) hs
 refine ⟨_,_,hl,fun hok => ?_⟩
 cases ht:T s with
 | none => rw [ht] at hok; cases hok
 | some v =>
  obtain ⟨p,G,e,ha,hg⟩:=(h3 s hs v ht).2 (by rw [h0]; simp)
  exact ⟨p,G,e,ha⟩
theorem Rs.map (h:Rs w F b n act wh):∃ n' T,n' ≤ n ∧ Ms.Ms Tryz.prog w 9 b n' T ∧ (∀ s,Ms.Ks s → (T s).isSome = true → s ∈ wh.al) ∧
 (∀ s w',Upd (fun i => i = b) w w' → Ms.Ms Tryz.prog w' 9 b n' (Ms.put T s none) → Rs w' F b n act ⟨wh.al.filter fun t => !decide (t = s),wh.rem⟩ ∧ Mv F F w w') ∧
 ∀ s p a (G:Nat → Prop) w',Upd (fun i => i = b) w w' → Ac.At w G p a → (∀ k,G k → k ≠ b) → Ms.Ms Tryz.prog w' 9 b (n' + 1) (Ms.put T s (some (.pointer (some ⟨p,0,none⟩)))) → a = act s → Rs w' (fun k => F k ∨ G k) b (n + 1) act ⟨s :: wh.al,wh.rem.filter fun t => !decide (t = s)⟩ ∧ Upd F w w':=by
 obtain ⟨⟨n',T,h1,h2,h3⟩,h4,h5⟩:=h
 refine ⟨n',T,h1,h2,fun s hs ht => ?_,fun s w' hu hm => ⟨⟨⟨n',_,h1,hm,fun t ht v hv => ?_⟩,h4,fun k hk => Nat.lt_of_lt_of_le (h5 k hk) hu.size⟩,hu.mono fun k _ e => e ▸ h4,fun k hk => .inl hk⟩,fun s p a G w' hu ha hG hm hact => ⟨⟨⟨n' + 1,_,by omega,hm,fun t ht v hv => ?_⟩,.inl h4,fun k hk => ?_⟩,hu.mono fun k _ e => e ▸ h4⟩⟩
 · obtain ⟨v,hv⟩:=Option.isSome_iff_exists.1 ht
   exact (h3 s hs v hv).1
 · unfold Ms.put at hv
   by_cases hk:t = s
   · rw [if_pos hk] at hv; cases hv
   · rw [if_neg hk] at hv
     obtain ⟨h6,h7⟩:=h3 t ht v hv
     refine ⟨List.mem_filter.2 ⟨h6,by simp [hk]⟩,fun hr => ?_⟩
     obtain ⟨p,G,e,ha,hg⟩:=h7 hr
     exact ⟨p,G,e,ha.upd hu fun k hk => (hg k hk).2,hg⟩
 · unfold Ms.put at hv
   by_cases hk:t = s
   · rw [if_pos hk] at hv
     simp only [Option.some.injEq] at hv
     exact ⟨by simp [hk],fun _ => ⟨p,G,hv.symm,by rw [hk,← hact]; exact ha.upd hu hG,fun k hk => ⟨.inr hk,hG k hk⟩⟩⟩
   · rw [if_neg hk] at hv
     obtain ⟨h6,h7⟩:=h3 t ht v hv
     refine ⟨List.mem_cons_of_mem _ h6,fun hr => ?_⟩
     obtain ⟨p,G',e,ha',hg⟩:=h7 fun h8 => hr (List.mem_filter.2 ⟨h8,by simp [hk]⟩)
     exact ⟨p,G',e,ha'.upd hu fun k hk => (hg k hk).2,fun k hk => ⟨.inl (hg k hk).1,(hg k hk).2⟩⟩
 · have:=hu.size
   rcases hk with hk | hk
   · have:=h5 k hk; omega
   · have:=ha.lt k hk; omega
theorem Rs.wide {wh':Wh} {n':Nat} (h:Rs w F b n act wh) (hn:n ≤ n') (h1:∀ s ∈ wh.al,s ∈ wh'.al) (h2:∀ s ∈ wh.rem,s ∈ wh'.rem):Rs w F b n' act wh':=by
 obtain ⟨⟨a,T,h3,h4,h5⟩,h6,h7⟩:=h
 exact ⟨⟨a,T,Nat.le_trans h3 hn,h4,fun s hs v hv => ⟨h1 s (h5 s hs v hv).1,fun hr => (h5 s hs v hv).2 fun h8 => hr (h2 s h8)⟩⟩,h6,h7⟩
end
def ecs (e:Ep) (m:Em):Array Value:=#[.pointer (some ⟨e.b.q,0,none⟩),.pointer (some ⟨e.pt,0,none⟩),.map (some e.ba),.pointer (some ⟨e.pq,0,none⟩),.pointer (some ⟨e.pw,0,none⟩),.int .i64 m.clock,e.v6,e.v7,.pointer (some ⟨e.pc,0,none⟩),.bool false]
def est (p:Nat) (e:Ep) (m:Em):List Ob:=[Ob.blk p 104 (ecs e m),bkO e.b m.bk m.n (m.R e.b),taO e.pt m.room m.tx,rsO e.ba m.n m.act m.wh,qoO e.pq m.q,wdO e.pw m.win m.n,Cn.ctO e.pc,m.po e.v6 e.v7]
def akey (k:ByteArray):ByteArray:=⟨#[97]⟩ ++ k
structure Em.ok (m:Em):Prop where
 bok:m.bk.ok
 few:m.n ≤ 400000
 rm:At.mst m.room ≤ 10000
 tl:m.tx.length ≤ 10000 ∧ ∀ k ∈ m.tx,Kk k
 tie:∀ k,Kk k → (m.bk.tab (akey k) = some (encA (m.act k)) ∧ (m.act k).ok BB) ∨ (m.bk.tab (akey k) = none ∧ m.act k = fresh k)
 own:∀ k,Kk k → (m.act k).out.own = k
 inv:Inv m.q
 zer:∀ k,Kk k → (m.act k).jn.2.2 = 0 → (m.act k).jn = Jn.s0
 pnd:m.bk.pend ≤ m.n ∧ m.bk.d.log.length ≤ 2 * m.n
 wok:Wp.Ok m.win
def Em.tidy (m:Em):Prop:=m.wh.rem = [] ∧ ∀ s ∈ m.wh.al,s ∈ m.tx
structure En (w:World) (F:Nat → Prop) (p:Nat) (m:Em):Prop where
 ex:∃ e,Star (est p e m) w F
 ok:m.ok
section
variable {w w':World} {F G:Nat → Prop} {p:Nat} {m:Em}
theorem En.upd (h:En w F p m) (hu:Upd G w w') (hn:∀ k,F k → ¬ G k):En w' F p m:=⟨h.ex.imp fun _ hs => hs.keep hu hn,h.ok⟩
theorem En.quiet (h:En w F p m) (hu:Upd No w w'):En w' F p m:=h.upd hu fun _ _ => no_ _
theorem En.lt (h:En w F p m):∀ k,F k → k < w.heap.size:=by
 obtain ⟨_,hs⟩:=h.ex
 exact hs.lt
theorem Em.ok.act (h:m.ok) {k:ByteArray} (hk:Kk k):(m.act k).ok BB:=by
 rcases h.tie k hk with h | h
 · exact h.2
 · rw [h.2]
   exact (fresh_ok hk).mono (by unfold BB; omega)
theorem ecells {e:Ep} (h:Blk w p 104 (ecs e m)):(w.cell? ⟨p,0,none⟩ = some (.pointer (some ⟨e.b.q,0,none⟩)) ∧ w.cell? ⟨p,1,none⟩ = some (.pointer (some ⟨e.pt,0,none⟩)) ∧ w.cell? ⟨p,2,none⟩ = some (.map (some e.ba)) ∧ w.cell? ⟨p,3,none⟩ = some (.pointer (some ⟨e.pq,0,none⟩)) ∧ w.cell? ⟨p,4,none⟩ = some (.pointer (some ⟨e.pw,0,none⟩))) ∧
 w.cell? ⟨p,5,none⟩ = some (.int .i64 m.clock) ∧ w.cell? ⟨p,6,none⟩ = some e.v6 ∧ w.cell? ⟨p,7,none⟩ = some e.v7 ∧ w.cell? ⟨p,8,none⟩ = some (.pointer (some ⟨e.pc,0,none⟩)) ∧ w.cell? ⟨p,9,none⟩ = some (.bool false):=
 ⟨⟨h.cell 0,h.cell 1,h.cell 2,h.cell 3,h.cell 4⟩,h.cell 5,h.cell 6,h.cell 7,h.cell 8,h.cell 9⟩
theorem Star.own {w:World} {F:Nat → Prop} {l:List Ob} {o:Ob} (h:Star l w F) (i:Nat) (hi:l[i]? = some o):∃ G,o.is w G ∧ ∀ k,G k → F k:=by
 obtain ⟨G,h1,h2,_⟩:=h.at_ i hi
 exact ⟨G,h1,h2⟩
end
theorem gone_ {w:World} {F:Nat → Prop} {p:Nat} {m:Em} (h:En w F p m) :
 Calls Tryz.prog 40 #[.pointer (some ⟨p,0,none⟩)] w fun e w' => e = .returned (.int .i64 0) ∧ w = w':=by
 obtain ⟨e,hs⟩:=h.ex
 obtain ⟨G,hb,_⟩:=Star.own hs 0 rfl
 obtain ⟨_,_,_,_,_,c9⟩:=ecells hb.1
 clear h hs hb
 go_enter Tryz.func40,Tryz.ntmps40
 go_wp2
 go_ret
 exact ⟨rfl,rfl⟩
def Kept (w:World) (F:Nat → Prop) (p:Nat) (m:Em) (w':World):Prop:=∃ F',En w' F' p m ∧ Mv F F' w w'
theorem count_ {w:World} {F:Nat → Prop} {p:Nat} {m:Em} (h:En w F p m):∃ e,Star (est p e m) w F ∧ ∀ i:Nat,i < 8 →
 Calls Tryz.prog 55 #[.pointer (some ⟨e.pc,0,none⟩),.int .i64 i,.int .u64 1] w fun e w' => ∃ n,e = .returned (.int .u64 n) ∧ Kept w F p m w':=by
 obtain ⟨e,hs⟩:=h.ex
 refine ⟨e,hs,fun i hi => ?_⟩
 obtain ⟨G,hc,_,hput⟩:=hs.at_ 6 (o:=Cn.ctO e.pc) rfl
 refine (Cn.add hc i hi 1 (by omega)).mono ?_
 rintro e' w' ⟨n,rfl,h1,h2⟩
 obtain ⟨F',k1,k2⟩:=hput w' G (Cn.ctO e.pc) ⟨h2,fun _ h => .inl h⟩ h1
 exact ⟨n,rfl,F',⟨⟨e,k1⟩,h.ok⟩,k2⟩
set_option maxRecDepth 100000 in
theorem end_ok {w:World} {F:Nat → Prop} {p:Nat} {m:Em} (h:En w F p m) :
 Calls Tryz.prog 44 #[.pointer (some ⟨p,0,none⟩),.int .i64 0] w fun e w' => e = .returned (.int .i64 0) ∧ w = w':=by
 go_enter Tryz.func44,Tryz.ntmps44
 go_wp2
 go_ret
 exact ⟨rfl,rfl⟩
set_option maxRecDepth 100000 in
theorem end_ {w:World} {F:Nat → Prop} {p:Nat} {m:Em} (h:En w F p m) (f:Int) (hf:f ≠ 0) (hf9:f ≠ 9) :
 Calls Tryz.prog 44 #[.pointer (some ⟨p,0,none⟩),.int .i64 f] w fun e w' => e = .returned (.int .i64 f) ∧ Kept w F p m w':=by
 obtain ⟨e,hs,hc⟩:=count_ h
 obtain ⟨G,hb,_⟩:=Star.own hs 0 rfl
 obtain ⟨_,_,_,_,c8,_⟩:=ecells hb.1
 have HC:=hid (show Calls Tryz.prog 55 #[.pointer (some ⟨e.pc,0,none⟩),.int .i64 6,.int .u64 1] w fun e w' => ∃ n,e = .returned (.int .u64 n) ∧ Kept w F p m w' from hc 6 (by omega))
 clear hs hc hb h
 go_enter Tryz.func44,Tryz.ntmps44
 go_wp2_with (fail)
 refine HC.out.mono ?_
 rintro e w1 ⟨n,rfl,hk⟩
 have HK:=hid hk
 clear hk HC
 go_wp2
 go_ret
 exact ⟨rfl,HK.out⟩
end Eg
end
section
namespace Eg
open Go.RowKit B Cm Ou
open Ac (Am fresh fresh_ok encA encA_le encA_byte)
open Bo (Bp Bm Cg bst La)
open Nd (Rm Inv)
theorem akey_ks {k:ByteArray} (h:Kk k):Ms.Ks (akey k):=by
 have h1:=h.2
 have e:(akey k).size = 1 + k.size:=by
  unfold akey
  rw [ByteArray.size_append]
  rfl
 unfold Ms.Ks
 rw [e]
 simp only [maxLen]
 omega
theorem akey_run (k:ByteArray) (hk:Kk k) (W:World):(Op.stringOp .add ⟨#[97]⟩ k).run Tryz.prog W = .ok (.string (akey k)) W:=
 run_string_add_sum W _ _ (by have:=hk.2; have e:(⟨#[97]⟩:ByteArray).size = 1:=rfl; omega)
def KpOut (w:World) (a:Am) (e:Ending) (w':World):Prop:=∃ p G,e = .returned (.pointer (some ⟨p,0,none⟩)) ∧ Ac.At w' G p a ∧ (∀ k,G k → w.heap.size ≤ k) ∧ Upd No w w'
theorem KpOut.of {w:World} {a:Am} {e:Ending} {w':World} (h:∃ p G,e = .returned (.pointer (some ⟨p,0,none⟩)) ∧ Ac.At w' G p a ∧ (∀ k,G k → w.heap.size ≤ k) ∧ Upd No w w'):KpOut w a e w':=h
set_option maxRecDepth 100000 in
theorem kept_ {w:World} {F:Nat → Prop} {p:Nat} {m:Em} (h:En w F p m) {k:ByteArray} (hk:Kk k) :
 Calls Tryz.prog 116 #[.pointer (some ⟨p,0,none⟩),.string k] w fun e w' => KpOut w (m.act k) e w':=by
 obtain ⟨e,hs⟩:=h.ex
 obtain ⟨G,hb,_⟩:=Star.own hs 0 rfl
 obtain ⟨⟨c0,_⟩,_⟩:=ecells hb.1
 obtain ⟨Q,⟨n1,n2,hn1,hn2,hq⟩,_⟩:=Star.own hs 1 rfl
 have hok:=h.ok
 have hact:=hok.act hk
 have hfew:=hok.few
 have HA:=hid hact
 have hks:=akey_ks hk
 have hcs:Hid (Kk k):=hid hk
 have hcat:=fun W => akey_run k hk W
 have HN:=fun W => hid (Ac.new_ k hk W)
 rcases hok.tie k hk with ⟨ht,_⟩ | ⟨ht,hfr⟩
 · have hlen:=encA_le hact
   have HG:=Bo.get hq (k:=akey k) (by omega) hks (by rw [ht]; simp only [Option.getD_some]; omega)
   rw [ht] at HG
   simp only [Option.getD_some,Option.isSome_some] at HG
   replace HG:=hid HG
   clear hs hb hq h hok hfew hact ht hk hks hn1 hn2
   go_enter Tryz.func116,Tryz.ntmps116
   go_wp2_with (fail)
   refine HG.out.mono ?_
   rintro e w1 ⟨A1,c1,rfl,ho1,hby,hu1⟩
   have HD:=hid (Ac.decode (c:=c1) (Rd.of_own ho1) HA.out (by unfold BB; omega))
   have HU:=hid hu1
   clear ho1 hby hu1 HG
   go_wp2_with (fail)
   refine HD.out.mono ?_
   rintro e w2 ⟨q,Q2,rfl,hq2,hf2,hu2⟩
   have HX:=hid (And.intro hq2 (And.intro hf2 hu2))
   clear hq2 hf2 hu2 HD
   go_wp2
   go_ret
   exact .of ⟨q,Q2,rfl,HX.out.1,fun k hk => Nat.le_trans HU.out.size (HX.out.2.1 k hk),HU.out.next HX.out.2.2⟩
 · have HG:=Bo.get hq (k:=akey k) (by omega) hks (by rw [ht]; simp)
   rw [ht] at HG
   simp only [Option.getD_none,Option.isSome_none,List.length_nil] at HG
   replace HG:=hid HG
   have HFr:=hid hfr
   clear hs hb hq h hok hfew hact ht hk hks hn1 hn2 hfr
   go_enter Tryz.func116,Tryz.ntmps116
   go_wp2_with (fail)
   refine HG.out.mono ?_
   rintro e w1 ⟨A1,c1,rfl,ho1,hby,hu1⟩
   have HU:=hid hu1
   have HD:=HN w1
   clear ho1 hby hu1 HG
   go_wp2_with (fail)
   refine HD.out.mono ?_
   rintro e w2 ⟨q,Q2,rfl,hq2,hf2,hu2⟩
   have HX:=hid (And.intro hq2 (And.intro hf2 hu2))
   clear hq2 hf2 hu2 HD
   go_wp2
   go_ret
   exact .of ⟨q,Q2,rfl,by rw [HFr.out]; exact HX.out.1,fun k hk => Nat.le_trans HU.out.size (HX.out.2.1 k hk),HU.out.next HX.out.2.2⟩
inductive Wk (w:World):List Ob → List Ob → Prop
 | nil:Wk w [] []
 | cons {o o':Ob} {l l':List Ob} (h:∀ G,o.is w G → o'.is w G) (t:Wk w l l'):Wk w (o :: l) (o' :: l')
theorem Star.weak {w:World} {l l':List Ob} (h:Wk w l l'):∀ {F:Nat → Prop},Star l w F → Star l' w F:=by
 induction h with
 | nil => exact fun h => h
 | cons h1 _ ih =>
  rintro F ⟨A,B,g1,g2,g3,g4,g5,g6⟩
  exact ⟨A,B,h1 A g1,ih g2,g3,g4,g5,g6⟩
theorem Star.grow {w:World}:∀ {l:List Ob} {F:Nat → Prop} (h:Star l w F) (i:Nat) {o:Ob},l[i]? = some o → ∃ G,o.is w G ∧ (∀ k,G k → F k) ∧
 ∀ w' G' o',Upd G w w' → (∀ k,G' k → G k ∨ ¬ F k) → o'.is w' G' → ∃ F',Star (l.set i o') w' F' ∧ ∀ k,F' k → F k ∨ G' k
 | [],_,_,_,_,hi => by simp at hi
 | a :: r,F,⟨A,B,h1,h2,h3,h4,h5,h6⟩,0,o,hi => by
  simp only [List.getElem?_cons_zero,Option.some.injEq] at hi
  subst hi
  refine ⟨A,h1,h4,fun w' G' o' hu hg ho => ⟨fun k => F k ∨ G' k,⟨G',B,ho,h2.keep hu fun k hb ha => h3 k ha hb,fun k hk hb => ?_,fun k hk => .inr hk,fun k hk => .inl (h5 k hk),fun k hk => ?_⟩,fun k hk => hk⟩⟩
  · rcases hg k hk with h | h
    · exact h3 k h hb
    · exact h (h5 k hb)
  · rcases hk with hk | hk
    · have:=h6 k hk
      have:=hu.size
      omega
    · exact o'.lt ho k hk
 | a :: r,F,⟨A,B,h1,h2,h3,h4,h5,h6⟩,i + 1,o,hi => by
  simp only [List.getElem?_cons_succ] at hi
  obtain ⟨G,g1,g2,g3⟩:=Star.grow h2 i hi
  refine ⟨G,g1,fun k hk => h5 k (g2 k hk),fun w' G' o' hu hg ho => ?_⟩
  obtain ⟨B',k1,k2⟩:=g3 w' G' o' hu (fun k hk => (hg k hk).imp id fun h hb => h (h5 k hb)) ho
  refine ⟨fun k => F k ∨ B' k,⟨A,B',a.keep h1 hu fun k ha hg' => h3 k ha (g2 k hg'),k1,fun k ha hb => ?_,fun k hk => .inl (h4 k hk),fun k hk => .inr hk,fun k hk => ?_⟩,fun k hk => ?_⟩
  · rcases k2 k hb with h | h
    · exact h3 k ha h
    · rcases hg k h with h | h
      · exact h3 k ha (g2 k h)
      · exact h (h4 k ha)
  · rcases hk with hk | hk
    · have:=h6 k hk
      have:=hu.size
      omega
    · exact k1.lt k hk
  · rcases hk with hk | hk
    · exact .inl hk
    · exact (k2 k hk).imp (h5 k) id
theorem bk_more {w:World} {b:Bp} {m:Bm} {n n':Nat} {R:Ob} (hn:n ≤ n'):∀ G,(bkO b m n R).is w G → (bkO b m n' R).is w G:=fun _ ⟨a,c,h1,h2,h3⟩ => ⟨a,c,Nat.le_trans h1 hn,Nat.le_trans h2 hn,h3⟩
theorem wd_more {w:World} {p n n':Nat} {x:Wp.St} (hn:n ≤ n'):∀ G,(wdO p x n).is w G → (wdO p x n').is w G:=fun _ ⟨mo,v,mm,G,hx⟩ => ⟨mo,v,mm,G,Ww.Wx.mono hx hn⟩
theorem wk_more {w:World} {p:Nat} {e:Ep} {m:Em} {n:Nat} (hn:m.n ≤ n):Wk w (est p e m) (est p e { m with n:=n }):=
 .cons (fun _ h => h) (.cons (bk_more hn) (.cons (fun _ h => h) (.cons (fun _ h => Rs.wide h hn (fun _ h => h) fun _ h => h) (.cons (fun _ h => h) (.cons (wd_more hn) (.cons (fun _ h => h) (.cons (fun _ h => h) .nil)))))))
theorem wk_put {w:World} {p:Nat} {e:Ep} {m:Em} {wh:Wh}:Wk w ((est p e m).set 3 (rsO e.ba (m.n + 1) m.act wh)) (est p e { m with n:=m.n + 1,wh:=wh }):=
 .cons (fun _ h => h) (.cons (bk_more (Nat.le_succ _)) (.cons (fun _ h => h) (.cons (fun _ h => h) (.cons (fun _ h => h) (.cons (wd_more (Nat.le_succ _)) (.cons (fun _ h => h) (.cons (fun _ h => h) .nil)))))))
theorem wk_wide {w:World} {p:Nat} {e:Ep} {m:Em} {wh:Wh} (h1:∀ s ∈ m.wh.al,s ∈ wh.al) (h2:∀ s ∈ m.wh.rem,s ∈ wh.rem):Wk w (est p e m) (est p e { m with wh:=wh }):=
 .cons (fun _ h => h) (.cons (fun _ h => h) (.cons (fun _ h => h) (.cons (fun _ h => Rs.wide h (Nat.le_refl _) h1 h2) (.cons (fun _ h => h) (.cons (fun _ h => h) (.cons (fun _ h => h) (.cons (fun _ h => h) .nil)))))))
theorem En.wide {w:World} {F:Nat → Prop} {p:Nat} {m:Em} (h:En w F p m) {wh:Wh} (h1:∀ s ∈ m.wh.al,s ∈ wh.al) (h2:∀ s ∈ m.wh.rem,s ∈ wh.rem):En w F p { m with wh:=wh }:=by
 obtain ⟨⟨e,hs⟩,hok⟩:=h
 exact ⟨⟨e,Star.weak (wk_wide h1 h2) hs⟩,⟨hok.bok,hok.few,hok.rm,hok.tl,hok.tie,hok.own,hok.inv,hok.zer,hok.pnd,hok.wok⟩⟩
theorem En.more {w:World} {F:Nat → Prop} {p:Nat} {m:Em} (h:En w F p m) {n:Nat} (hn:m.n ≤ n) (hn2:n ≤ 400000):En w F p { m with n:=n }:=by
 obtain ⟨⟨e,hs⟩,hok⟩:=h
 exact ⟨⟨e,Star.weak (wk_more hn) hs⟩,⟨hok.bok,hn2,hok.rm,hok.tl,hok.tie,hok.own,hok.inv,hok.zer,⟨Nat.le_trans hok.pnd.1 hn,by have:=hok.pnd.2; simp only; omega⟩,hok.wok⟩⟩
def Em.touched (m:Em) (k:ByteArray):Em:={ m with tx:=(At.touchX m.tx (At.mst m.room) k).1 }
theorem touched_ok {m:Em} (h:m.ok) {k:ByteArray} (hk:Kk k):(m.touched k).ok ∧ ((At.touchX m.tx (At.mst m.room) k).2.2 = true → Kk (At.touchX m.tx (At.mst m.room) k).2.1):=by
 have hl:=At.touchX_le m.tx (At.mst m.room) k h.rm h.tl.1
 have hall:∀ y ∈ At.laidk m.tx k,Kk y:=fun y hy => by
  unfold At.laidk At.strike at hy
  rcases List.mem_append.1 hy with hy | hy
  · exact h.tl.2 y (List.mem_filter.1 hy).1
  · rw [List.mem_singleton.1 hy]; exact hk
 refine ⟨⟨h.bok,h.few,h.rm,⟨hl,?_⟩,h.tie,h.own,h.inv,h.zer,h.pnd,h.wok⟩,?_⟩
 · intro y hy
   unfold Em.touched At.touchX at hy
   simp only at hy
   split at hy
   · exact hall y hy
   · exact hall y (List.mem_of_mem_drop hy)
 · unfold At.touchX
   split
   · intro h; cases h
   · intro _
     have hne:At.laidk m.tx k ≠ []:=by simp [At.laidk]
     generalize At.laidk m.tx k = z at *
     rcases z with _ | ⟨a,r⟩
     · exact absurd rfl hne
     · exact hall a (by simp)
theorem touch_al {m:Em} (h:m.tidy) (k:ByteArray):k ∈ (m.touched k).tx ∧ ((At.touchX m.tx (At.mst m.room) k).2.2 = false → ∀ s ∈ m.wh.al,s ∈ (m.touched k).tx) ∧
 ((At.touchX m.tx (At.mst m.room) k).2.2 = true → ∀ s ∈ m.wh.al.filter fun t => !decide (t = (At.touchX m.tx (At.mst m.room) k).2.1),s ∈ (m.touched k).tx):=by
 have hm1:1 ≤ At.mst m.room:=by unfold At.mst; split <;> omega
 have hall:∀ s ∈ m.wh.al,s ∈ At.laidk m.tx k:=fun s hs => by
  unfold At.laidk At.strike
  by_cases hk:s = k
  · exact List.mem_append_right _ (by simp [hk])
  · exact List.mem_append_left _ (List.mem_filter.2 ⟨h.2 s hs,by simp [hk]⟩)
 unfold Em.touched At.touchX
 simp only
 split
 · exact ⟨by simp [At.laidk],fun _ => hall,fun h => by cases h⟩
 · rename_i hgt
   have hk1:k ∈ (At.laidk m.tx k).drop 1:=by
    have e:At.laidk m.tx k = At.strike m.tx k ++ [k]:=rfl
    rcases hz:At.strike m.tx k with _ | ⟨a,r⟩
    · rw [e,hz] at hgt
      simp at hgt
      omega
    · rw [e,hz]
      simp
   refine ⟨hk1,fun h => (by cases h),fun _ s hs => ?_⟩
   obtain ⟨h1,h2⟩:=List.mem_filter.1 hs
   have h3:=hall s h1
   generalize At.laidk m.tx k = z at *
   rcases z with _ | ⟨a,r⟩
   · cases h3
   · rcases List.mem_cons.1 h3 with h3 | h3
     · simp [h3] at h2
     · exact h3
theorem touch_ {w:World} {F:Nat → Prop} {p:Nat} {m:Em} (h:En w F p m) {k:ByteArray} (hk:Kk k):∃ e,Star (est p e m) w F ∧
 Calls Tryz.prog 115 #[.pointer (some ⟨e.pt,0,none⟩),.string k] w fun e' w' => e' = .returned (.tuple #[.string (At.touchX m.tx (At.mst m.room) k).2.1,.bool (At.touchX m.tx (At.mst m.room) k).2.2]) ∧ Kept w F p (m.touched k) w':=by
 obtain ⟨e,hs⟩:=h.ex
 refine ⟨e,hs,?_⟩
 obtain ⟨G,ht,_,hput⟩:=hs.at_ 2 (o:=taO e.pt m.room m.tx) rfl
 refine (At.touch k ht h.ok.tl.1).mono ?_
 rintro e' w' ⟨rfl,G',h1,h2⟩
 obtain ⟨F',k1,k2⟩:=hput w' G' (taO e.pt m.room (m.touched k).tx) h2 h1
 exact ⟨rfl,F',⟨⟨e,k1⟩,(touched_ok h.ok hk).1⟩,k2⟩
theorem acts_ {w:World} {F:Nat → Prop} {p:Nat} {m:Em} (h:En w F p m):∃ e,Star (est p e m) w F ∧ ∃ n' T,n' < maxLen ∧ Ms.Ms Tryz.prog w 9 e.ba n' T ∧ (∀ s,Ms.Ks s → (T s).isSome = true → s ∈ m.wh.al) ∧
 (∀ s w',Upd (fun i => i = e.ba) w w' → Ms.Ms Tryz.prog w' 9 e.ba n' (Ms.put T s none) → Kept w F p { m with wh:=⟨m.wh.al.filter fun t => !decide (t = s),m.wh.rem⟩ } w') ∧
 (m.wh.rem = [] → ∀ s,Ms.Ks s → ∃ v ok,(Instr.lookup 96 (.map (some e.ba)) (.string s) true).run Tryz.prog w = .ok (.tuple #[v,.bool ok]) w ∧ (ok = true → ∃ p G,v = .pointer (some ⟨p,0,none⟩) ∧ Ac.At w G p (m.act s))):=by
 obtain ⟨e,hs⟩:=h.ex
 obtain ⟨G,hr,hGF,hput⟩:=hs.at_ 3 (o:=rsO e.ba m.n m.act m.wh) rfl
 obtain ⟨n',T,h1,h2,h0,h3,_⟩:=Rs.map hr
 refine ⟨e,hs,n',T,by have:=h.ok.few; simp only [maxLen]; omega,h2,h0,fun s w' hu hm => ?_,fun hrem s hs' => Rs.look hr hrem hs'⟩
 obtain ⟨g1,g2⟩:=h3 s w' hu hm
 obtain ⟨F',k1,k2⟩:=hput w' G (rsO e.ba m.n m.act _) g2 g1
 exact ⟨F',⟨⟨e,k1⟩,⟨h.ok.bok,h.ok.few,h.ok.rm,h.ok.tl,h.ok.tie,h.ok.own,h.ok.inv,h.ok.zer,h.ok.pnd,h.ok.wok⟩⟩,k2⟩
theorem put_ {w:World} {F:Nat → Prop} {p:Nat} {m:Em} (h:En w F p m) (hn:m.n < 400000):∃ e,Star (est p e m) w F ∧ ∃ n' T,n' < maxLen ∧ Ms.Ms Tryz.prog w 9 e.ba n' T ∧
 ∀ s q a (G:Nat → Prop) w',a = m.act s → Upd (fun i => i = e.ba) w w' → Ac.At w G q a → (∀ k,G k → ¬ F k) → Ms.Ms Tryz.prog w' 9 e.ba (n' + 1) (Ms.put T s (some (.pointer (some ⟨q,0,none⟩)))) →
  Ac.At w' G q a ∧ Upd F w w' ∧ ∃ F',En w' F' p { m with n:=m.n + 1,wh:=⟨s :: m.wh.al,m.wh.rem.filter fun t => !decide (t = s)⟩ } ∧ ∀ k,F' k → F k ∨ G k:=by
 obtain ⟨e,hs⟩:=h.ex
 obtain ⟨G0,hr,hGF,hput⟩:=Star.grow hs 3 (o:=rsO e.ba m.n m.act m.wh) rfl
 obtain ⟨n',T,h1,hT,_,_,h4⟩:=Rs.map hr
 refine ⟨e,hs,n',T,by have:=h.ok.few; simp only [maxLen]; omega,hT,fun s q a G w' ha hu hat hG hm => ?_⟩
 have hGb:∀ k,G k → k ≠ e.ba:=fun k hk e' => hG k hk (hGF _ (e' ▸ hr.here))
 obtain ⟨g1,g2⟩:=h4 s q a G w' hu hat hGb hm ha
 obtain ⟨F',k1,k2⟩:=hput w' (fun k => G0 k ∨ G k) (rsO e.ba (m.n + 1) m.act _) g2 (fun k hk => hk.elim .inl fun h => .inr (hG k h)) g1
 exact ⟨hat.upd hu hGb,g2.mono fun k _ hk => hGF k hk,F',⟨⟨e,Star.weak wk_put k1⟩,⟨h.ok.bok,by simp only; omega,h.ok.rm,h.ok.tl,h.ok.tie,h.ok.own,h.ok.inv,h.ok.zer,⟨Nat.le_succ_of_le h.ok.pnd.1,by have:=h.ok.pnd.2; simp only; omega⟩,h.ok.wok⟩⟩,fun k hk => (k2 k hk).elim .inl fun h => h.elim (fun h => .inl (hGF k h)) .inr⟩
end Eg
end
section
namespace Eg
open Go.RowKit B Cm Ou
open Ac (Am fresh fresh_ok encA encA_le encA_byte)
open Bo (Bp Bm Cg bst La)
open Nd (Rm Inv)
def Em.loaded (m:Em) (k:ByteArray):Em:={ m.touched k with n:=m.n + 1,wh:=⟨(m.touched k).tx,[]⟩ }
theorem loaded_tidy (m:Em) (k:ByteArray):(m.loaded k).tidy:=⟨rfl,fun _ h => h⟩
def LdOut (w:World) (F:Nat → Prop) (p:Nat) (m:Em) (k:ByteArray) (e:Ending) (w':World):Prop:=∃ q G F',e = .returned (.pointer (some ⟨q,0,none⟩)) ∧ Ac.At w' G q (m.act k) ∧ En w' F' p (m.loaded k) ∧ Mv F F' w w'
theorem LdOut.of {w:World} {F:Nat → Prop} {p:Nat} {m:Em} {k:ByteArray} {e:Ending} {w':World} (h:∃ q G F',e = .returned (.pointer (some ⟨q,0,none⟩)) ∧ Ac.At w' G q (m.act k) ∧ En w' F' p (m.loaded k) ∧ Mv F F' w w'):LdOut w F p m k e w':=h
set_option maxRecDepth 100000 in
theorem load_ {w:World} {F:Nat → Prop} {p:Nat} {m:Em} (h:En w F p m) (htd:m.tidy) {k:ByteArray} (hk:Kk k) (hn:m.n < 400000) :
 Calls Tryz.prog 50 #[.pointer (some ⟨p,0,none⟩),.string k] w fun e w' => LdOut w F p m k e w':=by
 obtain ⟨e,hs,hT⟩:=touch_ h hk
 obtain ⟨G,hb,_⟩:=Star.own hs 0 rfl
 obtain ⟨⟨c0,c1,_⟩,_⟩:=ecells hb.1
 have HT:=hid hT
 have hgk:=(touched_ok h.ok hk).2
 have hks:=kk_ks hk
 have HKk:=hid hk
 have hn1:(m.touched k).n < 400000:=hn
 have ha1:(m.touched k).act = m.act:=rfl
 have hl1:m.loaded k = { m.touched k with n:=(m.touched k).n + 1,wh:=⟨(m.touched k).tx,[]⟩ }:=rfl
 have HAl:=hid (touch_al htd k)
 have hrem:(m.touched k).wh = m.wh:=rfl
 have HRm:=hid (And.intro hrem htd.1)
 have HL1:=hid hl1
 have HA1:=hid ha1
 clear hs hT hb h hl1 ha1 htd hrem
 generalize At.touchX m.tx (At.mst m.room) k = r at *
 obtain ⟨r1,g,ok⟩:=r
 simp only at hgk
 generalize m.touched k = m1 at *
 go_enter Tryz.func50,Tryz.ntmps50
 go_wp2_with (fail)
 refine HT.out.mono ?_
 rintro e w1 ⟨rfl,F1,he1,hm1⟩
 have HE1:=hid (And.intro he1 hm1)
 clear HT he1 hm1 c0 c1
 rcases ok with _ | _
 case' false =>
  have HQ:Hid (∃ F',En w1 F' p { m1 with wh:=⟨m1.tx,[]⟩ } ∧ Mv F F' w w1):=hid ⟨_,HE1.out.1.wide (fun s hs => HAl.out.2.1 rfl s (by rw [← HRm.out.1]; exact hs)) (by rw [HRm.out.1,HRm.out.2]; simp),HE1.out.2⟩
  clear HE1
 case' true =>
  obtain ⟨e1,hs1,n',T,hn',hM,_,hdel,_⟩:=acts_ HE1.out.1
  obtain ⟨G,hb,_⟩:=Star.own hs1 0 rfl
  obtain ⟨⟨_,_,c2,_⟩,_⟩:=ecells hb.1
  have hgs:=kk_ks (hgk rfl)
  have HD:=hid hdel
  clear hs1 hdel hb
  obtain ⟨w2,hr2,hM2,hu2⟩:=hM.drop (t:=96) (e:=49) Tryz.underlying9 Tryz.underlying96 hgs 0
  have HE2:=hid ((HD.out g w2 hu2 hM2).imp fun F2 h => And.intro h.1 (HE1.out.2.trans h.2))
  obtain ⟨F2,he2,hm2⟩:=HE2.out
  obtain ⟨e2,hs2,hc2⟩:=count_ he2
  obtain ⟨G2,hb2,_⟩:=Star.own hs2 0 rfl
  obtain ⟨_,_,_,_,c8,_⟩:=ecells hb2.1
  have HC:=hid (show Calls Tryz.prog 55 #[.pointer (some ⟨e2.pc,0,none⟩),.int .i64 5,.int .u64 1] w2 fun e w' => ∃ n,e = .returned (.int .u64 n) ∧ Kept w2 F2 p _ w' from hc2 5 (by omega))
  have HM2:=hid hm2
  clear hs2 hc2 hb2 he2 hm2 HE2 HD HE1 hM2 hu2 hM
  go_wp2_with (fail)
  refine HC.out.mono ?_
  rintro e w3 ⟨n,rfl,F3,he3,hm3⟩
  have HQ:Hid (∃ F',En w3 F' p { m1 with wh:=⟨m1.tx,[]⟩ } ∧ Mv F F' w w3):=hid ⟨F3,he3.wide (fun s hs => HAl.out.2.2 (by simp) s (by rw [← HRm.out.1]; exact hs)) (by first | (rw [HRm.out.1,HRm.out.2]; simp) | (simp only; rw [HRm.out.1,HRm.out.2]; simp)),HM2.out.trans hm3⟩
  clear HC he3 hm3 HM2 c2 c8 hr2
 all_goals
  obtain ⟨F4,he4,hm4⟩:=HQ.out
  obtain ⟨e4,hs4,_,_,_,_,_,_,hlook⟩:=acts_ he4
  obtain ⟨G4,hb4,_⟩:=Star.own hs4 0 rfl
  obtain ⟨⟨_,_,k2,_⟩,_⟩:=ecells hb4.1
  obtain ⟨v,ok,hlk,hv⟩:=hlook rfl k hks
  have HM4:=hid hm4
  have HE4:=hid he4
  have HV:=hid hv
  have HKp:=hid (kept_ he4 HKk.out)
  clear HQ he4 hm4 hs4 hlook hb4 hv
  rcases ok with _ | _
  case' true =>
   obtain ⟨q,G,rfl,hat⟩:=HV.out rfl
   have HAt:=hid hat
   clear hat
   go_wp2
   go_ret
   exact .of ⟨q,G,F4,rfl,HA1.out ▸ HAt.out,HL1.out ▸ HE4.out.more (Nat.le_succ _) (by first | omega | (simp only; omega)),HM4.out⟩
  case' false =>
   clear HV
   go_wp2_with (fail)
   refine HKp.out.mono ?_
   rintro e w5 ⟨q,G,rfl,hat,hfr,hu5⟩
   have HE5:=hid (HE4.out.quiet hu5)
   obtain ⟨e5,hs5,n5,T5,hn5,hM5,hput⟩:=put_ HE5.out (by first | omega | (simp only; omega))
   obtain ⟨G5,hb5,_⟩:=Star.own hs5 0 rfl
   obtain ⟨⟨_,_,k5,_⟩,_⟩:=ecells hb5.1
   have HF5:Hid (∀ k,G k → ¬ F4 k):=hid fun k hk hf => by have:=hfr k hk; have:=HE4.out.lt k hf; omega
   have HP:=hid (And.intro hat (And.intro hfr (And.intro hput hu5)))
   clear hat hfr hput hs5 hb5 hu5 hlk k2 HKp
   go_wp2_with (at_mapUpdate; go_must (refine Ms.ap_store rfl (.tmp 46) (.tmp 47) (.tmp 48) 96 9 49 rfl Tryz.underlying9 Tryz.underlying96 e5.ba n5 T5 k (.pointer (some ⟨q,0,none⟩)) rfl rfl rfl hM5 hn5 hks ?_); intro w6 hM6 hu6)
   have HE6:=hid (HP.out.2.2.1 k q _ G w6 rfl hu6 HP.out.1 HF5.out hM6)
   clear hM6 hu6 hM5 k5
   go_wp2
   go_ret
   obtain ⟨ha6,hup,F6,he6,hf6⟩:=HE6.out
   have he7:=he6.wide (wh:=⟨m1.tx,[]⟩) (fun s hs => (List.mem_cons.1 hs).elim (fun h => h ▸ HAl.out.1) fun h => h) (by simp)
   refine .of ⟨q,G,F6,rfl,HA1.out ▸ ha6,HL1.out ▸ he7,HM4.out.trans ⟨(HP.out.2.2.2.mono fun _ _ h => h.elim).next hup,fun g hg => (hf6 g hg).elim .inl fun h => .inr (HP.out.2.1 g h)⟩⟩
end Eg
end
section
namespace Eg
open Go.RowKit B Cm Cr Ou
open Ac (Am fresh fresh_ok encA encA_le encA_byte freshB)
open Bo (Bp Bm Cg bst La Vb Cl ccells bare)
open Nd (Rm Inv)
structure Ci (w W:World) (pu:Nat) (sa vq vw:Value) (xs:List Cg) (vl:Value):Prop where
 blk:Blk W pu 143 #[sa,vq,vw,vl]
 sl:Sl W w.heap.size 128 3 vl xs.length (xs.flatMap ccells)
 val:∀ x ∈ xs,Vb W (fun k => w.heap.size ≤ k ∧ k ≠ pu ∧ vl.ownBlock ≠ some k) x.2.2.2 x.2.1
 upd:Upd No w W
 pu:w.heap.size ≤ pu
section
variable {w W W':World} {pu:Nat} {sa vq vw vl:Value} {xs:List Cg}
theorem Ci.quiet (h:Ci w W pu sa vq vw xs vl) (hu:Upd No W W'):Ci w W' pu sa vq vw xs vl:=
 ⟨h.blk.upd hu (no_ _),h.sl.upd hu fun _ _ => no_ _,fun x hx => (h.val x hx).quiet hu,h.upd.next hu,h.pu⟩
theorem Ci.ne (h:Ci w W pu sa vq vw xs vl):vl.ownBlock ≠ some pu:=h.sl.ne h.blk (by decide)
theorem Ci.cells (h:Ci w W pu sa vq vw xs vl):W.cell? ⟨pu,0,none⟩ = some sa ∧ W.cell? ⟨pu,1,none⟩ = some vq ∧ W.cell? ⟨pu,2,none⟩ = some vw ∧ W.cell? ⟨pu,3,none⟩ = some vl:=
 ⟨by simpa using h.blk.cell 0,by simpa using h.blk.cell 1,by simpa using h.blk.cell 2,by simpa using h.blk.cell 3⟩
theorem Ci.pushed {W1 W2 W3:World} {x:Cg} {A9:Option Addr} {c9:Nat} (h:Ci w W pu sa vq vw xs vl) (hu1:Upd No W W1) (hv:Vb W1 (fun k => W.heap.size ≤ k) x.2.2.2 x.2.1) (hu2:Upd No W1 W2)
 (ho:Sl W3 w.heap.size 128 3 (.slice A9 (xs.length + 1) c9) (xs.length + 1) (xs.flatMap ccells ++ ccells x)) (hu3:Upd (fun k => vl.ownBlock = some k) W2 W3)
 (hat:∀ g,(Value.slice A9 (xs.length + 1) c9).ownBlock = some g → vl.ownBlock = some g ∨ W2.heap.size ≤ g) :
 Ci w (W3.setCell ⟨pu,3,none⟩ (.slice A9 (xs.length + 1) c9)) pu sa vq vw (xs ++ [x]) (.slice A9 (xs.length + 1) c9):=by
 have hq:=h.quiet (hu1.next hu2)
 have hne:=hq.ne
 have s1:=hu1.size
 have s2:=hu2.size
 have s3:=hu3.size
 have hpl:=h.blk.lt
 have hne9:(Value.slice A9 (xs.length + 1) c9).ownBlock ≠ some pu:=fun e => (hat _ e).elim hne fun h => by omega
 have hb3:=hq.blk.upd hu3 hne
 have hup:Upd (fun k => k = pu) W3 (W3.setCell ⟨pu,3,none⟩ (.slice A9 (xs.length + 1) c9)):=(Upd.refl _ _).set1 3 _
 refine ⟨by simpa using hb3.put 3 (.slice A9 (xs.length + 1) c9),?_,fun y hy => ?_,?_,h.pu⟩
 · have e:(xs ++ [x]).flatMap ccells = xs.flatMap ccells ++ ccells x:=by simp
   rw [e,List.length_append]
   exact ho.upd hup fun g hg e => hne9 (e ▸ hg)
 · rcases List.mem_append.1 hy with hy | hy
   · have h1:=(hq.val y hy).tight.upd hu3 fun k hk => hk.1.2.2
     refine (h1.upd hup fun k hk => hk.1.2.1).mono fun k hk => ⟨hk.1.1,hk.1.2.1,fun e => ?_⟩
     rcases hat k e with h | h
     · exact hk.1.2.2 h
     · have:=hk.2
       omega
   · obtain rfl:=List.mem_singleton.1 hy
     have h1:=(hv.tight.quiet hu2).upd hu3 (fun k hk e => by
      have:=(h.sl.lt k e).2
      have:=hk.1
      omega)
     refine (h1.upd hup fun k hk e => by have:=hk.1; omega).mono fun k hk => ⟨by have:=h.upd.size; have:=hk.1; omega,fun e => by have:=hk.1; omega,fun e => ?_⟩
     rcases hat k e with h' | h'
     · have:=(h.sl.lt k h').2
       have:=hk.1
       omega
     · have:=hk.2
       omega
 · exact (((h.upd.next hu1).next hu2).trans hu3 fun k hk e => by have:=(h.sl.lt k e).1; omega).trans hup fun k hk e => by have:=h.pu; omega
theorem Ci.cl (h:Ci w W pu sa vq vw xs vl):∃ A c,vl = .slice A xs.length c ∧ Cl W (fun k => w.heap.size ≤ k ∧ k < W.heap.size) vl xs:=by
 obtain ⟨A,c,rfl,h1,h2⟩:=h.sl.shape
 refine ⟨A,c,rfl,A,c,rfl,h1,h2,h.sl.rd,fun _ ad e => ?_,fun x hx => (h.val x hx).tight.mono fun k hk => ⟨hk.1.1,hk.2⟩⟩
 exact h.sl.lt ad.block (by simp [Value.ownBlock,e])
end
def put9 (a:Act) (d:Nat) (v1 v2 v3 v4 v5 v6 v7 v8 v9:Value):Act:=
 ((((((((a.put (some d) v1).put (some (d + 1)) v2).put (some (d + 2)) v3).put (some (d + 3)) v4).put (some (d + 4)) v5).put (some (d + 5)) v6).put (some (d + 6)) v7).put (some (d + 7)) v8).put (some (d + 8)) v9
def Mg9 (a:Act) (d:Nat) (Φ:World → Prop):Exit → Act → World → Prop
 | .normal,a',w' => (∃ v1 v2 v3 v4 v5 v6 v7 v8 v9,a' = put9 a d v1 v2 v3 v4 v5 v6 v7 v8 v9) ∧ Φ w'
 | _,_,_ => False
theorem merge9 {P:Program} {c:Code} {a:Act} {w:World} {Q:Exit → Act → World → Prop} (d:Nat) (Φ:World → Prop)
 (h1:c.wp P (Mg9 a d Φ) a w)
 (h2:∀ v1 v2 v3 v4 v5 v6 v7 v8 v9 w',Φ w' → Q .normal (put9 a d v1 v2 v3 v4 v5 v6 v7 v8 v9) w'):c.wp P Q a w:=
 Code.wp_mono (fun x a' w' h => by
  cases x with
  | normal =>
   obtain ⟨⟨v1,v2,v3,v4,v5,v6,v7,v8,v9,rfl⟩,h3⟩:=h
   exact h2 v1 v2 v3 v4 v5 v6 v7 v8 v9 w' h3
  | _ => exact False.elim h) h1
def acO (x:Nat × Am):Ob:=⟨fun w F => Ac.At w F x.1 x.2,fun h hu hn => h.upd hu hn,fun h => h.lt⟩
def ptrs (ac:List (Nat × Am)):List Value:=ac.map fun x => .pointer (some ⟨x.1,0,none⟩)
def chA (x:Nat × Am):ByteArray × List Int × Bool:=(akey x.2.out.own,encA x.2,freshB x.2)
def qP:Option (Nat × List Rm) → Value
 | none => .pointer none
 | some x => .pointer (some ⟨x.1,0,none⟩)
def wP:Option (Nat × Wp.St) → Value
 | none => .pointer none
 | some x => .pointer (some ⟨x.1,0,none⟩)
def qL:Option (Nat × List Rm) → List Ob
 | none => []
 | some x => [qoO x.1 x.2]
def wL (n:Nat):Option (Nat × Wp.St) → List Ob
 | none => []
 | some x => [wdO x.1 x.2 n]
def kr:ByteArray:=⟨#[114]⟩
def kw:ByteArray:=⟨#[119]⟩
def qC:Option (Nat × List Rm) → List (ByteArray × List Int × Bool)
 | none => []
 | some x => [(kr,Nd.encQ x.2,false)]
def wC:Option (Nat × Wp.St) → List (ByteArray × List Int × Bool)
 | none => []
 | some x => [(kw,We.encX x.2,false)]
def chs (ac:List (Nat × Am)) (qv:Option (Nat × List Rm)) (wv:Option (Nat × Wp.St)):List (ByteArray × List Int × Bool):=ac.map chA ++ (qC qv ++ wC wv)
theorem Star.nth {w:World} {F:Nat → Prop} {l1 l2:List Ob} (h:Star (l1 ++ l2) w F) {j:Nat} (hj:j < l1.length):∃ G,l1[j].is w G ∧ ∀ k,G k → F k:=
 Star.own h j (by rw [List.getElem?_append_left hj,List.getElem?_eq_getElem hj])
theorem boxed3 {W8 W:World} {e:TypeId} {a b c:Value} (h:W8 = W.alloc (.cells #[a,b,c] e)):Rd W8 3 (some ⟨W.heap.size,0,none⟩) 1 [a,b,c]:=by
 rw [h]
 exact Rd_lit W e 3 1 [a,b,c] rfl
theorem boxed3d {W8 W:World} {e:TypeId} {a b c:Value} (h:W8 = (W.alloc (.cells #[a,b,c] e)).drew):Rd W8 3 (some ⟨W.heap.size,0,none⟩) 1 [a,b,c]:=by
 rw [h]
 exact Rd_lit W e 3 1 [a,b,c] rfl
theorem ch_info:(Tryz.prog.info? 128).map (fun i => (i.zero,i.size,i.bytes)) = some (some (.agg #[.string ⟨#[]⟩,.slice none 0 0,.bool false]),3,48):=by kernel_rfl
end Eg
end
section
namespace Eg
open Go.RowKit B Cm Cr Ou
open Ac (Am fresh fresh_ok encA encA_le encA_byte freshB)
open Bo (Bp Bm Cg bst La Vb Cl ccells bare encL sizeC Gd lays layT)
open Nd (Rm Inv)
def comB (m:Bm) (ys:List (ByteArray × List Int × Bool)):Bm:={ m.app (encL ys) with tab:=lays m.tab ys,ch:=Bo.chs m.ch (ys.map (·.1)),pend:=m.pend + 1 }
theorem com_eq (m:Bm) (xs:List Cg):m.com xs = comB m (xs.map bare):=by
 unfold Bm.com comB Bm.laid Bm.app
 simp only [List.map_map]
 rfl
theorem nbl_small {ys:List (ByteArray × List Int × Bool)} (h:sizeC ys ≤ 40000) (h2:ys.length ≤ 100):Gp.nbl (encL ys) ≤ 181:=by
 have:=Bo.encL_le ys
 unfold Gp.nbl
 omega
theorem wrs_len (d:Dk.Dm) (base:Nat) (f:Nat → List Int) (n:Nat):(Gl.wrs d base f n).log.length = d.log.length + n:=by simp [Gl.wrs]
theorem comB_ok {m:Bm} (h:m.ok) {ys:List (ByteArray × List Int × Bool)} (hne:ys ≠ []) (hb:∀ y ∈ ys,Byte y.2.1) (hs:sizeC ys ≤ 40000) (hl:ys.length ≤ 100) (hroom:Gp.nbl (encL ys) ≤ m.lg.count - m.lg.used) (hlog:m.d.log.length ≤ 890000) (hp:m.pend + 1 < 1000000):(comB m ys).ok:=by
 have h1:=nbl_small hs hl
 have h2:=Bo.encL_pos hne
 have h3:=Bo.encL_le ys
 have hca:Gl.apC m.lg (encL ys) = 0:=by
  unfold Gl.apC
  rw [if_neg (by omega),if_neg (by omega),if_neg (by omega)]
 refine ⟨h.snd.add hca (Bo.encL_byte hb) (.inl h.fuse) (by omega),h.lgo,h.down,?_,h.over,hp⟩
 show (Gl.wrs m.d _ _ _).fuse < 0
 unfold Gl.wrs
 simp only
 rw [if_neg (by have:=h.fuse; omega)]
 exact h.fuse
theorem bcommit_ {w:World} {F:Nat → Prop} {p:Nat} {e:Ep} {m:Em} (hs:Star (est p e m) w F) (hok:m.ok) {V:Nat → Prop} {A:Option Addr} {c:Nat} {xs:List Cg} (hc:Cl w V (.slice A xs.length c) xs) (hV:∀ k,V k → ¬ F k ∧ k < w.heap.size)
 (hg:Gd xs) (hne:xs ≠ []) (hsz:sizeC (xs.map bare) ≤ 40000) (hroom:Gp.nbl (encL (xs.map bare)) ≤ m.bk.lg.count - m.bk.lg.used) (hl:xs.length ≤ 45) :
 Calls Tryz.prog 42 #[.pointer (some ⟨e.b.q,0,none⟩),.slice A xs.length c] w fun e' w' => e' = .returned (.int .i64 0) ∧ ∃ F',Star (est p e { m with bk:=comB m.bk (xs.map bare),n:=m.n + 100 }) w' F' ∧ Mv F F' w w':=by
 obtain ⟨G,⟨n1,n2,hn1,hn2,hb⟩,hGF,hput⟩:=hs.at_ 1 (o:=bkO e.b m.bk m.n (m.R e.b)) rfl
 have hfew:=hok.few
 refine (Bo.commit hb hok.bok hc (fun k hk => ⟨fun hG => (hV k hk).1 (hGF k hG),(hV k hk).2⟩) hg hne hsz hroom ⟨by omega,by omega⟩).mono ?_
 rintro e' w' ⟨rfl,G',a,b,h1,h2,h3,h4⟩
 refine ⟨rfl,?_⟩
 rw [com_eq] at h1
 obtain ⟨F',k1,k2⟩:=hput w' G' (bkO e.b (comB m.bk (xs.map bare)) (m.n + 100) (m.R e.b)) h2 ⟨a,b,by omega,by omega,h1⟩
 refine ⟨F',Star.weak ?_ k1,k2⟩
 have hle:m.n ≤ m.n + 100:=by omega
 exact .cons (fun _ h => h) (.cons (fun _ h => h) (.cons (fun _ h => h) (.cons (fun _ h => Rs.wide h hle (fun _ h => h) fun _ h => h) (.cons (fun _ h => h) (.cons (wd_more hle) (.cons (fun _ h => h) (.cons (fun _ h => h) .nil)))))))
theorem Star.split {w:World}:∀ {l1 l2:List Ob} {V:Nat → Prop},Star (l1 ++ l2) w V → ∃ V1 V2,Star l1 w V1 ∧ Star l2 w V2 ∧ (∀ k,V1 k → ¬ V2 k) ∧ (∀ k,V1 k → V k) ∧ ∀ k,V2 k → V k
 | [],l2,V,h => ⟨No,V,fun _ h => h.elim,h,fun _ h => h.elim,fun _ h => h.elim,fun _ h => h⟩
 | o :: l1,l2,V,⟨A,B,h1,h2,h3,h4,h5,h6⟩ => by
  obtain ⟨V1,V2,g1,g2,g3,g4,g5⟩:=Star.split (l1:=l1) (l2:=l2) h2
  refine ⟨fun k => A k ∨ V1 k,V2,⟨A,V1,h1,g1,fun k ha hv => h3 k ha (g4 k hv),fun k hk => .inl hk,fun k hk => .inr hk,fun k hk => ?_⟩,g2,fun k hk hv => ?_,fun k hk => ?_,fun k hk => h5 k (g5 k hk)⟩
  · rcases hk with hk | hk
    · exact h6 k (h4 k hk)
    · exact g1.lt k hk
  · rcases hk with hk | hk
    · exact h3 k hk (g5 k hv)
    · exact g3 k hk hv
  · rcases hk with hk | hk
    · exact h4 k hk
    · exact h5 k (g4 k hk)
theorem Rs.away {w:World} {F:Nat → Prop} {b n:Nat} {act:ByteArray → Am} {wh:Wh} (h:Rs w F b n act wh) {s:ByteArray} (hs:s ∉ wh.al):Rs w F b n act ⟨wh.al,wh.rem.filter fun t => !decide (t = s)⟩:=by
 obtain ⟨⟨n',T,h1,h2,h3⟩,h4,h5⟩:=h
 refine ⟨⟨n',T,h1,h2,fun t ht v hv => ⟨(h3 t ht v hv).1,fun hr => (h3 t ht v hv).2 fun h6 => hr (List.mem_filter.2 ⟨h6,?_⟩)⟩⟩,h4,h5⟩
 have:t ≠ s:=fun e => hs (e ▸ (h3 t ht v hv).1)
 simp [this]
theorem Rs.act {w:World} {F:Nat → Prop} {b n:Nat} {act act':ByteArray → Am} {wh:Wh} (h:Rs w F b n act wh) {rem:List ByteArray} (h0:wh.rem = []) (hs:∀ s,s ∉ rem → act' s = act s):Rs w F b n act' ⟨wh.al,rem⟩:=by
 obtain ⟨⟨n',T,h1,h2,h3⟩,h4,h5⟩:=h
 refine ⟨⟨n',T,h1,h2,fun t ht v hv => ⟨(h3 t ht v hv).1,fun hr => ?_⟩⟩,h4,h5⟩
 rw [hs t hr]
 exact (h3 t ht v hv).2 (by rw [h0]; simp)
def actN (act:ByteArray → Am) (ac:List (Nat × Am)):ByteArray → Am:=fun s => ((ac.find? fun x => decide (x.2.out.own = s)).map (·.2)).getD (act s)
theorem actN_away (act:ByteArray → Am) (ac:List (Nat × Am)) {s:ByteArray} (h:s ∉ ac.map fun x => x.2.out.own):actN act ac s = act s:=by
 unfold actN
 rw [List.find?_eq_none.2 (fun x hx => by simp only [decide_eq_true_eq]; exact fun e => h (List.mem_map.2 ⟨x,hx,e⟩))]
 rfl
theorem actN_at (act:ByteArray → Am) {ac:List (Nat × Am)} (hnd:(ac.map fun x => x.2.out.own).Pairwise (· ≠ ·)) {x:Nat × Am} (hx:x ∈ ac):actN act ac x.2.out.own = x.2:=by
 induction ac with
 | nil => cases hx
 | cons y r ih =>
  simp only [List.map_cons,List.pairwise_cons] at hnd
  unfold actN
  rw [List.find?_cons]
  by_cases he:y.2.out.own = x.2.out.own
  · simp only [he,decide_true,Option.map_some,Option.getD_some]
    rcases List.mem_cons.1 hx with h | h
    · rw [h]
    · exact absurd he (hnd.1 _ (List.mem_map.2 ⟨x,h,rfl⟩))
  · simp only [he,decide_false]
    rcases List.mem_cons.1 hx with h | h
    · exact absurd (by rw [h]) he
    · exact ih hnd.2 h
def Em.commit (m:Em) (ac:List (Nat × Am)) (qv:Option (Nat × List Rm)) (wv:Option (Nat × Wp.St)):Em:=
 { m with bk:=comB m.bk (chs ac qv wv),n:=m.n + 150,act:=actN m.act ac,wh:=⟨m.tx,[]⟩,q:=((qv.map (·.2)).getD m.q),win:=((wv.map (·.2)).getD m.win) }
theorem commit_tidy (m:Em) (ac:List (Nat × Am)) (qv:Option (Nat × List Rm)) (wv:Option (Nat × Wp.St)):(m.commit ac qv wv).tidy:=⟨rfl,fun _ h => h⟩
end Eg
end
section
namespace Eg
open Go.RowKit B Cm Cr Ou
open Ac (Am fresh fresh_ok encA encA_le encA_byte freshB)
open Bo (Bp Bm Cg bst La Vb Cl ccells bare encL sizeC Gd lays layT)
open Nd (Rm Inv)
abbrev Y:=ByteArray × List Int × Bool
theorem lays_out (ys:List Y):∀ (tab:ByteArray → Option (List Int)) {s:ByteArray},(∀ y ∈ ys,y.1 ≠ s) → lays tab ys s = tab s:=by
 induction ys with
 | nil => intro tab s _; rfl
 | cons y r ih =>
  intro tab s h
  show lays (layT tab y) r s = _
  rw [ih _ fun z hz => h z (by simp [hz])]
  unfold layT
  rw [if_neg (Ne.symm (h y (by simp)))]
theorem lays_in (ys:List Y):∀ (tab:ByteArray → Option (List Int)),(ys.map (·.1)).Pairwise (· ≠ ·) → ∀ y ∈ ys,lays tab ys y.1 = if y.2.2 then none else some y.2.1:=by
 induction ys with
 | nil => intro tab _ y hy; cases hy
 | cons x r ih =>
  intro tab hnd y hy
  simp only [List.map_cons,List.pairwise_cons] at hnd
  show lays (layT tab x) r y.1 = _
  rcases List.mem_cons.1 hy with h | h
  · subst h
    rw [lays_out r _ fun z hz e => hnd.1 _ (List.mem_map.2 ⟨z,hz,rfl⟩) e.symm]
    unfold layT
    rw [if_pos rfl]
  · exact ih _ hnd.2 y h
theorem akey_size (k:ByteArray):(akey k).size = 1 + k.size:=by
 unfold akey
 rw [ByteArray.size_append]
 rfl
theorem akey_inj {k l:ByteArray} (h:akey k = akey l):k = l:=by
 unfold akey at h
 have h2:=congrArg (fun b:ByteArray => b.data.toList) h
 simp only [ByteArray.data_append,Array.toList_append] at h2
 have h3:=List.append_cancel_left h2
 apply ByteArray.ext
 exact Array.toList_inj.1 h3
theorem akey_r {k:ByteArray} (h:Kk k):akey k ≠ kr ∧ akey k ≠ kw:=by
 have h1:=akey_size k
 have h2:=h.1
 refine ⟨fun e => ?_,fun e => ?_⟩
 · rw [e] at h1
   have:kr.size = 1:=rfl
   omega
 · rw [e] at h1
   have:kw.size = 1:=rfl
   omega
theorem freshB_eq {a:Am} (hj:a.jn.2.2 = 0 → a.jn = Jn.s0) (h:freshB a = true):a = fresh a.out.own:=by
 unfold freshB at h
 simp only [Bool.and_eq_true,decide_eq_true_eq] at h
 obtain ⟨h1,h2,⟨h3,h4⟩,h5,h6⟩:=h
 obtain ⟨jn,inb,⟨own,lst,ser⟩,tries,poi⟩:=a
 simp only at *
 have e1:=hj h1
 have e2:=List.eq_nil_of_length_eq_zero h2
 have e3:=List.eq_nil_of_length_eq_zero h3
 have e4:=List.eq_nil_of_length_eq_zero h4
 have e6:=List.eq_nil_of_length_eq_zero h6
 subst e1 e2 e3 e4 h5 e6
 rfl
section
variable {ac:List (Nat × Am)} {qv:Option (Nat × List Rm)} {wv:Option (Nat × Wp.St)}
theorem chs_mem {y:Y} (h:y ∈ chs ac qv wv):(∃ x ∈ ac,y = chA x) ∨ (∃ x,qv = some x ∧ y = (kr,Nd.encQ x.2,false)) ∨ ∃ x,wv = some x ∧ y = (kw,We.encX x.2,false):=by
 unfold chs at h
 rcases List.mem_append.1 h with h | h
 · obtain ⟨x,h1,h2⟩:=List.mem_map.1 h
   exact .inl ⟨x,h1,h2.symm⟩
 · rcases List.mem_append.1 h with h | h
   · cases qv with
     | none => cases h
     | some x => exact .inr (.inl ⟨x,rfl,by simpa [qC] using h⟩)
   · cases wv with
     | none => cases h
     | some x => exact .inr (.inr ⟨x,rfl,by simpa [wC] using h⟩)
theorem chs_nd (hk:∀ x ∈ ac,Kk x.2.out.own) (hnd:(ac.map fun x => x.2.out.own).Pairwise (· ≠ ·)):((chs ac qv wv).map (·.1)).Pairwise (· ≠ ·):=by
 unfold chs
 rw [List.map_append,List.pairwise_append]
 refine ⟨?_,?_,?_⟩
 · rw [List.map_map,List.pairwise_map]
   rw [List.pairwise_map] at hnd
   exact hnd.imp fun h e => h (akey_inj e)
 · cases qv <;> cases wv <;> simp [qC,wC,kr,kw]
 · intro a ha b hb
   obtain ⟨y,hy,rfl⟩:=List.mem_map.1 ha
   obtain ⟨x,hx,rfl⟩:=List.mem_map.1 hy
   have h1:=akey_r (hk x hx)
   obtain ⟨z,hz,rfl⟩:=List.mem_map.1 hb
   rcases List.mem_append.1 hz with hz | hz
   · cases qv with
     | none => cases hz
     | some x => simp only [qC,List.mem_singleton] at hz; rw [hz]; exact h1.1
   · cases wv with
     | none => cases hz
     | some x => simp only [wC,List.mem_singleton] at hz; rw [hz]; exact h1.2
theorem chs_len:(chs ac qv wv).length ≤ ac.length + 2:=by
 unfold chs
 cases qv <;> cases wv <;> simp [qC,wC]
theorem encQ_le {l:List Rm} (h:Inv l):(Nd.encQ l).length ≤ 8009:=by
 have h1:=Nd.encQ_take_le h l.length
 rw [List.take_length] at h1
 have h3:=(num_length (l.length:Int)).2
 unfold Nd.encQ
 simp only [List.length_append]
 omega
theorem encX_le {x:Wp.St} (h:Wp.Ok x):(We.encX x).length ≤ 3465:=by
 have h1:=We.encX_take_le h x.length
 rw [List.take_length] at h1
 have h3:=(num_length (x.length:Int)).2
 unfold We.encX
 simp only [List.length_append]
 omega
theorem chs_byte (h1:∀ x ∈ ac,x.2.ok BB) (h2:∀ x,qv = some x → Inv x.2) (h3:∀ x,wv = some x → Wp.Ok x.2):∀ y ∈ chs ac qv wv,Byte y.2.1 ∧ y.2.1.length ≤ 20000 ∧ 1 ≤ y.1.size ∧ y.1.size ≤ 64:=by
 intro y hy
 rcases chs_mem hy with ⟨x,hx,rfl⟩ | ⟨x,hx,rfl⟩ | ⟨x,hx,rfl⟩
 · have h4:=encA_le (h1 x hx)
   have h5:=akey_size x.2.out.own
   have h6:=(h1 x hx).out.key
   refine ⟨encA_byte (h1 x hx),by simp only [chA]; omega,by simp only [chA]; omega,by simp only [chA]; have:=h6.2; omega⟩
 · have:=encQ_le (h2 x hx)
   exact ⟨Nd.encQ_byte (h2 x hx),by simp only; omega,show 1 ≤ kr.size by decide,show kr.size ≤ 64 by decide⟩
 · have:=encX_le (h3 x hx)
   exact ⟨We.encX_byte (h3 x hx),by simp only; omega,show 1 ≤ kw.size by decide,show kw.size ≤ 64 by decide⟩
end
theorem commit_ok {m:Em} (h:m.ok) {ac:List (Nat × Am)} {qv:Option (Nat × List Rm)} {wv:Option (Nat × Wp.St)} (hok:∀ x ∈ ac,x.2.ok BB ∧ (x.2.jn.2.2 = 0 → x.2.jn = Jn.s0)) (hnd:(ac.map fun x => x.2.out.own).Pairwise (· ≠ ·))
 (hq:∀ x,qv = some x → Inv x.2) (hw:∀ x,wv = some x → Wp.Ok x.2) (hfew:ac.length ≤ 40) (hne:chs ac qv wv ≠ []) (hsz:sizeC (chs ac qv wv) ≤ 40000)
 (hroom:Gp.nbl (encL (chs ac qv wv)) ≤ m.bk.lg.count - m.bk.lg.used) (hn:m.n + 200 ≤ 400000):(m.commit ac qv wv).ok:=by
 have hk:∀ x ∈ ac,Kk x.2.out.own:=fun x hx => (hok x hx).1.out.key
 have hb:=chs_byte (ac:=ac) (qv:=qv) (wv:=wv) (fun x hx => (hok x hx).1) hq hw
 have hl:=chs_len (ac:=ac) (qv:=qv) (wv:=wv)
 have hndc:=chs_nd (qv:=qv) (wv:=wv) hk hnd
 have hnb:=nbl_small hsz (by omega)
 have hp:=h.pnd
 refine ⟨comB_ok h.bok hne (fun y hy => (hb y hy).1) hsz (by omega) hroom (by omega) (by omega),by show m.n + 150 ≤ 400000; omega,h.rm,h.tl,fun k hkk => ?_,fun k hkk => ?_,?_,fun k hkk => ?_,⟨?_,?_⟩,?_⟩
 · show (lays m.bk.tab (chs ac qv wv) (akey k) = some (encA (actN m.act ac k)) ∧ (actN m.act ac k).ok BB) ∨ lays m.bk.tab (chs ac qv wv) (akey k) = none ∧ actN m.act ac k = fresh k
   by_cases hin:k ∈ ac.map fun x => x.2.out.own
   · obtain ⟨x,hx,rfl⟩:=List.mem_map.1 hin
     have hmem:chA x ∈ chs ac qv wv:=List.mem_append_left _ (List.mem_map.2 ⟨x,hx,rfl⟩)
     have h0:=lays_in _ m.bk.tab hndc _ hmem
     rw [actN_at m.act hnd hx]
     by_cases hf:(chA x).2.2 = true
     · rw [if_pos hf] at h0
       exact .inr ⟨h0,freshB_eq (hok x hx).2 hf⟩
     · rw [if_neg hf] at h0
       exact .inl ⟨h0,(hok x hx).1⟩
   · rw [actN_away m.act ac hin,lays_out _ _ fun y hy => ?_]
     · exact h.tie k hkk
     · rcases chs_mem hy with ⟨x,hx,rfl⟩ | ⟨x,hx,rfl⟩ | ⟨x,hx,rfl⟩
       · exact fun e => hin (List.mem_map.2 ⟨x,hx,akey_inj e⟩)
       · exact Ne.symm (akey_r hkk).1
       · exact Ne.symm (akey_r hkk).2
 · show (actN m.act ac k).out.own = k
   by_cases hin:k ∈ ac.map fun x => x.2.out.own
   · obtain ⟨x,hx,rfl⟩:=List.mem_map.1 hin
     rw [actN_at m.act hnd hx]
   · rw [actN_away m.act ac hin]
     exact h.own k hkk
 · show Inv ((qv.map (·.2)).getD m.q)
   cases qv with
   | none => exact h.inv
   | some x => exact hq x rfl
 · show (actN m.act ac k).jn.2.2 = 0 → (actN m.act ac k).jn = Jn.s0
   by_cases hin:k ∈ ac.map fun x => x.2.out.own
   · obtain ⟨x,hx,rfl⟩:=List.mem_map.1 hin
     rw [actN_at m.act hnd hx]
     exact (hok x hx).2
   · rw [actN_away m.act ac hin]
     exact h.zer k hkk
 · show m.bk.pend + 1 ≤ m.n + 150
   omega
 · show (Gl.wrs m.bk.d _ _ _).log.length ≤ 2 * (m.n + 150)
   rw [wrs_len]
   omega
 · show Wp.Ok ((wv.map (·.2)).getD m.win)
   cases wv with
   | none => exact h.wok
   | some x => exact hw x rfl
theorem setq_ {W:World} {F Q:Nat → Prop} {p q:Nat} {e:Ep} {m:Em} {l:List Rm} (hs:Star (est p e m) W F) (hq:Nd.Qo W Q q l) (hQ:∀ k,Q k → ¬ F k) :
 ∃ F',Star (est p { e with pq:=q } { m with q:=l }) (W.setCell ⟨p,3,none⟩ (.pointer (some ⟨q,0,none⟩))) F' ∧ (∀ k,F' k → F k ∨ Q k) ∧ Upd (fun k => k = p) W (W.setCell ⟨p,3,none⟩ (.pointer (some ⟨q,0,none⟩))):=by
 obtain ⟨G,h1,h2,hput⟩:=Star.grow hs 4 (o:=qoO e.pq m.q) rfl
 obtain ⟨F1,k1,k2⟩:=hput W Q (qoO q l) (Upd.refl _ _) (fun k hk => .inr (hQ k hk)) hq
 obtain ⟨B,hb,hBF,hput2⟩:=k1.at_ 0 (o:=Ob.blk p 104 (ecs e m)) rfl
 obtain ⟨g1,g2⟩:=Ob.blk_put hb 3 (.pointer (some ⟨q,0,none⟩))
 have e1:(ecs e m).setIfInBounds 3 (.pointer (some ⟨q,0,none⟩)) = ecs { e with pq:=q } { m with q:=l }:=by simp [ecs]
 rw [e1] at g1
 obtain ⟨F2,k3,k4⟩:=hput2 _ B (Ob.blk p 104 (ecs { e with pq:=q } { m with q:=l })) g2 g1
 exact ⟨F2,k3,fun k hk => (k4.sub k hk).elim (k2 k) fun hz => absurd (k3.lt k hk) (by simp only [World.setCell,Array.size_modify]; omega),(Upd.refl _ _).set1 _ _⟩
theorem setw_ {W:World} {F Q:Nat → Prop} {p q:Nat} {e:Ep} {m:Em} {x:Wp.St} (hs:Star (est p e m) W F) (hq:Ww.Wd W Q q x m.n) (hQ:∀ k,Q k → ¬ F k) :
 ∃ F',Star (est p { e with pw:=q } { m with win:=x }) (W.setCell ⟨p,4,none⟩ (.pointer (some ⟨q,0,none⟩))) F' ∧ (∀ k,F' k → F k ∨ Q k) ∧ Upd (fun k => k = p) W (W.setCell ⟨p,4,none⟩ (.pointer (some ⟨q,0,none⟩))):=by
 obtain ⟨G,h1,h2,hput⟩:=Star.grow hs 5 (o:=wdO e.pw m.win m.n) rfl
 obtain ⟨F1,k1,k2⟩:=hput W Q (wdO q x m.n) (Upd.refl _ _) (fun k hk => .inr (hQ k hk)) hq
 obtain ⟨B,hb,hBF,hput2⟩:=k1.at_ 0 (o:=Ob.blk p 104 (ecs e m)) rfl
 obtain ⟨g1,g2⟩:=Ob.blk_put hb 4 (.pointer (some ⟨q,0,none⟩))
 have e1:(ecs e m).setIfInBounds 4 (.pointer (some ⟨q,0,none⟩)) = ecs { e with pw:=q } { m with win:=x }:=by simp [ecs]
 rw [e1] at g1
 obtain ⟨F2,k3,k4⟩:=hput2 _ B (Ob.blk p 104 (ecs { e with pw:=q } { m with win:=x })) g2 g1
 exact ⟨F2,k3,fun k hk => (k4.sub k hk).elim (k2 k) fun hz => absurd (k3.lt k hk) (by simp only [World.setCell,Array.size_modify]; omega),(Upd.refl _ _).set1 _ _⟩
structure Pt (W5 W:World) (ba n:Nat) (act:ByteArray → Am) (tx:List ByteArray) (ac:List (Nat × Am)) (G V:Nat → Prop) (j:Nat):Prop where
 upd:Upd (fun k => k = ba) W5 W
 rs:∃ Fr,Rs W Fr ba (n + j) act ⟨tx,(ac.drop j).map fun x => x.2.out.own⟩ ∧ ∀ k,Fr k → G k ∨ V k
theorem Pt.quiet {W5 W W':World} {ba n:Nat} {act:ByteArray → Am} {tx:List ByteArray} {ac:List (Nat × Am)} {G V:Nat → Prop} {j:Nat} (h:Pt W5 W ba n act tx ac G V j) (hu:Upd No W W'):Pt W5 W' ba n act tx ac G V j:=
 ⟨h.upd.next (hu.mono fun _ _ h => h.elim),h.rs.imp fun Fr h => ⟨Rs.upd h.1 hu fun _ _ => no_ _,h.2⟩⟩
theorem Pt.put {W5 W:World} {ba n:Nat} {act:ByteArray → Am} {tx:List ByteArray} {ac:List (Nat × Am)} {G V GA:Nat → Prop} {j:Nat} (h:Pt W5 W ba n act tx ac G V j) (hj:j < ac.length) (hact:act ac[j].2.out.own = ac[j].2) (htx:ac[j].2.out.own ∈ tx)
 (hat:Ac.At W5 GA ac[j].1 ac[j].2) (hGA:∀ k,GA k → V k) (hba:¬ V ba) :
 ∃ n' T,n' ≤ n + j ∧ Ms.Ms Tryz.prog W 9 ba n' T ∧ ∀ W',Upd (fun k => k = ba) W W' → Ms.Ms Tryz.prog W' 9 ba (n' + 1) (Ms.put T ac[j].2.out.own (some (.pointer (some ⟨ac[j].1,0,none⟩)))) → Pt W5 W' ba n act tx ac G V (j + 1):=by
 obtain ⟨Fr,hr,hF⟩:=h.rs
 obtain ⟨n',T,h1,h2,_,_,h3⟩:=Rs.map hr
 refine ⟨n',T,h1,h2,fun W' hu hm => ⟨h.upd.trans hu fun _ _ h => h,?_⟩⟩
 have hat2:=hat.upd h.upd fun k hk e => hba (e ▸ hGA k hk)
 obtain ⟨g1,g2⟩:=h3 _ _ _ GA W' hu hat2 (fun k hk e => hba (e ▸ hGA k hk)) hm hact.symm
 refine ⟨_,g1.wide (by omega) (fun s hs => ?_) (fun s hs => ?_),fun k hk => hk.elim (hF k) fun h => .inr (hGA k h)⟩
 · rcases List.mem_cons.1 hs with h | h
   · exact h ▸ htx
   · exact h
 · obtain ⟨h4,h5⟩:=List.mem_filter.1 hs
   rw [List.drop_eq_getElem_cons hj,List.map_cons] at h4
   rcases List.mem_cons.1 h4 with h | h
   · simp [h] at h5
   · exact h
theorem Pt.skip {W5 W:World} {ba n:Nat} {act:ByteArray → Am} {tx:List ByteArray} {ac:List (Nat × Am)} {G V:Nat → Prop} {j:Nat} (h:Pt W5 W ba n act tx ac G V j) (hj:j < ac.length) (htx:ac[j].2.out.own ∉ tx):Pt W5 W ba n act tx ac G V (j + 1):=by
 obtain ⟨hu,Fr,hr,hF⟩:=h
 refine ⟨hu,Fr,(Rs.away hr (s:=ac[j].2.out.own) htx).wide (by omega) (fun _ h => h) (fun s hs => ?_),hF⟩
 obtain ⟨h4,h5⟩:=List.mem_filter.1 hs
 rw [List.drop_eq_getElem_cons hj,List.map_cons] at h4
 rcases List.mem_cons.1 h4 with h | h
 · simp [h] at h5
 · exact h
theorem hasK_mem {x:List ByteArray} {k:ByteArray}:At.hasK x k = true ↔ k ∈ x:=by
 unfold At.hasK
 rw [List.any_eq_true]
 constructor
 · rintro ⟨y,hy,h⟩
   have:k = y:=by simpa using h
   exact this ▸ hy
 · exact fun h => ⟨k,h,by simp⟩
theorem Star.pair {w:World}:∀ {l:List Ob} {F:Nat → Prop} (h:Star l w F) (i j:Nat) {o o':Ob},i < j → l[i]? = some o → l[j]? = some o' → ∃ G H,o.is w G ∧ o'.is w H ∧ (∀ k,G k → ¬ H k) ∧ (∀ k,G k → F k) ∧ ∀ k,H k → F k
 | [],_,_,_,_,_,_,_,hi,_ => by simp at hi
 | a :: r,F,⟨A,B,h1,h2,h3,h4,h5,h6⟩,0,j,o,o',hij,hi,hj => by
  simp only [List.getElem?_cons_zero,Option.some.injEq] at hi
  subst hi
  obtain ⟨j,rfl⟩:∃ j',j = j' + 1:=⟨j - 1,by omega⟩
  simp only [List.getElem?_cons_succ] at hj
  obtain ⟨H,g1,g2⟩:=Star.own h2 j hj
  exact ⟨A,H,h1,g1,fun k ha hh => h3 k ha (g2 k hh),h4,fun k hk => h5 k (g2 k hk)⟩
 | a :: r,F,⟨A,B,h1,h2,h3,h4,h5,h6⟩,i + 1,j,o,o',hij,hi,hj => by
  obtain ⟨j,rfl⟩:∃ j',j = j' + 1:=⟨j - 1,by omega⟩
  simp only [List.getElem?_cons_succ] at hi hj
  obtain ⟨G,H,g1,g2,g3,g4,g5⟩:=Star.pair h2 i j (by omega) hi hj
  exact ⟨G,H,g1,g2,g3,fun k hk => h5 k (g4 k hk),fun k hk => h5 k (g5 k hk)⟩
theorem gd_of {ac:List (Nat × Am)} {qv:Option (Nat × List Rm)} {wv:Option (Nat × Wp.St)} {xs:List Cg} (hx:xs.map bare = chs ac qv wv) (hok:∀ x ∈ ac,x.2.ok BB) (hnd:(ac.map fun x => x.2.out.own).Pairwise (· ≠ ·))
 (hq:∀ x,qv = some x → Inv x.2) (hw:∀ x,wv = some x → Wp.Ok x.2) (hfew:ac.length ≤ 40):Gd xs:=by
 have hb:=chs_byte (ac:=ac) (qv:=qv) (wv:=wv) hok hq hw
 have hl:=chs_len (ac:=ac) (qv:=qv) (wv:=wv)
 have hnd2:=chs_nd (qv:=qv) (wv:=wv) (fun x hx => (hok x hx).out.key) hnd
 have hm:∀ x ∈ xs,bare x ∈ chs ac qv wv:=fun x hx' => hx ▸ List.mem_map.2 ⟨x,hx',rfl⟩
 have hlen:xs.length = (chs ac qv wv).length:=by rw [← hx,List.length_map]
 refine ⟨fun x h => (hb _ (hm x h)).2.2,?_,fun x h => (hb _ (hm x h)).2.1,by omega⟩
 rw [← hx,List.map_map,List.pairwise_map] at hnd2
 exact hnd2
structure Bh (w W5:World) (F F5 V1 V2:Nat → Prop) (p pu:Nat) (e:Ep) (m5:Em) (ac:List (Nat × Am)) (A:Option Addr) (G3:Nat → Prop):Prop where
 st:Star (est p e m5) W5 F5
 s1:Star (ac.map acO) W5 V1
 v12:∀ k,V1 k → ¬ V2 k
 v5:∀ k,V1 k ∨ V2 k → ¬ F5 k
 row:∀ W,Upd (fun k => k = e.ba) W5 W → Rd W 1 A ac.length (ptrs ac)
 rs:Rs W5 G3 e.ba m5.n m5.act m5.wh
 g3:∀ k,G3 k → F5 k
 put:∀ w' G' o',Upd G3 W5 w' → (∀ k,G' k → G3 k ∨ ¬ F5 k) → o'.is w' G' → ∃ F',Star ((est p e m5).set 3 o') w' F' ∧ ∀ k,F' k → F5 k ∨ G' k
section
variable {w W5 W:World} {F F5 V1 V2 G3:Nat → Prop} {p pu:Nat} {e:Ep} {m5:Em} {ac:List (Nat × Am)} {A:Option Addr}
theorem Bh.ba (h:Bh w W5 F F5 V1 V2 p pu e m5 ac A G3):¬ V1 e.ba ∧ ¬ V2 e.ba:=⟨fun hv => h.v5 _ (.inl hv) (h.g3 _ h.rs.here),fun hv => h.v5 _ (.inr hv) (h.g3 _ h.rs.here)⟩
theorem Bh.eng (h:Bh w W5 F F5 V1 V2 p pu e m5 ac A G3) (hu:Upd (fun k => k = e.ba) W5 W):Blk W p 104 (ecs e m5):=by
 obtain ⟨G,H,h1,h2,h3,_⟩:=Star.pair h.st 0 3 (by omega) (o:=Ob.blk p 104 (ecs e m5)) (o':=rsO e.ba m5.n m5.act m5.wh) rfl rfl
 exact h1.1.upd hu fun e' => h3 p ((h1.2 _).2 rfl) (e' ▸ Rs.here h2)
theorem Bh.table (h:Bh w W5 F F5 V1 V2 p pu e m5 ac A G3) (hu:Upd (fun k => k = e.ba) W5 W):∃ G,At.Ta W G e.pt m5.room m5.tx:=by
 obtain ⟨G,H,h1,h2,h3,_⟩:=Star.pair h.st 2 3 (by omega) (o:=taO e.pt m5.room m5.tx) (o':=rsO e.ba m5.n m5.act m5.wh) rfl rfl
 exact ⟨G,h1.upd hu fun k hk e' => h3 k hk (e' ▸ Rs.here h2)⟩
theorem Bh.actor (h:Bh w W5 F F5 V1 V2 p pu e m5 ac A G3) (hu:Upd (fun k => k = e.ba) W5 W) {j:Nat} (hj:j < ac.length):∃ G,Ac.At W5 G ac[j].1 ac[j].2 ∧ Ac.At W G ac[j].1 ac[j].2 ∧ ∀ k,G k → V1 k:=by
 obtain ⟨G,h1,h2⟩:=Star.own h.s1 j (o:=acO ac[j]) (by rw [List.getElem?_map,List.getElem?_eq_getElem hj]; rfl)
 exact ⟨G,h1,Ac.At.upd h1 hu fun k hk e' => h.ba.1 (e' ▸ h2 k hk),h2⟩
theorem Bh.cell (h:Bh w W5 F F5 V1 V2 p pu e m5 ac A G3) (hu:Upd (fun k => k = e.ba) W5 W) {j:Nat} (hj:j < ac.length):∃ ad,A = some ad ∧ W.cell? (ad.add j) = some (.pointer (some ⟨ac[j].1,0,none⟩)):=by
 obtain ⟨ad,e',hc⟩:=(h.row W hu).2 (by omega)
 exact ⟨ad,e',by simpa using hc j _ (by simp [ptrs,hj])⟩
end
theorem bh_of {w Wd W5:World} {F F5 V:Nat → Prop} {p pu:Nat} {e:Ep} {m5:Em} {ac:List (Nat × Am)} {A:Option Addr} {r:List Ob} (hst:Star (ac.map acO ++ r) w V) (hvf:∀ k,V k → ¬ F k) (hrow:Rd w 1 A ac.length (ptrs ac)) (hrf:0 < ac.length → ∀ ad,A = some ad → ¬ F ad.block)
 (hu0:Upd No w Wd) (hs5:Star (est p e m5) W5 F5) (hm5:Mv F F5 Wd W5) :
 ∃ V1 V2 G3,Bh w W5 F F5 V1 V2 p pu e m5 ac A G3 ∧ Star r W5 V2 ∧ (∀ k,V1 k ∨ V2 k → V k) ∧ Upd F w W5:=by
 have hu5:Upd F w W5:=(hu0.mono fun _ _ h => h.elim).next hm5.upd
 obtain ⟨V1,V2,hv1,hv2,hv12,hv1V,hv2V⟩:=Star.split hst
 obtain ⟨G3,hr3,hg3,hput3⟩:=Star.grow hs5 3 (o:=rsO e.ba m5.n m5.act m5.wh) rfl
 have hVlt:=hst.lt
 have s0:=hu0.size
 have hv5:∀ k,V k → ¬ F5 k:=fun k hk hf => (hm5.sub k hf).elim (hvf k hk) fun h => by have:=hVlt k hk; omega
 refine ⟨V1,V2,G3,⟨hs5,hv1.keep hu5 fun k hk => hvf k (hv1V k hk),hv12,fun k hk => hv5 k (hk.elim (hv1V k) (hv2V k)),fun W hu => ?_,hr3,hg3,hput3⟩,hv2.keep hu5 fun k hk => hvf k (hv2V k hk),fun k hk => hk.elim (hv1V k) (hv2V k),hu5⟩
 refine Rd.upd0 (Rd.upd0 hrow (by omega) hu5 hrf) (by omega) hu fun h0 ad ha e' => ?_
 obtain ⟨ad',e2,hl⟩:=Rd.lt hrow h0 (by omega)
 rw [ha] at e2
 injection e2 with e2
 subst e2
 rcases hm5.sub _ (hg3 _ hr3.here) with h | h
 · exact hrf h0 ad ha (e' ▸ h)
 · omega
theorem Bh.fin {w W5 W:World} {F F5 V1 V2 G3:Nat → Prop} {p pu:Nat} {e:Ep} {m5:Em} {ac:List (Nat × Am)} {A:Option Addr} {act:ByteArray → Am} (h:Bh w W5 F F5 V1 V2 p pu e m5 ac A G3) (hp:Pt W5 W e.ba m5.n act m5.tx ac G3 V1 ac.length) {n:Nat} (hn:m5.n + ac.length ≤ n) :
 ∃ F6,Star (est p e { m5 with n:=n,act:=act,wh:=⟨m5.tx,[]⟩ }) W F6 ∧ (∀ k,F6 k → F5 k ∨ V1 k) ∧ Upd F5 W5 W:=by
 obtain ⟨hu,Fr,hr,hF⟩:=hp
 rw [List.drop_length,List.map_nil] at hr
 obtain ⟨F6,k1,k2⟩:=h.put W Fr (rsO e.ba (m5.n + ac.length) act ⟨m5.tx,[]⟩) (hu.mono fun k _ e' => e' ▸ h.rs.here) (fun k hk => (hF k hk).imp id fun hv => h.v5 k (.inl hv)) hr
 refine ⟨F6,Star.weak ?_ k1,fun k hk => (k2 k hk).elim .inl fun hk => (hF k hk).imp (h.g3 k) id,hu.mono fun k _ e' => h.g3 _ (e' ▸ h.rs.here)⟩
 have hle:m5.n ≤ n:=by omega
 exact .cons (fun _ h => h) (.cons (bk_more hle) (.cons (fun _ h => h) (.cons (fun _ h => Rs.wide h hn (fun _ h => h) fun _ h => h) (.cons (fun _ h => h) (.cons (wd_more hle) (.cons (fun _ h => h) (.cons (fun _ h => h) .nil)))))))
theorem Bh.start {w W5:World} {F F5 V1 V2 G3:Nat → Prop} {p pu:Nat} {e:Ep} {m5:Em} {ac:List (Nat × Am)} {A:Option Addr} (h:Bh w W5 F F5 V1 V2 p pu e m5 ac A G3) (ht:m5.tidy):Pt W5 W5 e.ba m5.n (actN m5.act ac) m5.tx ac G3 V1 0:=
 ⟨Upd.refl _ _,G3,(Rs.act h.rs ht.1 fun s hs => actN_away m5.act ac hs).wide (Nat.le_refl _) ht.2 (fun _ h => h),fun _ h => .inl h⟩
def CmOut (w:World) (F V:Nat → Prop) (p:Nat) (m:Em) (ac:List (Nat × Am)) (qv:Option (Nat × List Rm)) (wv:Option (Nat × Wp.St)) (e:Ending) (w':World):Prop:=
 e = .returned (.int .i64 0) ∧ ∃ F',En w' F' p (m.commit ac qv wv) ∧ Upd F w w' ∧ ∀ k,F' k → F k ∨ V k ∨ w.heap.size ≤ k
structure Ls (w W5 W:World) (F F5 F6 V V1 V2:Nat → Prop) (p:Nat) (e:Ep) (m:Em) (ac:List (Nat × Am)) (qv:Option (Nat × List Rm)) (wv:Option (Nat × Wp.St)):Prop where
 st:Star (est p e { m with bk:=comB m.bk (chs ac qv wv),n:=m.n + 150,act:=actN m.act ac,wh:=⟨m.tx,[]⟩ }) W F6
 ok:(m.commit ac qv wv).ok
 f6:∀ k,F6 k → F5 k ∨ V1 k
 f5:∀ k,F5 k → F k ∨ w.heap.size ≤ k
 v:∀ k,V1 k ∨ V2 k → V k
 v12:∀ k,V1 k → ¬ V2 k
 v5:∀ k,V1 k ∨ V2 k → ¬ F5 k
 u5:Upd F w W5
 u6:Upd F5 W5 W
 s2:Star (qL qv ++ wL m.n wv) W5 V2
 fp:F p
section
variable {w W5 W:World} {F F5 F6 V V1 V2:Nat → Prop} {p:Nat} {e:Ep} {m:Em} {ac:List (Nat × Am)} {qv:Option (Nat × List Rm)} {wv:Option (Nat × Wp.St)}
theorem Ls.upd (h:Ls w W5 W F F5 F6 V V1 V2 p e m ac qv wv):Upd F w W:=h.u5.trans h.u6 fun k hk hf => (h.f5 k hf).elim id fun hs => absurd hs (by omega)
theorem Ls.sub (h:Ls w W5 W F F5 F6 V V1 V2 p e m ac qv wv):∀ k,F6 k → F k ∨ V k ∨ w.heap.size ≤ k:=fun k hk => (h.f6 k hk).elim (fun hf => (h.f5 k hf).imp id .inr) fun hv => .inr (.inl (h.v k (.inl hv)))
theorem Ls.n2 (h:Ls w W5 W F F5 F6 V V1 V2 p e m ac qv wv):∀ k,V2 k → ¬ F6 k:=fun k hk hf => (h.f6 k hf).elim (h.v5 k (.inr hk)) fun hv => h.v12 k hv hk
def finW (p:Nat):Option (Nat × List Rm) → Option (Nat × Wp.St) → World → World
 | none,none,W => W
 | some x,_,W => W.setCell ⟨p,3,none⟩ (.pointer (some ⟨x.1,0,none⟩))
 | none,some x,W => W.setCell ⟨p,4,none⟩ (.pointer (some ⟨x.1,0,none⟩))
theorem Ls.bare_ (h:Ls w W5 W F F5 F6 V V1 V2 p e m ac none none):CmOut w F V p m ac none none (.returned (.int .i64 0)) W:=
 ⟨rfl,F6,⟨⟨e,h.st⟩,h.ok⟩,h.upd,h.sub⟩
theorem Ls.queue {q:Nat} {l:List Rm} (h:Ls w W5 W F F5 F6 V V1 V2 p e m ac (some (q,l)) none):CmOut w F V p m ac (some (q,l)) none (.returned (.int .i64 0)) (W.setCell ⟨p,3,none⟩ (.pointer (some ⟨q,0,none⟩))):=by
 obtain ⟨Q,hq,hQ⟩:=Star.own (h.s2.keep h.u6 fun k hk => h.v5 k (.inr hk)) 0 (o:=qoO q l) rfl
 obtain ⟨F',k1,k2,k3⟩:=setq_ h.st hq fun k hk => h.n2 k (hQ k hk)
 exact ⟨rfl,F',⟨⟨_,k1⟩,h.ok⟩,h.upd.trans k3 fun k _ hk => hk ▸ h.fp,fun k hk => (k2 k hk).elim (h.sub k) fun hq => .inr (.inl (h.v k (.inr (hQ k hq))))⟩
theorem Ls.window {q:Nat} {x:Wp.St} (h:Ls w W5 W F F5 F6 V V1 V2 p e m ac none (some (q,x))):CmOut w F V p m ac none (some (q,x)) (.returned (.int .i64 0)) (W.setCell ⟨p,4,none⟩ (.pointer (some ⟨q,0,none⟩))):=by
 obtain ⟨Q,hq,hQ⟩:=Star.own (h.s2.keep h.u6 fun k hk => h.v5 k (.inr hk)) 0 (o:=wdO q x m.n) rfl
 obtain ⟨F',k1,k2,k3⟩:=setw_ h.st (wd_more (Nat.le_add_right _ _) Q hq) fun k hk => h.n2 k (hQ k hk)
 exact ⟨rfl,F',⟨⟨_,k1⟩,h.ok⟩,h.upd.trans k3 fun k _ hk => hk ▸ h.fp,fun k hk => (k2 k hk).elim (h.sub k) fun hq => .inr (.inl (h.v k (.inr (hQ k hq))))⟩
theorem Ls.end_ (h:Ls w W5 W F F5 F6 V V1 V2 p e m ac qv wv) (ho:qv = none ∨ wv = none):CmOut w F V p m ac qv wv (.returned (.int .i64 0)) (finW p qv wv W):=by
 rcases qv with _ | ⟨q,l⟩
 · rcases wv with _ | ⟨q,x⟩
   · exact h.bare_
   · exact h.window
 · obtain rfl:wv = none:=ho.resolve_left (by simp)
   exact h.queue
end
end Eg
end
