/-
  Part 32 of the proof of the statement that the last part ends in: lemmas, no conditions of their own.
-/
import Derived.Test.YtclfmpieapbfnaaGreatDoorZ31
import Derived.Test.YtclfmpieapbfnaaGreatDoorZ08
set_option linter.unusedVariables false
set_option linter.unusedSimpArgs false
section
namespace Go.Proofs.YtclfmpieapbfnaaGreatDoor.Nd
open Go.RowKit B Go.Proofs.YtclfmpieapbfnaaGreatDoor.Op
def ServeOut (q:Nat) (F:Nat → Prop) (o:Option Rm × List Rm) (w:World) (e:Ending) (w':World):Prop:=e = .returned (tell o.1) ∧ ∃ F',Qo w' F' q o.2 ∧ Mv F F' w w'
theorem ServeOut.of {q:Nat} {F:Nat → Prop} {o:Option Rm × List Rm} {w:World} {e:Ending} {w':World} (h:e = .returned (tell o.1) ∧ ∃ F',Qo w' F' q o.2 ∧ Mv F F' w w'):ServeOut q F o w e w':=h
set_option maxHeartbeats 2000000 in
set_option maxRecDepth 100000 in
theorem serve_none (q:Nat) (F:Nat → Prop) (l:List Rm) (now:Int) (w:World) (h:Qo w F q l) (hl:l.length ≤ 1000) (hd:dueR l now = none) :
 Calls Tryz.prog 69 #[.pointer (some ⟨q,0,none⟩),.int .i64 now] w fun e w' => e = .returned (tell none) ∧ Upd No w w':=by
 have hu1:Upd No w (w.alloc (.cells #[.string ⟨#[]⟩,.string ⟨#[]⟩,.int .i64 0,.int .i64 0,.int .i64 0] 71)):=(Upd.refl _ _).alloc _
 have hb1:=Blk.fresh w 71 #[.string ⟨#[]⟩,.string ⟨#[]⟩,.int .i64 0,.int .i64 0,.int .i64 0]
 have hdu:=due_ q F l now _ (h.quiet hu1) hl
 rw [hd] at hdu
 simp only [tell,rv,zr,Option.getD_none,Option.isSome_none] at hdu
 have HD:=hid hdu
 have HU1:=hid hu1
 have HB1:=hid hb1
 clear hdu hu1 hb1 h
 go_enter Tryz.func69,Tryz.ntmps69
 go_wp2_with (fail)
 refine HD.out.mono ?_
 rintro e w2 ⟨rfl,hu2⟩
 have HU3:Hid (Upd No w (w2.alloc (.cells #[.string ⟨#[]⟩,.string ⟨#[]⟩,.int .i64 0,.int .i64 0,.int .i64 0] 71))):=hid ((HU1.out.next hu2).alloc _)
 have hb3:Blk (w2.alloc (.cells #[.string ⟨#[]⟩,.string ⟨#[]⟩,.int .i64 0,.int .i64 0,.int .i64 0] 71)) w.heap.size 71 #[.string ⟨#[]⟩,.string ⟨#[]⟩,.int .i64 0,.int .i64 0,.int .i64 0]:=(HB1.out.upd hu2 (no_ _)).alloc _
 obtain ⟨y0,y1,y2,y3,y4⟩:=box5 hb3
 have g0:=hb3.free 0
 have g1:=hb3.free 1
 have g2:=hb3.free 2
 have g3:=hb3.free 3
 have g4:=hb3.free 4
 have HB5:=hid (put5_blk hb3 zr)
 have HU5:=hid (put5_new HU3.out (Nat.le_refl _) zr)
 clear hu2 hb3
 go_wp2
 simp only [put5,zr] at HB5 HU5
 obtain ⟨q0,q1,q2,q3,q4⟩:=box5 HB5.out
 exact bodyPost_ret (v:=tell none) (by simp [results,go_sem,q0,q1,q2,q3,q4,tell,rv,zr]) rfl ⟨rfl,HU5.out⟩
set_option maxHeartbeats 1000000 in
set_option maxRecDepth 100000 in
theorem serve_some (q:Nat) (F:Nat → Prop) (r:Rm) (t:List Rm) (now:Int) (w:World) (h:Qo w F q (r :: t)) (hi:Inv (r :: t)) (hd:dueR (r :: t) now = some r) :
 Calls Tryz.prog 69 #[.pointer (some ⟨q,0,none⟩),.int .i64 now] w fun e w' => ServeOut q F (some r,nextR (r :: t) r) w e w':=by
 have hu1:Upd No w (w.alloc (.cells #[.string ⟨#[]⟩,.string ⟨#[]⟩,.int .i64 0,.int .i64 0,.int .i64 0] 71)):=(Upd.refl _ _).alloc _
 have hb1:=Blk.fresh w 71 #[.string ⟨#[]⟩,.string ⟨#[]⟩,.int .i64 0,.int .i64 0,.int .i64 0]
 have hlen:=hi.len
 have hdu:=due_ q F (r :: t) now _ (h.quiet hu1) (by omega)
 rw [hd] at hdu
 simp only [tell,rv,Option.getD_some,Option.isSome_some] at hdu
 have HD:=hid hdu
 have HU1:=hid hu1
 have HB1:=hid hb1
 have HQ:=hid h
 have hor:=(hi.ok r List.mem_cons_self)
 obtain ⟨hr1,hr2,_,_,_⟩:=hor.r
 have hr3:=hor.d.2
 have hr4:=hor.p.2
 have hdel:del r.actor r.name (r :: t) = t:=del_head hi.unq
 have HN:Hid (nextR (r :: t) r = if r.due + r.per ≤ 9223372036854775807 then ins t { r with due:=r.due + r.per } else t):=hid (by unfold nextR; rw [hdel])
 have hit:Inv t:=hi.sub (List.sublist_cons_self _ _)
 have HIt:=hid hit
 have HLy:=hid fun (W:World) (G:Nat → Prop) (x:Rm) (hq:Qo W G q t) => lay_ q G t x W hq hit.srt (by have:=hit.len; omega)
 have hN1:(r :: t).length = t.length + 1:=rfl
 have HDc:=hid fun (W:World) (hq:Qo W F q (r :: t)) => del_call hq (i:=0) (N1:=t.length) (by rw [hN1]; omega) hN1 (by omega)
 obtain ⟨N,hNl⟩:∃ N,(r :: t).length = N:=⟨_,rfl⟩
 clear hdu hu1 hb1 h hi hd hdel hor hit hlen hN1
 obtain ⟨ac,an,du,ap,ak⟩:=r
 unfold rv at HLy
 simp only at HD hr1 hr2 hr3 hr4 HN ⊢
 go_enter Tryz.func69,Tryz.ntmps69
 go_wp2_with (fail)
 refine HD.out.mono ?_
 rintro e w2 ⟨rfl,hu2⟩
 obtain ⟨w3,hw3⟩:∃ w3,w3 = w2.alloc (.cells #[.string ac,.string an,.int .i64 du,.int .i64 ap,.int .i64 ak] 71):=⟨_,rfl⟩
 have hu3:Upd No w w3:=by rw [hw3]; exact (HU1.out.next hu2).alloc _
 have hb3:Blk w3 w.heap.size 71 #[.string ⟨#[]⟩,.string ⟨#[]⟩,.int .i64 0,.int .i64 0,.int .i64 0]:=by rw [hw3]; exact (HB1.out.upd hu2 (no_ _)).alloc _
 obtain ⟨p4,hp4⟩:∃ p4,p4 = w.heap.size:=⟨_,rfl⟩
 obtain ⟨p6,hp6⟩:∃ p6,p6 = w2.heap.size:=⟨_,rfl⟩
 have hc3:Blk w3 p6 71 #[.string ac,.string an,.int .i64 du,.int .i64 ap,.int .i64 ak]:=by rw [hw3,hp6]; exact Blk.fresh _ _ _
 rw [← hp4] at hb3 ⊢
 have hq3:=HQ.out.quiet hu3
 obtain ⟨g,c,hcq,hdc⟩:=HDc.out w3 hq3
 rw [hNl] at hcq hdc
 rw [hw3] at hcq
 have hs2:=(HU1.out.next hu2).size
 have HP:Hid (∀ k,F k → k ≠ p4 ∧ k ≠ p6):=hid fun k hk => by have:=HQ.out.lt k hk; omega
 have HP2:Hid (w.heap.size ≤ p4 ∧ w.heap.size ≤ p6 ∧ p4 ≠ p6):=hid ⟨by omega,by omega,fun e => by
  have:=HU1.out.next hu2
  have h1:=(HB1.out.upd hu2 (no_ _)).lt
  omega⟩
 have HD3:Hid (Calls Tryz.prog 133 #[.slice (some ⟨g,0,none⟩) N c,.int .i64 0,.int .i64 1] w3 (DelPost w3 F q g c t.length t)):=hid hdc
 have HU3:=hid hu3
 have HB3:=hid hb3
 have HC3:=hid hc3
 unfold DelPost at HD3
 clear hu3 hb3 hc3 hq3 hdc hs2 hu2 HDc HB1 HD hNl
 go_wp2_with (fail)
 try rw [← hw3]
 try rw [← hp4]
 try rw [← hp6]
 clear hcq hw3 hp4 hp6
 refine HD3.out.mono ?_
 rintro e w4 ⟨rfl,⟨v4,hv4⟩,hf4,F5,hq5,hm5⟩
 have hb5:Blk (w4.setCell ⟨q,0,none⟩ (.slice (some ⟨g,0,none⟩) t.length c)) p4 71 #[.string ⟨#[]⟩,.string ⟨#[]⟩,.int .i64 0,.int .i64 0,.int .i64 0]:=HB3.out.upd hm5.upd fun hk => (HP.out p4 hk).1 rfl
 have hc5:Blk (w4.setCell ⟨q,0,none⟩ (.slice (some ⟨g,0,none⟩) t.length c)) p6 71 #[.string ac,.string an,.int .i64 du,.int .i64 ap,.int .i64 ak]:=HC3.out.upd hm5.upd fun hk => (HP.out p6 hk).2 rfl
 have HP5:Hid (∀ k,F5 k → k ≠ p4 ∧ k ≠ p6):=hid fun k hk => by
  rcases hm5.sub k hk with h | h
  · exact HP.out k h
  · have h1:=HB3.out.lt
    have h2:=HC3.out.lt
    omega
 have HM5:=hid (Mv.box HU3.out hm5)
 have HQ5:=hid hq5
 have HB5:=hid hb5
 have HC5:=hid hc5
 obtain ⟨x0,x1,x2,x3,x4⟩:=box5 hc5
 have y:=fun o => box5 (hc5.alloc o)
 have y0:=fun o => (y o).1
 have y1:=fun o => (y o).2.1
 have y2:=fun o => (y o).2.2.1
 have y3:=fun o => (y o).2.2.2.1
 have y4:=fun o => (y o).2.2.2.2
 clear hq5 hm5 hb5 hc5 y HD3 HB3 HC3 HP
 generalize hw5:w4.setCell ⟨q,0,none⟩ (.slice (some ⟨g,0,none⟩) t.length c) = w5 at *
 -- behind the last store
 have HFin:Hid (∀ (W:World) (G:Nat → Prop) (l':List Rm),Qo W G q l' → Mv F G w W → Blk W p4 71 #[.string ⟨#[]⟩,.string ⟨#[]⟩,.int .i64 0,.int .i64 0,.int .i64 0] → (∀ k,G k → k ≠ p4) →
  Blk (put5 W p4 ⟨ac,an,du,ap,ak⟩) p4 71 #[.string ac,.string an,.int .i64 du,.int .i64 ap,.int .i64 ak] ∧ ∃ F',Qo (put5 W p4 ⟨ac,an,du,ap,ak⟩) F' q l' ∧ Mv F F' w (put5 W p4 ⟨ac,an,du,ap,ak⟩)):=hid fun W G l' hq hm hb hk => by
  have hu:=put5_upd W p4 ⟨ac,an,du,ap,ak⟩
  refine ⟨put5_blk hb ⟨ac,an,du,ap,ak⟩,G,hq.upd hu fun k h e => hk k h e,hm.upd.trans hu fun i hi e => ?_,hm.sub⟩
  have:=HP2.out.1
  omega
 have HAl:=hid fun o => HQ5.out.quiet ((Upd.refl No _).alloc o)
 have HMl:=hid fun o => Mv.trans HM5.out (Mv.quiet (F:=F5) (((Upd.refl No w5).alloc o).old (Nat.le_refl _)))
 by_cases hov:du + ap ≤ 9223372036854775807
 · rw [if_pos hov] at HN
   have hpos:0 < du + ap:=by omega
   have HL:=hid (HLy.out (w5.alloc (.cells #[.string ac,.string an,.int .i64 (du + ap),.int .i64 ap,.int .i64 ak] 71)) F5 ⟨ac,an,du + ap,ap,ak⟩ (HAl.out _))
   go_wp2_with (fail)
   refine HL.out.mono ?_
   rintro e w6 ⟨rfl,F6,hq6,hm6⟩
   have hb6:Blk w6 p4 71 #[.string ⟨#[]⟩,.string ⟨#[]⟩,.int .i64 0,.int .i64 0,.int .i64 0]:=(HB5.out.alloc _).upd hm6.upd fun hk => (HP5.out p4 hk).1 rfl
   have hc6:Blk w6 p6 71 #[.string ac,.string an,.int .i64 du,.int .i64 ap,.int .i64 ak]:=(HC5.out.alloc _).upd hm6.upd fun hk => (HP5.out p6 hk).2 rfl
   obtain ⟨HB7,HE⟩:=HFin.out w6 F6 _ hq6 (Mv.trans (HMl.out _) hm6) hb6 (fun k hk => by
    rcases hm6.sub k hk with h | h
    · exact (HP5.out k h).1
    · have:=HB5.out.lt
      have h2:w5.heap.size ≤ (w5.alloc (.cells #[.string ac,.string an,.int .i64 (du + ap),.int .i64 ap,.int .i64 ak] 71)).heap.size:=by simp
      omega)
   have HE2:=hid HE
   have HB8:=hid HB7
   obtain ⟨s0,s1,s2,s3,s4⟩:=box5 hb6
   obtain ⟨r0,r1,r2,r3,r4⟩:=box5 hc6
   have f0:=hb6.free 0
   have f1:=hb6.free 1
   have f2:=hb6.free 2
   have f3:=hb6.free 3
   have f4:=hb6.free 4
   clear hq6 hm6 hb6 hc6 HE HB7 HL HLy
   go_wp2
   simp only [put5] at HB8 HE2
   obtain ⟨q0,q1,q2,q3,q4⟩:=box5 HB8.out
   exact bodyPost_ret (v:=tell (some ⟨ac,an,du,ap,ak⟩)) (by simp [results,go_sem,q0,q1,q2,q3,q4,tell,rv]) rfl (.of ⟨rfl,by rw [HN.out]; exact HE2.out⟩)
 · rw [if_neg hov] at HN
   obtain ⟨z,hz⟩:∃ z,IntKind.i64.wrap (du + ap) = z:=⟨_,rfl⟩
   have hz0:¬ 0 < z:=by
    rw [← hz,IntKind.wrap_i64]
    omega
   have hb6:=HB5.out.alloc (.cells #[.string ac,.string an,.int .i64 z,.int .i64 ap,.int .i64 ak] 71)
   obtain ⟨HB7,HE⟩:=HFin.out _ F5 t (HAl.out (.cells #[.string ac,.string an,.int .i64 z,.int .i64 ap,.int .i64 ak] 71)) (HMl.out _) hb6 (fun k hk => (HP5.out k hk).1)
   have HE2:=hid HE
   have HB8:=hid HB7
   obtain ⟨s0,s1,s2,s3,s4⟩:=box5 hb6
   have f0:=hb6.free 0
   have f1:=hb6.free 1
   have f2:=hb6.free 2
   have f3:=hb6.free 3
   have f4:=hb6.free 4
   clear hov hb6 HE HB7 HLy
   go_wp2
   simp only [put5] at HB8 HE2
   obtain ⟨q0,q1,q2,q3,q4⟩:=box5 HB8.out
   exact bodyPost_ret (v:=tell (some ⟨ac,an,du,ap,ak⟩)) (by simp [results,go_sem,q0,q1,q2,q3,q4,tell,rv]) rfl (.of ⟨rfl,by rw [HN.out]; exact HE2.out⟩)
end Go.Proofs.YtclfmpieapbfnaaGreatDoor.Nd
end
section
namespace Go.Proofs.YtclfmpieapbfnaaGreatDoor.Nd
open Go.RowKit B Go.Proofs.YtclfmpieapbfnaaGreatDoor.Op
theorem serve_ (q:Nat) (F:Nat → Prop) (l:List Rm) (now:Int) (w:World) (h:Qo w F q l) (hi:Inv l) :
 Calls Tryz.prog 69 #[.pointer (some ⟨q,0,none⟩),.int .i64 now] w fun e w' => ServeOut q F (serveR l now) w e w':=by
 cases hd:dueR l now with
 | none =>
  have e:serveR l now = (none,l):=by unfold serveR; rw [hd]
  rw [e]
  refine (serve_none q F l now w h (by have:=hi.len; omega) hd).mono ?_
  rintro e w' ⟨rfl,hu⟩
  exact .of ⟨rfl,F,h.quiet hu,Mv.quiet (hu.old (Nat.le_refl _))⟩
 | some r =>
  have e:serveR l now = (some r,nextR l r):=by unfold serveR; rw [hd]
  rw [e]
  obtain ⟨t,rfl,_⟩:=due_mem hd
  exact serve_some q F r t now w h hi hd
theorem clone5_info:(Tryz.prog.info? 71).map (fun i => (i.zero,i.size,i.bytes)) = some (some (.agg #[.string ⟨#[]⟩,.string ⟨#[]⟩,.int .i64 0,.int .i64 0,.int .i64 0]),5,56):=by kernel_rfl
set_option maxHeartbeats 1000000 in
theorem clone5 (A:Option Addr) (n c:Nat) (xs:List Value) (w:World) (hr:Rd w 5 A n xs) (h1:∀ u ∈ xs,u.oneCell' = true) (hn:n * 56 ≤ 140737488355328) :
 Calls Tryz.prog 139 #[.slice A n c] w fun e w' => ∃ A' c',e = .returned (.slice A' n c') ∧ w'.ownsRow w.heap.size 71 5 (.slice A' n c') n xs ∧ Upd No w w' ∧ (A = none → A' = none):=by
 have q:∀ (w:World) (a:Option Addr) (n c n' c':Nat),(binOp .eql 80 (.slice a n c) (.slice none n' c')).run Tryz.prog w = .ok (.bool a.isNone) w:=fun w a n c n' c' => Go.Lib.run_eql_slice_nil w _ _ a n c n' c' Tryz.underlying80
 rcases A with _ | ad
 · obtain rfl:n = 0:=by
    rcases Nat.eq_zero_or_pos n with h0 | h0
    · exact h0
    · obtain ⟨ad,h,_⟩:=hr.2 h0
      cases h
   obtain rfl:xs = []:=List.eq_nil_of_length_eq_zero (by simpa using hr.1)
   go_enter Tryz.func139,Tryz.ntmps139
   go_wp2
   go_ret
   exact ⟨none,0,rfl,⟨by simp,.inl ⟨rfl,rfl⟩⟩,Upd.refl _ _,fun _ => rfl⟩
 · go_enter Tryz.func139,Tryz.ntmps139
   go_wp2_with (at_builtin; refine ap_row w.heap.size rfl _ _ 80 71 (.agg #[.string ⟨#[]⟩,.string ⟨#[]⟩,.int .i64 0,.int .i64 0,.int .i64 0]) 5 56 rfl Tryz.underlying80 clone5_info rfl (by omega) (.slice (some ⟨w.heap.size,0,none⟩) 0 0) 0 [] (some ad) n c xs rfl rfl (World.ownsRow_made w #[] 0 (Nat.le_refl _) (Nat.zero_le _) rfl) (Rd.alloc hr (by omega) _) h1 (by omega) (by omega) (by simp) ?_; intro A1 c1 w1 ho hg hat; rw [Nat.zero_add,List.nil_append] at ho; rw [Nat.zero_add])
   go_wp2
   go_ret
   refine ⟨A1,c1,rfl,ho,?_,fun h => by cases h⟩
   have h5:Upd No w (w.alloc (.cells #[] 71)):=(Upd.refl _ _).alloc _
   exact h5.grown hg fun k hk => by
    have:w.heap.size = k:=by simpa [Value.ownBlock] using hk
    exact .inr (by omega)
def NewR (w:World) (l:List Rm) (e:Ending) (w':World):Prop:=∃ A c,e = .returned (.slice A l.length c) ∧ w'.ownsRow w.heap.size 71 5 (.slice A l.length c) l.length (l.flatMap rc) ∧ Upd No w w'
theorem NewR.of {w:World} {l:List Rm} {e:Ending} {w':World} (h:∃ A c,e = .returned (.slice A l.length c) ∧ w'.ownsRow w.heap.size 71 5 (.slice A l.length c) l.length (l.flatMap rc) ∧ Upd No w w'):NewR w l e w':=h
set_option maxHeartbeats 400000 in
theorem all_ (q:Nat) (F:Nat → Prop) (l:List Rm) (w:World) (h:Qo w F q l) (hl:l.length ≤ 1000):Calls Tryz.prog 70 #[.pointer (some ⟨q,0,none⟩)] w fun e w' => NewR w l e w':=by
 obtain ⟨A,c,hc,hrd,_,_⟩:=h.cell
 have HC:=hid (clone5 A l.length c (l.flatMap rc) w hrd (flat_one l) (by omega))
 clear h hrd
 go_enter Tryz.func70,Tryz.ntmps70
 go_wp2_with (fail)
 refine Calls.mono HC.out ?_
 rintro e w' ⟨A',c',rfl,ho',hu',_⟩
 have HE:=hid (And.intro ho' hu')
 clear ho' hu'
 go_wp2
 go_ret
 exact .of ⟨A',c',rfl,HE.out.1,HE.out.2⟩
section
variable {w W W':World} {F F':Nat → Prop} {q:Nat} {l l':List Rm}
end
def sa:ByteArray:=⟨#[97]⟩
end Go.Proofs.YtclfmpieapbfnaaGreatDoor.Nd
end
section
namespace Go.Proofs.YtclfmpieapbfnaaGreatDoor.Nd
open Go.RowKit B Go.Proofs.YtclfmpieapbfnaaGreatDoor.Op
def Wq (w:World) (F:Nat → Prop) (q:Nat) (l:List Rm):Prop:=
 ∃ v,Blk w q 67 #[v] ∧ w.ownsRow 0 69 5 v l.length (l.flatMap rc) ∧ ∀ k,F k ↔ k = q ∨ v.ownBlock = some k
section
variable {w w':World} {F G:Nat → Prop} {q:Nat} {l:List Rm}
theorem Wq.upd (h:Wq w F q l) (hu:Upd G w w') (hn:∀ k,F k → ¬ G k):Wq w' F q l:=by
 obtain ⟨v,h1,h2,h3⟩:=h
 exact ⟨v,h1.upd hu (hn _ ((h3 q).2 (.inl rfl))),own_upd h2 hu fun k hk => hn k ((h3 k).2 (.inr hk)),h3⟩
theorem Wq.quiet (h:Wq w F q l) (hu:Upd No w w'):Wq w' F q l:=h.upd hu fun _ _ => no_ _
theorem Wq.lt (h:Wq w F q l):∀ k,F k → k < w.heap.size:=by
 obtain ⟨v,h1,h2,h3⟩:=h
 intro k hk
 rcases (h3 k).1 hk with rfl | hk
 · exact h1.lt
 · exact (h2.lt k hk).2
theorem Wq.cell (h:Wq w F q l):∃ A c,w.cell? ⟨q,0,none⟩ = some (.slice A l.length c) ∧ Rd w 5 A l.length (l.flatMap rc) ∧ l.length ≤ c ∧ c ≤ maxLen:=by
 obtain ⟨v,h1,h2,h3⟩:=h
 obtain ⟨A,c,rfl,h4,h5⟩:=own_shape h2
 have e:=h1.cell 0
 simp at e
 exact ⟨A,c,e,Rd.of_own h2,h4,h5⟩
theorem Wq.new (w:World):Wq (w.alloc (.cells #[.slice none 0 0] 67)) (fun k => k = w.heap.size) w.heap.size []:=
 ⟨_,Blk.fresh w _ _,World.ownsRow_nil _ _ _ _,fun k => by simp [Value.ownBlock]⟩
theorem Wq.stored {w1 w2:World} {v v':Value} {l':List Rm} (hb:Blk w q 67 #[v]) (ho:w.ownsRow 0 69 5 v l.length (l.flatMap rc)) (h3:∀ k,F k ↔ k = q ∨ v.ownBlock = some k)
 (hu:Upd (fun k => v.ownBlock = some k) w w1) (ho1:w1.ownsRow 0 69 5 v' l'.length (l'.flatMap rc)) (hat:∀ k,v'.ownBlock = some k → v.ownBlock = some k ∨ w.heap.size ≤ k) (hw2:w2 = w1.setCell ⟨q,0,none⟩ v') :
 ∃ F',Wq w2 F' q l' ∧ Mv F F' w w2:=by
 subst hw2
 have hne:v.ownBlock ≠ some q:=own_blk_ne ho hb (by decide)
 have hb1:Blk w1 q 67 #[v]:=hb.upd hu hne
 have hu2:Upd (fun k => k = q) w1 (w1.setCell ⟨q,0,none⟩ v'):=(Upd.refl _ _).set1 _ _
 refine ⟨fun k => k = q ∨ v'.ownBlock = some k,⟨v',by simpa using hb1.put 0 v',own_upd ho1 hu2 fun k hk e => ?_,fun k => Iff.rfl⟩,(hu.mono fun k _ hk => (h3 k).2 (.inr hk)).set (.inl ((h3 q).2 (.inl rfl))) _,fun k hk => ?_⟩
 · subst e
   exact own_blk_ne ho1 hb1 (by decide) hk
 · rcases hk with rfl | hk
   · exact .inl ((h3 _).2 (.inl rfl))
   · exact (hat k hk).imp (fun h => (h3 k).2 (.inr h)) id
end
theorem Wq.parts {w:World} {F:Nat → Prop} {q:Nat} {l:List Rm} (h:Wq w F q l):∃ A c,Blk w q 67 #[.slice A l.length c] ∧ w.ownsRow 0 69 5 (.slice A l.length c) l.length (l.flatMap rc) ∧ (∀ k,F k ↔ k = q ∨ (Value.slice A l.length c).ownBlock = some k) ∧ l.length ≤ c ∧ c ≤ maxLen:=by
 obtain ⟨v,h1,h2,h3⟩:=h
 obtain ⟨A,c,rfl,h4,h5⟩:=own_shape h2
 exact ⟨A,c,h1,h2,h3,h4,h5⟩
theorem rf_info:(Tryz.prog.info? 69).map (fun i => (i.zero,i.size,i.bytes)) = some (some (.agg #[.string ⟨#[]⟩,.string ⟨#[]⟩,.int .i64 0,.int .i64 0,.int .i64 0]),5,56):=by kernel_rfl
set_option maxHeartbeats 400000 in
theorem rkey_ (s:ByteArray) (w:World):Calls Tryz.prog 136 #[.string s] w fun e w' => e = .returned (.bool (keyB s)) ∧ w = w':=by
 have HK:Hid (keyB s = decide (1 ≤ s.size ∧ s.size ≤ 40)):=hid rfl
 by_cases h0:1 ≤ s.size
 · have h0':(1:Int) ≤ (s.size:Int):=by omega
   by_cases h1:s.size ≤ 40
   · have HE:Hid (keyB s = true):=hid (by rw [HK.out,decide_eq_true (by omega)])
     have h1':(s.size:Int) ≤ 40:=by omega
     clear HK
     go_enter Tryz.func136,Tryz.ntmps136
     go_wp2
     go_ret
     exact ⟨congrArg (fun z => Ending.returned (.bool z)) HE.out.symm,rfl⟩
   · have HE:Hid (keyB s = false):=hid (by rw [HK.out,decide_eq_false (by omega)])
     have h1':¬ (s.size:Int) ≤ 40:=by omega
     clear HK
     go_enter Tryz.func136,Tryz.ntmps136
     go_wp2
     go_ret
     exact ⟨congrArg (fun z => Ending.returned (.bool z)) HE.out.symm,rfl⟩
 · have HE:Hid (keyB s = false):=hid (by rw [HK.out,decide_eq_false (by omega)])
   have h0':¬ (1:Int) ≤ (s.size:Int):=by omega
   clear HK
   go_enter Tryz.func136,Tryz.ntmps136
   go_wp2
   go_ret
   exact ⟨congrArg (fun z => Ending.returned (.bool z)) HE.out.symm,rfl⟩
set_option maxHeartbeats 1000000 in
theorem rwrong_ (r:Rm) (w:World):Calls Tryz.prog 62 #[rv r] w fun e w' => e = .returned (.int .i64 (wrongR r)) ∧ Upd No w w':=by
 have HW:Hid (wrongR r = if keyB r.actor = false ∨ 40 < r.name.size then 1 else if r.due < 0 ∨ r.per < 1 then 3 else 0):=hid rfl
 have HK:=hid fun W => rkey_ r.actor W
 obtain ⟨ac,an,ad,ap,ak⟩:=r
 unfold rv
 simp only at HW HK ⊢
 have HU:Hid (Upd No w (w.alloc (.cells #[.string ac,.string an,.int .i64 ad,.int .i64 ap,.int .i64 ak] 69))):=hid ((Upd.refl _ _).alloc _)
 rcases hk:keyB ac with _ | _
 · have HE:Hid (wrongR ⟨ac,an,ad,ap,ak⟩ = 1):=hid (by rw [HW.out,if_pos (.inl hk)])
   rw [hk] at HK
   clear HW hk
   go_enter Tryz.func62,Tryz.ntmps62
   go_wp2_with (fail)
   refine (HK.out _).mono ?_
   rintro e w1 ⟨rfl,rfl⟩
   go_wp2
   go_ret
   exact ⟨congrArg (fun z => Ending.returned (.int .i64 z)) HE.out.symm,HU.out⟩
 · by_cases hn:40 < an.size
   · have HE:Hid (wrongR ⟨ac,an,ad,ap,ak⟩ = 1):=hid (by rw [HW.out,if_pos (.inr hn)])
     have hn':(40:Int) < (an.size:Int):=by omega
     rw [hk] at HK
     clear HW hk
     go_enter Tryz.func62,Tryz.ntmps62
     go_wp2_with (fail)
     refine (HK.out _).mono ?_
     rintro e w1 ⟨rfl,rfl⟩
     go_wp2
     go_ret
     exact ⟨congrArg (fun z => Ending.returned (.int .i64 z)) HE.out.symm,HU.out⟩
   · have hn':¬ (40:Int) < (an.size:Int):=by omega
     have hno:¬ (keyB ac = false ∨ 40 < an.size):=by rw [hk]; simp; omega
     rw [if_neg hno] at HW
     rw [hk] at HK
     clear hk hno
     by_cases hd:ad < 0
     · have HE:Hid (wrongR ⟨ac,an,ad,ap,ak⟩ = 3):=hid (by rw [HW.out,if_pos (.inl hd)])
       clear HW
       go_enter Tryz.func62,Tryz.ntmps62
       go_wp2_with (fail)
       refine (HK.out _).mono ?_
       rintro e w1 ⟨rfl,rfl⟩
       go_wp2
       go_ret
       exact ⟨congrArg (fun z => Ending.returned (.int .i64 z)) HE.out.symm,HU.out⟩
     · by_cases hp:ap < 1
       · have HE:Hid (wrongR ⟨ac,an,ad,ap,ak⟩ = 3):=hid (by rw [HW.out,if_pos (.inr hp)])
         clear HW
         go_enter Tryz.func62,Tryz.ntmps62
         go_wp2_with (fail)
         refine (HK.out _).mono ?_
         rintro e w1 ⟨rfl,rfl⟩
         go_wp2
         go_ret
         exact ⟨congrArg (fun z => Ending.returned (.int .i64 z)) HE.out.symm,HU.out⟩
       · have HE:Hid (wrongR ⟨ac,an,ad,ap,ak⟩ = 0):=hid (by rw [HW.out,if_neg (by omega)])
         clear HW
         go_enter Tryz.func62,Tryz.ntmps62
         go_wp2_with (fail)
         refine (HK.out _).mono ?_
         rintro e w1 ⟨rfl,rfl⟩
         go_wp2
         go_ret
         exact ⟨congrArg (fun z => Ending.returned (.int .i64 z)) HE.out.symm,HU.out⟩
set_option maxHeartbeats 1000000 in
theorem rless_ (a b:Rm) (w:World):Calls Tryz.prog 137 #[rv a,rv b] w fun e w' => e = .returned (.bool (less a b)) ∧ Upd No w w':=by
 have HL:Hid (less a b = if a.due ≠ b.due then decide (a.due < b.due) else if be a.actor b.actor = false then bl a.actor b.actor else bl a.name b.name):=hid rfl
 obtain ⟨ac,an,ad,ap,ak⟩:=a
 obtain ⟨bc,bn,bd,bp,bk⟩:=b
 unfold rv
 simp only at HL ⊢
 have HU:Hid (Upd No w ((w.alloc (.cells #[.string ac,.string an,.int .i64 ad,.int .i64 ap,.int .i64 ak] 69)).alloc (.cells #[.string bc,.string bn,.int .i64 bd,.int .i64 bp,.int .i64 bk] 69))):=hid (((Upd.refl _ _).alloc _).alloc _)
 generalize less ⟨ac,an,ad,ap,ak⟩ ⟨bc,bn,bd,bp,bk⟩ = z at *
 by_cases h1:ad = bd
 · rw [if_neg (by simpa using h1)] at HL
   have h1':(ad != bd) = false:=by simp [h1]
   clear h1
   rcases h2:be ac bc with _ | _
   · rw [if_pos h2] at HL
     have h2':(ac.toList != bc.toList) = true:=by unfold be at h2; simp [bne,h2]
     have h2'':(ac.toList == bc.toList) = false:=h2
     unfold bl at HL
     clear h2
     go_enter Tryz.func137,Tryz.ntmps137
     go_wp2
     go_ret
     exact ⟨congrArg (fun z => Ending.returned (.bool z)) HL.out.symm,HU.out⟩
   · rw [if_neg (by rw [h2]; simp)] at HL
     have h2':(ac.toList != bc.toList) = false:=by unfold be at h2; simp [bne,h2]
     have h2'':(ac.toList == bc.toList) = true:=h2
     unfold bl at HL
     clear h2
     go_enter Tryz.func137,Tryz.ntmps137
     go_wp2
     go_ret
     exact ⟨congrArg (fun z => Ending.returned (.bool z)) HL.out.symm,HU.out⟩
 · rw [if_pos h1] at HL
   have h1':(ad != bd) = true:=by simp [h1]
   clear h1
   go_enter Tryz.func137,Tryz.ntmps137
   go_wp2
   go_ret
   exact ⟨congrArg (fun z => Ending.returned (.bool z)) HL.out.symm,HU.out⟩
set_option maxHeartbeats 1000000 in
theorem rhas_ (q:Nat) (F:Nat → Prop) (l:List Rm) (a n:ByteArray) (w:World) (h:Wq w F q l) (hl:l.length ≤ 1000) :
 Calls Tryz.prog 63 #[.pointer (some ⟨q,0,none⟩),.string a,.string n] w fun e w' => e = .returned (.bool (has a n l)) ∧ Upd No w w':=by
 have HH:Hid ((∀ i (hi:i < l.length),ke a n l[i] = false) → has a n l = false):=hid fun h => by
  unfold has
  rw [List.any_eq_false]
  intro x hx
  obtain ⟨i,hi,rfl⟩:=List.mem_iff_getElem.1 hx
  simpa using h i hi
 have HT:Hid (∀ i (hi:i < l.length),ke a n l[i] = true → has a n l = true):=hid fun i hi h => List.any_eq_true.2 ⟨_,List.getElem_mem hi,h⟩
 have HQ:=hid h
 obtain ⟨A,c,hc,_,_,_⟩:=h.cell
 generalize has a n l = z at *
 clear h
 go_enter Tryz.func63,Tryz.ntmps63
 go_wp2_with (fail)
 go_loopw [13] (fun v13 W => ∃ j:Nat,j ≤ l.length ∧ v13 = .int .i64 j ∧ Hid (∀ i (hi:i < l.length),i < j → ke a n l[i] = false) ∧ Hid (Upd No w W)) (fun v13 _ => l.length - (intOf v13).toNat)
 case atStart => exact ⟨0,by omega,rfl,hid (fun i hi h0 => by omega),hid (Upd.refl _ _)⟩
 case round =>
  obtain ⟨j,hj,rfl,HJ,HU⟩:=hrel
  by_cases hlt:j < l.length
  · have hj2:(j:Int) < (l.length:Int):=by omega
    have hj1:(0:Int) ≤ (j:Int):=by omega
    obtain ⟨A2,c2,hc2,hrd,_,_⟩:=(HQ.out.quiet HU.out).cell
    obtain ⟨ad,rfl,hat⟩:=rm_at hrd hlt
    have HKe:Hid (ke a n l[j] = (be l[j].actor a && be l[j].name n)):=hid rfl
    have HT2:=hid (HT.out j hlt)
    have HN:Hid (ke a n l[j] = false → ∀ i (hi:i < l.length),i < j + 1 → ke a n l[i] = false):=hid fun h i hi h1 => by
     rcases Nat.lt_or_ge i j with h2 | h2
     · exact HJ.out i hi h2
     · obtain rfl:i = j:=by omega
       exact h
    generalize l[j] = x at *
    obtain ⟨x0,x1,x2,x3,x4⟩:=hat
    clear hrd hc
    rcases hb:be x.actor a with _ | _
    · rw [hb,Bool.false_and] at HKe
      have hb':(x.actor.toList == a.toList) = false:=hb
      clear hb
      go_wp2
      go_roundw
      case rel => exact ⟨j + 1,by omega,by go_num,hid (HN.out HKe.out),HU⟩
      case measure => simp [intOf]; omega
    · have hb':(x.actor.toList == a.toList) = true:=hb
      rw [hb,Bool.true_and] at HKe
      rcases hb2:be x.name n with _ | _
      · have hb2':(x.name.toList == n.toList) = false:=hb2
        rw [hb2] at HKe
        clear hb hb2
        go_wp2
        go_roundw
        case rel => exact ⟨j + 1,by omega,by go_num,hid (HN.out HKe.out),HU⟩
        case measure => simp [intOf]; omega
      · have hb2':(x.name.toList == n.toList) = true:=hb2
        rw [hb2] at HKe
        clear hb hb2
        go_wp2
        go_ret
        exact ⟨congrArg (fun z => Ending.returned (.bool z)) (HT2.out HKe.out).symm,HU.out⟩
  · obtain rfl:j = l.length:=by omega
    go_wp2
    go_ret
    exact ⟨congrArg (fun z => Ending.returned (.bool z)) (HH.out fun i hi => HJ.out i hi hi).symm,HU.out⟩
end Go.Proofs.YtclfmpieapbfnaaGreatDoor.Nd
end
section
namespace Go.Proofs.YtclfmpieapbfnaaGreatDoor.Nd
open Go.RowKit B Go.Proofs.YtclfmpieapbfnaaGreatDoor.Op
theorem rc_ones (r:Rm):∀ u ∈ rc r,u.oneCell' = true:=fun u hu => rc_one r u (by simpa using hu)
theorem del_take_same {l:List Rm} {a n:ByteArray} {j:Nat} (hj:j < l.length) (h:ke a n l[j] = true):del a n (l.take (j + 1)) = del a n (l.take j):=by
 unfold del
 rw [List.take_succ_eq_append_getElem hj,List.filter_append,List.filter_cons_of_neg (by simp [h])]
 simp
theorem del_take_more {l:List Rm} {a n:ByteArray} {j:Nat} (hj:j < l.length) (h:ke a n l[j] = false):del a n (l.take (j + 1)) = del a n (l.take j) ++ [l[j]]:=by
 unfold del
 rw [List.take_succ_eq_append_getElem hj,List.filter_append,List.filter_cons_of_pos (by simp [h])]
 simp
theorem split_at {l:List Rm} {r:Rm} {k:Nat} (hk:k ≤ l.length) (h1:∀ i (hi:i < l.length),i < k → less l[i] r = true) (h2:∀ hi:k < l.length,less l[k] r = false):ins l r = l.take k ++ r :: l.drop k:=by
 have hh:l.takeWhile (fun x => less x r) = l.take k ∧ l.dropWhile (fun x => less x r) = l.drop k:=by
  induction l generalizing k with
  | nil => simp
  | cons a t ih =>
   cases k with
   | zero =>
    have:=h2 (by simp)
    simp only [List.getElem_cons_zero] at this
    rw [List.takeWhile_cons,List.dropWhile_cons,this]
    simp
   | succ k =>
    have h0:=h1 0 (by simp) (by omega)
    simp only [List.getElem_cons_zero] at h0
    obtain ⟨e1,e2⟩:=ih (k:=k) (by simpa using hk) (fun i hi hik => h1 (i + 1) (by simpa using hi) (by omega)) (fun hi => h2 (by simpa using hi))
    rw [List.takeWhile_cons,List.dropWhile_cons,h0,e1,e2]
    simp
 unfold ins
 rw [hh.1,hh.2]
theorem At.all {W:World} {ad:Addr} {r:Rm} (h:At W ad r):W.cell? ad = some (.string r.actor) ∧ W.cell? ⟨ad.block,ad.off + 1,none⟩ = some (.string r.name) ∧ W.cell? ⟨ad.block,ad.off + 2,none⟩ = some (.int .i64 r.due) ∧ W.cell? ⟨ad.block,ad.off + 3,none⟩ = some (.int .i64 r.per) ∧ W.cell? ⟨ad.block,ad.off + 4,none⟩ = some (.int .i64 r.kind):=⟨h.c0,h.c1,h.c2,h.c3,h.c4⟩
set_option maxHeartbeats 2000000 in
set_option maxRecDepth 100000 in
theorem rcancel_ (q:Nat) (F:Nat → Prop) (l:List Rm) (a n:ByteArray) (w:World) (h:Wq w F q l) (hl:l.length ≤ 1000) :
 Calls Tryz.prog 64 #[.pointer (some ⟨q,0,none⟩),.string a,.string n] w fun e w' => e = .returned (.bool (has a n l)) ∧ ∃ F',Wq w' F' q (del a n l) ∧ Mv F F' w w':=by
 have HH:=hid (rhas_ q F l a n w h hl)
 have HQ:=hid h
 generalize has a n l = z at *
 clear h
 go_enter Tryz.func64,Tryz.ntmps64
 go_wp2_with (fail)
 refine HH.out.mono ?_
 rintro e w1 ⟨rfl,hu1⟩
 have HU1:=hid hu1
 obtain ⟨A,c,hc,_,_,_⟩:=(HQ.out.quiet hu1).cell
 clear hu1 HH
 go_wp2_with (fail)
 clear hc
 go_loopw [8,19] (fun v8 v19 W => ∃ (j m:Nat) (A':Option Addr) (k':Nat),j ≤ l.length ∧ m ≤ j ∧ v19 = .int .i64 j ∧ v8 = .slice A' m k' ∧ Hid (m = (del a n (l.take j)).length) ∧ Hid (W.ownsRow w.heap.size 69 5 (.slice A' m k') m ((del a n (l.take j)).flatMap rc)) ∧ Hid (Upd No w W)) (fun _ v19 _ => l.length - (intOf v19).toNat)
 case atStart => exact ⟨0,0,none,0,by omega,by omega,rfl,rfl,hid rfl,hid (World.ownsRow_nil _ _ _ _),HU1⟩
 case round =>
  clear HU1
  obtain ⟨j,m,A',k',hj,hm,rfl,rfl,HM,HO,HU⟩:=hrel
  by_cases hlt:j < l.length
  · have hj2:(j:Int) < (l.length:Int):=by omega
    have hj1:(0:Int) ≤ (j:Int):=by omega
    obtain ⟨A2,c2,hc2,hrd,_,_⟩:=(HQ.out.quiet HU.out).cell
    obtain ⟨ad,rfl,hat⟩:=rm_at hrd hlt
    have HKe:Hid (ke a n l[j] = (be l[j].actor a && be l[j].name n)):=hid rfl
    have HS:=hid (del_take_same (a:=a) (n:=n) hlt)
    have HMo:=hid (del_take_more (a:=a) (n:=n) hlt)
    have hus:=HU.out.size
    generalize l[j] = x at *
    obtain ⟨xa,xn,xd,xp,xk⟩:=x
    obtain ⟨x0,x1,x2,x3,x4⟩:=hat
    simp only at x0 x1 x2 x3 x4 HKe
    clear hrd
    have HAp:=hid (own_upd HO.out ((Upd.refl No wr).alloc (.cells (rc ⟨xa,xn,xd,xp,xk⟩).toArray 69)) fun _ _ => no_ _)
    rcases hb:be xa a with _ | _
    · rw [hb,Bool.false_and] at HKe
      have hb':(xa.toList == a.toList) = false:=hb
      clear hb
      go_wp2_with (at_builtin; go_must (refine ap_row w.heap.size rfl (.tmp 44) (.tmp 52) 64 69 (.agg #[.string ⟨#[]⟩,.string ⟨#[]⟩,.int .i64 0,.int .i64 0,.int .i64 0]) 5 56 rfl Tryz.underlying64 rf_info rfl (by omega) (.slice A' m k') m ((del a n (l.take j)).flatMap rc) (some ⟨wr.heap.size,0,none⟩) 1 1 (rc ⟨xa,xn,xd,xp,xk⟩) rfl rfl HAp.out (Rd_lit wr _ 5 1 (rc ⟨xa,xn,xd,xp,xk⟩) rfl) (rc_ones _) (by omega) (by omega) (by simp; omega) ?_); intro A3 c3 w3 ho3 hg3 hat3)
      have HO2:Hid (w3.ownsRow w.heap.size 69 5 (.slice A3 (m + 1) c3) (m + 1) ((del a n (l.take (j + 1))).flatMap rc)):=hid (by rw [HMo.out HKe.out,List.flatMap_append]; simpa using ho3)
      have HU2:Hid (Upd No w w3):=hid ((HU.out.alloc _).grown hg3 fun kk hk => .inr (HO.out.lt kk hk).1)
      have HM2:Hid (m + 1 = (del a n (l.take (j + 1))).length):=hid (by rw [HMo.out HKe.out,List.length_append,← HM.out]; rfl)
      clear ho3 hg3 hat3 x0 x1 x2 x3 x4
      go_wp2
      go_roundw
      case rel => exact ⟨j + 1,m + 1,A3,c3,by omega,by omega,by go_num,rfl,HM2,HO2,HU2⟩
      case measure => simp [intOf]; omega
    · have hb':(xa.toList == a.toList) = true:=hb
      rw [hb,Bool.true_and] at HKe
      rcases hb2:be xn n with _ | _
      · have hb2':(xn.toList == n.toList) = false:=hb2
        rw [hb2] at HKe
        clear hb hb2
        go_wp2_with (at_builtin; go_must (refine ap_row w.heap.size rfl (.tmp 44) (.tmp 52) 64 69 (.agg #[.string ⟨#[]⟩,.string ⟨#[]⟩,.int .i64 0,.int .i64 0,.int .i64 0]) 5 56 rfl Tryz.underlying64 rf_info rfl (by omega) (.slice A' m k') m ((del a n (l.take j)).flatMap rc) (some ⟨wr.heap.size,0,none⟩) 1 1 (rc ⟨xa,xn,xd,xp,xk⟩) rfl rfl HAp.out (Rd_lit wr _ 5 1 (rc ⟨xa,xn,xd,xp,xk⟩) rfl) (rc_ones _) (by omega) (by omega) (by simp; omega) ?_); intro A3 c3 w3 ho3 hg3 hat3)
        have HO2:Hid (w3.ownsRow w.heap.size 69 5 (.slice A3 (m + 1) c3) (m + 1) ((del a n (l.take (j + 1))).flatMap rc)):=hid (by rw [HMo.out HKe.out,List.flatMap_append]; simpa using ho3)
        have HU2:Hid (Upd No w w3):=hid ((HU.out.alloc _).grown hg3 fun kk hk => .inr (HO.out.lt kk hk).1)
        have HM2:Hid (m + 1 = (del a n (l.take (j + 1))).length):=hid (by rw [HMo.out HKe.out,List.length_append,← HM.out]; rfl)
        clear ho3 hg3 hat3 x0 x1 x2 x3 x4
        go_wp2
        go_roundw
        case rel => exact ⟨j + 1,m + 1,A3,c3,by omega,by omega,by go_num,rfl,HM2,HO2,HU2⟩
        case measure => simp [intOf]; omega
      · have hb2':(xn.toList == n.toList) = true:=hb2
        rw [hb2] at HKe
        have HM2:Hid (m = (del a n (l.take (j + 1))).length):=hid (by rw [HS.out HKe.out]; exact HM.out)
        have HO2:Hid (wr.ownsRow w.heap.size 69 5 (.slice A' m k') m ((del a n (l.take (j + 1))).flatMap rc)):=hid (by rw [HS.out HKe.out]; exact HO.out)
        clear hb hb2
        go_wp2
        go_roundw
        case rel => exact ⟨j + 1,m,A',k',by omega,by omega,by go_num,rfl,HM2,HO2,HU⟩
        case measure => simp [intOf]; omega
  · obtain rfl:j = l.length:=by omega
    have hM:=HM.out
    have hO:=HO.out
    rw [List.take_length] at hM hO
    obtain ⟨A2,c2,hb,ho,hF,_,_⟩:=HQ.out.parts
    have hb1:=hb.upd HU.out (no_ _)
    have hc0:=hb1.cell 0
    simp at hc0
    have hf0:=hb1.free 0
    have HE:Hid (∃ F',Wq (wr.setCell ⟨q,0,none⟩ (.slice A' m k')) F' q (del a n l) ∧ Mv F F' w (wr.setCell ⟨q,0,none⟩ (.slice A' m k'))):=hid (Wq.stored hb ho hF (HU.out.mono fun _ _ h => h.elim) (by rw [← hM]; exact own_base hO (Nat.zero_le _)) (fun k hk => .inr (hO.lt k hk).1) rfl)
    clear hM hO hb ho hF hb1
    go_wp2
    go_ret
    exact ⟨rfl,HE.out⟩
set_option maxHeartbeats 4000000 in
set_option maxRecDepth 100000 in
theorem rlay_ (q:Nat) (F:Nat → Prop) (l:List Rm) (r:Rm) (w:World) (h:Wq w F q l) (hl:l.length ≤ 1000) :
 Calls Tryz.prog 65 #[.pointer (some ⟨q,0,none⟩),rv r] w fun e w' => e = .returned (.tuple #[]) ∧ ∃ F',Wq w' F' q (ins l r) ∧ Mv F F' w w':=by
 obtain ⟨A,c,hb,ho,hF,hlc,hcm⟩:=h.parts
 have HRd:=hid (Rd.of_own ho)
 have HSt:=hid (And.intro hb (And.intro ho hF))
 have HIn:=hid fun (k:Nat) (hk:k ≤ l.length) (h1:∀ i (hi:i < l.length),i < k → less l[i] r = true) (h2:∀ hi:k < l.length,less l[k] r = false) => split_at hk h1 h2
 have HLs:=hid fun (x:Rm) (W:World) => rless_ x r W
 have HW1:Hid (∃ w1 p,w1 = w.alloc (.cells (rc r).toArray 69) ∧ p = w.heap.size ∧ Blk w1 p 69 (rc r).toArray ∧ Upd No w w1):=hid ⟨_,_,rfl,rfl,Blk.fresh _ _ _,(Upd.refl _ _).alloc _⟩
 have HQb:=hid fun (W:World) (hu:Upd No w W) => hb.upd hu (no_ _)
 obtain ⟨L,hL⟩:∃ L,L = ins l r:=⟨_,rfl⟩
 have HLl:=hid (show L.length = l.length + 1 by rw [hL,ins_length])
 have HL:=hid hL
 rw [← hL]
 clear h hb ho hF hL
 obtain ⟨ac,an,ad,ap,ak⟩:=r
 unfold rv at HLs ⊢
 simp only [rc] at HW1
 simp only at HLs ⊢
 have hrc:Hid (rc ⟨ac,an,ad,ap,ak⟩ = [.string ac,.string an,.int .i64 ad,.int .i64 ap,.int .i64 ak]):=hid rfl
 go_enter Tryz.func65,Tryz.ntmps65
 go_wp2_with (fail)
 obtain ⟨w1,p,hw1,hp,hb1,hu1⟩:=HW1.out
 rw [← hw1]
 try rw [← hp]
 have HL1:Hid (∀ W,Upd No w1 W → (W.cell? ⟨q,0,none⟩ = some (.slice A l.length c)) ∧ (W.cell? ⟨p,0,none⟩ = some (.string ac) ∧ W.cell? ⟨p,1,none⟩ = some (.string an) ∧ W.cell? ⟨p,2,none⟩ = some (.int .i64 ad) ∧ W.cell? ⟨p,3,none⟩ = some (.int .i64 ap) ∧ W.cell? ⟨p,4,none⟩ = some (.int .i64 ak))):=hid fun W hu => by
  have e0:=(HQb.out W (hu1.next hu)).cell 0
  simp at e0
  exact ⟨e0,box5 (hb1.upd hu (no_ _))⟩
 have HRd1:=hid fun (W:World) (hu:Upd No w1 W) => Rd.upd HRd.out (by omega) (hu1.next hu) fun _ _ => no_ _
 have HU1:=hid hu1
 clear hw1 hp hb1 hu1 HW1 HRd
 go_loopw [4] (fun v4 W => ∃ (j:Nat),j ≤ l.length ∧ v4 = .int .i64 j ∧ Hid (∀ i (hi:i < l.length),i < j → less l[i] ⟨ac,an,ad,ap,ak⟩ = true) ∧ Hid (Upd No w1 W)) (fun v4 _ => l.length - (intOf v4).toNat)
 case atStart => exact ⟨0,by omega,rfl,hid (fun i hi h0 => by omega),hid (Upd.refl _ _)⟩
 case round =>
  obtain ⟨j,hj,rfl,HJ,HU⟩:=hrel
  have hj1:(0:Int) ≤ (j:Int):=by omega
  by_cases hlt:j < l.length
  case' pos =>
   have hj2:(j:Int) < (l.length:Int):=by omega
   obtain ⟨d,hA,hat⟩:=rm_at (HRd1.out wr HU.out) hlt
   subst hA
   have HAt:Hid (∀ W,Upd No w1 W → At W (d.add (j * 5)) l[j]):=hid fun W hu => by
    obtain ⟨d',e,h⟩:=rm_at (HRd1.out W hu) hlt
    injection e with e
    subst e
    exact h
   clear hat
   have HN:=hid fun (h:less l[j] ⟨ac,an,ad,ap,ak⟩ = true) (i:Nat) (hi:i < l.length) (h1:i < j + 1) => show less l[i] ⟨ac,an,ad,ap,ak⟩ = true by
    rcases Nat.lt_or_ge i j with h2 | h2
    · exact HJ.out i hi h2
    · obtain rfl:i = j:=by omega
      exact h
   have HX:Hid (less l[j] ⟨ac,an,ad,ap,ak⟩ = false → ins l ⟨ac,an,ad,ap,ak⟩ = l.take j ++ ⟨ac,an,ad,ap,ak⟩ :: l.drop j):=hid fun h => HIn.out j hj HJ.out fun _ => h
   generalize l[j] = x at *
   obtain ⟨xa,xn,xd,xp,xk⟩:=x
   have HLx:=hid fun W => HLs.out ⟨xa,xn,xd,xp,xk⟩ W
   simp only at HLx
   generalize hz:less ⟨xa,xn,xd,xp,xk⟩ ⟨ac,an,ad,ap,ak⟩ = z at HLx
   have HZ:=hid hz
   clear hz
   go_wp2_with (fail)
   refine wp_region_held_drew (S:=fun W => Upd No w1 W) (by kernel_rfl) HU.out.drew (fun hS => ?_)
   refine zt 0 hS ?_
   refine zt 1 hS ?_
   refine zt 2 hS ?_
   refine zt 3 hS ?_
   refine zh 4 hS (fun w hw => (HL1.out w hw).1) ?_
   refine zt 5 hS ?_
   refine zt 6 hS ?_
   refine zt 7 hS ?_
   refine zt 8 hS ?_
   refine zt 9 hS ?_
   refine zt 10 hS ?_
   refine zh 11 hS (fun w hw => (HL1.out w hw).1) ?_
   refine zt 12 hS ?_
   refine zt 13 hS ?_
   refine zh 14 hS (fun w hw => (HAt.out w hw).all) ?_
   refine zh 15 hS (fun w hw => (HL1.out w hw).2) ?_
   refine zk 16 (fun K hK => ?_)
   go_simp
   refine Calls.mono (HLx.out _) ?_
   rintro e wx ⟨rfl,hu2⟩
   go_wp2_with (fail)
   refine hK.out _ _ ((hS.next hu2)) (fun hS => ?_)
   clear hK K
   try simp only [Act.put,zA,zB,zC]
   refine zt 17 hS ?_
   refine wpAnyH_done (by kernel_rfl) ?_ _
   have HX2:=hid hS
   clear hS
   cases z
   case true =>
    go_wp2
    go_roundw
    case rel => exact ⟨j + 1,by omega,by go_num,hid (HN.out HZ.out),HX2⟩
    case measure => simp [intOf]; omega
   have HI2:Hid (L = l.take j ++ ⟨ac,an,ad,ap,ak⟩ :: l.drop j):=hid (by rw [HL.out]; exact HX.out HZ.out)
   clear HAt
   generalize some d = A at *
  case' neg =>
   have hj2:¬ (j:Int) < (l.length:Int):=by omega
   have HI2:Hid (L = l.take j ++ ⟨ac,an,ad,ap,ak⟩ :: l.drop j):=hid (by rw [HL.out]; exact HIn.out j hj HJ.out fun h => absurd h hlt)
   go_wp2_with (fail)
   refine wp_region_held_drew (S:=fun W => Upd No w1 W) (by kernel_rfl) HU.out.drew (fun hS => ?_)
   refine zt 0 hS ?_
   refine zt 1 hS ?_
   refine zt 2 hS ?_
   refine zt 3 hS ?_
   refine zh 4 hS (fun w hw => (HL1.out w hw).1) ?_
   refine zt 5 hS ?_
   refine zt 6 hS ?_
   refine zt 7 hS ?_
   refine zn 8 hS ?_
   refine zn 9 hS ?_
   refine zn 10 hS ?_
   refine zn 11 hS ?_
   refine zn 12 hS ?_
   refine zn 13 hS ?_
   refine zn 14 hS ?_
   refine zn 15 hS ?_
   refine zn 16 hS ?_
   refine zt 17 hS ?_
   refine wpAnyH_done (by kernel_rfl) ?_ _
   generalize wr.drew = wx at *
   have HX2:=hid hS
   clear hS
  all_goals
   have c0:=(HL1.out wx HX2.out).1
   have hcut1:=cut_hi (P:=Tryz.prog) 64 69 5 Tryz.underlying64 (by kernel_rfl) A l.length c j (by omega)
   obtain ⟨M,hM⟩:∃ M,M = l.length - j:=⟨_,rfl⟩
   obtain ⟨C,hC⟩:∃ C,C = c - j:=⟨_,rfl⟩
   obtain ⟨A2,hA2,hcut2⟩:=cut_lo (P:=Tryz.prog) 64 69 5 Tryz.underlying64 (by kernel_rfl) A l.length c j M C hj hM hC
   have HM:=hid hM
   have HR2:Hid (∀ W,Upd No w1 W → Rd W 5 A2 M ((l.flatMap rc).drop (j * 5))):=hid fun W hu => by
    rw [hA2,hM]
    exact Rd.drop (HRd1.out W hu) hj hlc
   have HR1:=hid (Rd.take (HRd1.out wx HX2.out) hj)
   have hM1:M ≤ 1000:=by omega
   have hs1:=HX2.out.size
   have ho1:=fun u (hu:u ∈ (l.flatMap rc).take (j * 5)) => flat_one l u (List.mem_of_mem_take hu)
   have ho2:=fun u (hu:u ∈ (l.flatMap rc).drop (j * 5)) => flat_one l u (List.mem_of_mem_drop hu)
   clear hM hC hA2
   go_wp2_with (at_builtin; first | (refine ap_row w1.heap.size rfl (.tmp 26) (.tmp 32) 64 69 (.agg #[.string ⟨#[]⟩,.string ⟨#[]⟩,.int .i64 0,.int .i64 0,.int .i64 0]) 5 56 rfl Tryz.underlying64 rf_info rfl (by omega) (.slice none 0 0) 0 [] A j c ((l.flatMap rc).take (j * 5)) rfl rfl (World.ownsRow_nil _ _ _ _) HR1.out ho1 (by omega) (by omega) (by omega) ?_; intro A3 c3 w3 ho3 hg3 hat3; rw [Nat.zero_add,List.nil_append] at ho3; rw [Nat.zero_add]; have hu3:=HX2.out.grown hg3 (fun kk hk => by simp [Value.ownBlock] at hk); obtain ⟨_,y0,y1,y2,y3,y4⟩:=HL1.out w3 hu3) | (have hs3:=hu3.size; refine ap_row w1.heap.size rfl (.tmp 34) (.tmp 36) 64 69 (.agg #[.string ⟨#[]⟩,.string ⟨#[]⟩,.int .i64 0,.int .i64 0,.int .i64 0]) 5 56 rfl Tryz.underlying64 rf_info rfl (by omega) (.slice A3 j c3) j ((l.flatMap rc).take (j * 5)) (some ⟨w3.heap.size,0,none⟩) 1 1 (rc ⟨ac,an,ad,ap,ak⟩) rfl rfl (own_upd ho3 ((Upd.refl No w3).alloc _) fun _ _ => no_ _) (Rd_lit w3 _ 5 1 (rc ⟨ac,an,ad,ap,ak⟩) rfl) (rc_ones _) (by omega) (by omega) (by simp; omega) ?_; intro A4 c4 w4 ho4 hg4 hat4; have hu4:=(hu3.alloc _).grown hg4 (fun kk hk => .inr (ho3.lt kk hk).1); obtain ⟨z0,_⟩:=HL1.out w4 hu4) | (have hs4:=hu4.size; refine ap_row w1.heap.size rfl (.tmp 39) (.tmp 45) 64 69 (.agg #[.string ⟨#[]⟩,.string ⟨#[]⟩,.int .i64 0,.int .i64 0,.int .i64 0]) 5 56 rfl Tryz.underlying64 rf_info rfl (by omega) (.slice A4 (j + 1) c4) (j + 1) ((l.flatMap rc).take (j * 5) ++ rc ⟨ac,an,ad,ap,ak⟩) A2 M C ((l.flatMap rc).drop (j * 5)) rfl rfl ho4 (HR2.out w4 hu4) ho2 (by omega) (by omega) (by omega) ?_; intro A5 c5 w5 ho5 hg5 hat5; have hu5:=hu4.grown hg5 (fun kk hk => .inr (ho4.lt kk hk).1); have z1:=(HL1.out w5 hu5).1; have f1:=(HQb.out w5 (HU1.out.next hu5)).free 0))
   have HE:Hid (∃ F',Wq (w5.setCell ⟨q,0,none⟩ (.slice A5 (j + 1 + M) c5)) F' q L ∧ Mv F F' w (w5.setCell ⟨q,0,none⟩ (.slice A5 (j + 1 + M) c5))):=hid (by
    obtain ⟨hb,ho,hF⟩:=HSt.out
    have hU:=HU1.out.next hu5
    have hsz:=HU1.out.size
    have e1:L.length = j + 1 + M:=by rw [HLl.out,HM.out]; omega
    have e2:L.flatMap rc = (l.flatMap rc).take (j * 5) ++ rc ⟨ac,an,ad,ap,ak⟩ ++ (l.flatMap rc).drop (j * 5):=by rw [HI2.out,List.flatMap_append,List.flatMap_cons,flat_take,flat_drop,List.append_assoc]
    exact Wq.stored hb ho hF (hU.mono fun _ _ h => h.elim) (by rw [e1,e2]; exact own_base ho5 (Nat.zero_le _)) (fun k hk => .inr (Nat.le_trans hsz (ho5.lt k hk).1)) rfl)
   clear ho3 ho4 ho5 hg3 hg4 hg5 hat3 hat4 hat5 ho1 ho2
   go_wp2
   go_end0
   exact ⟨rfl,HE.out⟩
end Go.Proofs.YtclfmpieapbfnaaGreatDoor.Nd
end
section
namespace Go.Proofs.YtclfmpieapbfnaaGreatDoor.Nd
open Go.RowKit B Go.Proofs.YtclfmpieapbfnaaGreatDoor.Op
set_option maxHeartbeats 4000000 in
set_option maxRecDepth 100000 in
theorem rset_ (q:Nat) (F:Nat → Prop) (l:List Rm) (r:Rm) (w:World) (h:Wq w F q l) (hl:l.length ≤ 900) :
 Calls Tryz.prog 16 #[.pointer (some ⟨q,0,none⟩),rv r] w fun e w' => e = .returned (.int .i64 (setR l r).1) ∧ ∃ F',Wq w' F' q (setR l r).2 ∧ Mv F F' w w':=by
 have HSt:Hid (setR l r = if wrongR r ≠ 0 then (wrongR r,l) else if has r.actor r.name l = false ∧ 64 ≤ l.length then (6,l) else (0,ins (del r.actor r.name l) r)):=hid rfl
 have HQ:=hid h
 have HWr:=hid fun W => rwrong_ r W
 have HHs:=hid fun (W:World) (hq:Wq W F q l) => rhas_ q F l r.actor r.name W hq (by omega)
 have HCa:=hid fun (W:World) (hq:Wq W F q l) => rcancel_ q F l r.actor r.name W hq (by omega)
 have HLy:=hid fun (W:World) (G:Nat → Prop) (hq:Wq W G q (del r.actor r.name l)) => rlay_ q G (del r.actor r.name l) r W hq (by have:=del_le l r.actor r.name; omega)
 have HW1:Hid (∃ w1 p,w1 = w.alloc (.cells (rc r).toArray 69) ∧ p = w.heap.size ∧ Blk w1 p 69 (rc r).toArray ∧ Upd No w w1):=hid ⟨_,_,rfl,rfl,Blk.fresh _ _ _,(Upd.refl _ _).alloc _⟩
 clear h
 obtain ⟨ac,an,ad,ap,ak⟩:=r
 unfold rv at HWr HLy ⊢
 simp only [rc] at HW1
 simp only at HWr HHs HCa HLy HSt ⊢
 generalize hwr:wrongR ⟨ac,an,ad,ap,ak⟩ = wr at *
 clear hwr
 go_enter Tryz.func16,Tryz.ntmps16
 go_wp2_with (fail)
 obtain ⟨w1,p,hw1,hp,hb1,hu1⟩:=HW1.out
 rw [← hw1]
 try rw [← hp]
 obtain ⟨v0,v1,v2,v3,v4⟩:=box5 hb1
 have HB1:=hid hb1
 have HU1:=hid hu1
 have HP:Hid (∀ k,F k → k ≠ p):=hid fun k hk e => by have:=HQ.out.lt k hk; omega
 clear hw1 hp hb1 hu1 HW1
 try go_wp2_with (fail)
 refine (HWr.out _).mono ?_
 rintro e w2 ⟨rfl,hu2⟩
 have HU2:=hid (HU1.out.next hu2)
 have HB2:=hid (HB1.out.upd hu2 (no_ _))
 obtain ⟨x0,x1,x2,x3,x4⟩:=box5 HB2.out
 clear hu2 HWr HB1 v0 v1 v2 v3 v4
 by_cases hw:wr = 0
 case' neg =>
  rw [if_pos hw] at HSt
  have hw':(wr == 0) = false:=by simpa using hw
  have HE:Hid (∃ F',Wq w2 F' q l ∧ Mv F F' w w2):=hid ⟨F,HQ.out.quiet HU2.out,Mv.quiet (HU2.out.old (Nat.le_refl _))⟩
  clear hw
  go_wp2
  go_ret
  rw [HSt.out]
  exact ⟨rfl,HE.out⟩
 rw [if_neg (by simpa using hw)] at HSt
 subst hw
 have HHi:=hid (HHs.out w2 (HQ.out.quiet HU2.out))
 clear HHs
 generalize hz:has ac an l = z at *
 go_wp2_with (fail)
 refine HHi.out.mono ?_
 rintro e w3 ⟨rfl,hu3⟩
 have HU3:=hid (HU2.out.next hu3)
 have HB3:=hid (HB2.out.upd hu3 (no_ _))
 have hq3:=HQ.out.quiet HU3.out
 obtain ⟨y0,y1,y2,y3,y4⟩:=box5 HB3.out
 obtain ⟨A,c,hc,_,hlc,_⟩:=hq3.cell
 clear hu3 HHi HB2 x0 x1 x2 x3 x4
 have HCb:=hid (HCa.out w3 hq3)
 clear HCa
 by_cases hf:z = false ∧ 64 ≤ l.length
 · rw [if_pos hf] at HSt
   obtain ⟨rfl,hf⟩:=hf
   have hf':(64:Int) ≤ (l.length:Int):=by omega
   have HE:Hid (∃ F',Wq w3 F' q l ∧ Mv F F' w w3):=hid ⟨F,hq3,Mv.quiet (HU3.out.old (Nat.le_refl _))⟩
   clear hf hq3
   go_wp2
   go_ret
   rw [HSt.out]
   exact ⟨rfl,HE.out⟩
 · rw [if_neg hf] at HSt
   clear hq3
   cases z
   case' false => have hf':¬ (64:Int) ≤ (l.length:Int):=by have:¬ 64 ≤ l.length:=fun h => hf ⟨rfl,h⟩; omega
   all_goals
    clear hf
    go_wp2_with (fail)
    refine HCb.out.mono ?_
    rintro e w4 ⟨rfl,F4,hq4,hm4⟩
    have hb4:=HB3.out.upd hm4.upd fun hk => HP.out p hk rfl
    have HL:=hid (HLy.out w4 F4 hq4)
    have HM4:=hid (Mv.box HU3.out hm4)
    obtain ⟨z0,z1,z2,z3,z4⟩:=box5 hb4
    clear hq4 hm4 HCb HLy hb4
    go_wp2_with (fail)
    refine HL.out.mono ?_
    rintro e w6 ⟨rfl,F6,hq6,hm6⟩
    have HE:Hid (∃ F',Wq w6 F' q (ins (del ac an l) ⟨ac,an,ad,ap,ak⟩) ∧ Mv F F' w w6):=hid ⟨F6,hq6,Mv.trans HM4.out hm6⟩
    clear hq6 hm6 HL
    go_wp2
    go_ret
    rw [HSt.out]
    exact ⟨rfl,HE.out⟩
set_option maxHeartbeats 1000000 in
theorem rdue_none (v:Value) (now:Int) (w:World) (hv:∃ q F,v = .pointer (some ⟨q,0,none⟩) ∧ Wq w F q []) :
 Calls Tryz.prog 18 #[v,.int .i64 now] w fun e w' => e = .returned (tell none) ∧ Upd No w w':=by
 have hu1:Upd No w (w.alloc (.cells #[.string ⟨#[]⟩,.string ⟨#[]⟩,.int .i64 0,.int .i64 0,.int .i64 0] 69)):=(Upd.refl _ _).alloc _
 have hb1:=Blk.fresh w 69 #[.string ⟨#[]⟩,.string ⟨#[]⟩,.int .i64 0,.int .i64 0,.int .i64 0]
 obtain ⟨z0,z1,z2,z3,z4⟩:=box5 hb1
 have g0:=hb1.free 0
 have g1:=hb1.free 1
 have g2:=hb1.free 2
 have g3:=hb1.free 3
 have g4:=hb1.free 4
 have HU:=hid hu1
 obtain ⟨q,F,rfl,hq⟩:=hv
 · obtain ⟨A,c,hc,_,_,_⟩:=(hq.quiet hu1).cell
   clear hb1 hu1 hq
   go_enter Tryz.func18,Tryz.ntmps18
   go_wp2
   exact bodyPost_ret (v:=tell none) (by simp [results,go_sem,z0,z1,z2,z3,z4,tell,rv,zr]) rfl ⟨rfl,HU.out⟩
set_option maxHeartbeats 1000000 in
theorem rdue_some (q:Nat) (F:Nat → Prop) (r:Rm) (t:List Rm) (now:Int) (w:World) (h:Wq w F q (r :: t)) (hl:t.length ≤ 1000) :
 Calls Tryz.prog 18 #[.pointer (some ⟨q,0,none⟩),.int .i64 now] w fun e w' => e = .returned (tell (dueR (r :: t) now)) ∧ Upd No w w':=by
 have hu1:Upd No w (w.alloc (.cells #[.string ⟨#[]⟩,.string ⟨#[]⟩,.int .i64 0,.int .i64 0,.int .i64 0] 69)):=(Upd.refl _ _).alloc _
 have hb1:=Blk.fresh w 69 #[.string ⟨#[]⟩,.string ⟨#[]⟩,.int .i64 0,.int .i64 0,.int .i64 0]
 obtain ⟨z0,z1,z2,z3,z4⟩:=box5 hb1
 have g0:=hb1.free 0
 have g1:=hb1.free 1
 have g2:=hb1.free 2
 have g3:=hb1.free 3
 have g4:=hb1.free 4
 have HU:=hid hu1
 have HB2:=hid (Blk.fresh w 69 #[.string r.actor,.string r.name,.int .i64 r.due,.int .i64 r.per,.int .i64 r.kind])
 have HU2:Hid (Upd No w (w.alloc (.cells #[.string r.actor,.string r.name,.int .i64 r.due,.int .i64 r.per,.int .i64 r.kind] 69))):=hid ((Upd.refl _ _).alloc _)
 obtain ⟨A,c,hc,hrd,hlc,hcm⟩:=(h.quiet hu1).cell
 obtain ⟨ad,rfl,hat⟩:=rm_at hrd (i:=0) (by simp)
 rw [Nat.zero_mul,add_none] at hat
 have hat0:At (w.alloc (.cells #[.string ⟨#[]⟩,.string ⟨#[]⟩,.int .i64 0,.int .i64 0,.int .i64 0] 69)) ad r:=hat
 obtain ⟨x0,x1,x2,x3,x4⟩:=hat0
 have HD:Hid (dueR (r :: t) now = if now < r.due then none else some r):=hid rfl
 obtain ⟨N,hN⟩:∃ N,N = (r :: t).length:=⟨_,rfl⟩
 rw [← hN] at hc
 have hN1:(0:Int) < (N:Int):=by rw [hN,List.length_cons]; omega
 have hN2:((N:Int) == 0) = false:=by rw [beq_eq_false_iff_ne]; omega
 clear hb1 hu1 h hrd hat hlc hN
 obtain ⟨ac,an,du,ap,ak⟩:=r
 simp only at x0 x1 x2 x3 x4 HB2 HU2 HD ⊢
 by_cases hnd:now < du
 · rw [if_pos hnd] at HD
   rw [HD.out]
   go_enter Tryz.func18,Tryz.ntmps18
   go_wp2
   exact bodyPost_ret (v:=tell none) (by simp [results,go_sem,z0,z1,z2,z3,z4,tell,rv,zr]) rfl ⟨rfl,HU.out⟩
 · rw [if_neg hnd] at HD
   rw [HD.out]
   go_enter Tryz.func18,Tryz.ntmps18
   go_wp2
   obtain ⟨q0,q1,q2,q3,q4⟩:=box5 HB2.out
   exact bodyPost_ret (v:=tell (some ⟨ac,an,du,ap,ak⟩)) (by simp [results,go_sem,q0,q1,q2,q3,q4,tell,rv]) rfl ⟨rfl,HU2.out⟩
theorem rdue_ (q:Nat) (F:Nat → Prop) (l:List Rm) (now:Int) (w:World) (h:Wq w F q l) (hl:l.length ≤ 1000) :
 Calls Tryz.prog 18 #[.pointer (some ⟨q,0,none⟩),.int .i64 now] w fun e w' => e = .returned (tell (dueR l now)) ∧ Upd No w w':=by
 cases l with
 | nil => exact rdue_none _ now w ⟨q,F,rfl,h⟩
 | cons r t => exact rdue_some q F r t now w h (by simp at hl; omega)
set_option maxHeartbeats 2000000 in
set_option maxRecDepth 100000 in
theorem rserve_none (q:Nat) (F:Nat → Prop) (l:List Rm) (now:Int) (w:World) (h:Wq w F q l) (hl:l.length ≤ 1000) (hd:dueR l now = none) :
 Calls Tryz.prog 22 #[.pointer (some ⟨q,0,none⟩),.int .i64 now] w fun e w' => e = .returned (tell none) ∧ Upd No w w':=by
 have hu1:Upd No w (w.alloc (.cells #[.string ⟨#[]⟩,.string ⟨#[]⟩,.int .i64 0,.int .i64 0,.int .i64 0] 69)):=(Upd.refl _ _).alloc _
 have hb1:=Blk.fresh w 69 #[.string ⟨#[]⟩,.string ⟨#[]⟩,.int .i64 0,.int .i64 0,.int .i64 0]
 have hdu:=rdue_ q F l now _ (h.quiet hu1) hl
 rw [hd] at hdu
 simp only [tell,rv,zr,Option.getD_none,Option.isSome_none] at hdu
 have HD:=hid hdu
 have HU1:=hid hu1
 have HB1:=hid hb1
 clear hdu hu1 hb1 h
 go_enter Tryz.func22,Tryz.ntmps22
 go_wp2_with (fail)
 refine HD.out.mono ?_
 rintro e w2 ⟨rfl,hu2⟩
 have HU3:Hid (Upd No w (w2.alloc (.cells #[.string ⟨#[]⟩,.string ⟨#[]⟩,.int .i64 0,.int .i64 0,.int .i64 0] 69))):=hid ((HU1.out.next hu2).alloc _)
 have hb3:Blk (w2.alloc (.cells #[.string ⟨#[]⟩,.string ⟨#[]⟩,.int .i64 0,.int .i64 0,.int .i64 0] 69)) w.heap.size 69 #[.string ⟨#[]⟩,.string ⟨#[]⟩,.int .i64 0,.int .i64 0,.int .i64 0]:=(HB1.out.upd hu2 (no_ _)).alloc _
 obtain ⟨y0,y1,y2,y3,y4⟩:=box5 hb3
 have g0:=hb3.free 0
 have g1:=hb3.free 1
 have g2:=hb3.free 2
 have g3:=hb3.free 3
 have g4:=hb3.free 4
 have HB5:=hid (put5_blk hb3 zr)
 have HU5:=hid (put5_new HU3.out (Nat.le_refl _) zr)
 clear hu2 hb3
 go_wp2
 simp only [put5,zr] at HB5 HU5
 obtain ⟨q0,q1,q2,q3,q4⟩:=box5 HB5.out
 exact bodyPost_ret (v:=tell none) (by simp [results,go_sem,q0,q1,q2,q3,q4,tell,rv,zr]) rfl ⟨rfl,HU5.out⟩
def RServeOut (q:Nat) (F:Nat → Prop) (o:Option Rm × List Rm) (w:World) (e:Ending) (w':World):Prop:=e = .returned (tell o.1) ∧ ∃ F',Wq w' F' q o.2 ∧ Mv F F' w w'
theorem RServeOut.of {q:Nat} {F:Nat → Prop} {o:Option Rm × List Rm} {w:World} {e:Ending} {w':World} (h:e = .returned (tell o.1) ∧ ∃ F',Wq w' F' q o.2 ∧ Mv F F' w w'):RServeOut q F o w e w':=h
set_option maxHeartbeats 2000000 in
set_option maxRecDepth 100000 in
theorem rserve_some (q:Nat) (F:Nat → Prop) (r:Rm) (t:List Rm) (now:Int) (w:World) (h:Wq w F q (r :: t)) (hi:Inv (r :: t)) (hd:dueR (r :: t) now = some r) :
 Calls Tryz.prog 22 #[.pointer (some ⟨q,0,none⟩),.int .i64 now] w fun e w' => RServeOut q F (some r,nextR (r :: t) r) w e w':=by
 have hu1:Upd No w (w.alloc (.cells #[.string ⟨#[]⟩,.string ⟨#[]⟩,.int .i64 0,.int .i64 0,.int .i64 0] 69)):=(Upd.refl _ _).alloc _
 have hb1:=Blk.fresh w 69 #[.string ⟨#[]⟩,.string ⟨#[]⟩,.int .i64 0,.int .i64 0,.int .i64 0]
 have hlen:=hi.len
 have hdu:=rdue_ q F (r :: t) now _ (h.quiet hu1) (by omega)
 rw [hd] at hdu
 simp only [tell,rv,Option.getD_some,Option.isSome_some] at hdu
 have HD:=hid hdu
 have HU1:=hid hu1
 have HB1:=hid hb1
 have HQ:=hid h
 have hor:=(hi.ok r List.mem_cons_self)
 obtain ⟨hr1,hr2,_,_,_⟩:=hor.r
 have hr3:=hor.d.2
 have hr4:=hor.p.2
 have HCa:=hid fun (W:World) (hq:Wq W F q (r :: t)) => rcancel_ q F (r :: t) r.actor r.name W hq (by omega)
 have HN:Hid (nextR (r :: t) r = if r.due + r.per ≤ 9223372036854775807 then ins (del r.actor r.name (r :: t)) { r with due:=r.due + r.per } else del r.actor r.name (r :: t)):=hid rfl
 have HLy:=hid fun (W:World) (G:Nat → Prop) (x:Rm) (hq:Wq W G q (del r.actor r.name (r :: t))) => rlay_ q G (del r.actor r.name (r :: t)) x W hq (by have:=del_le (r :: t) r.actor r.name; omega)
 generalize del r.actor r.name (r :: t) = dl at *
 generalize has r.actor r.name (r :: t) = hz at *
 clear hdu hu1 hb1 h hi hd hor hlen
 obtain ⟨ac,an,du,ap,ak⟩:=r
 unfold rv at HLy
 simp only at HD hr1 hr2 hr3 hr4 HN HCa ⊢
 go_enter Tryz.func22,Tryz.ntmps22
 go_wp2_with (fail)
 refine HD.out.mono ?_
 rintro e w2 ⟨rfl,hu2⟩
 obtain ⟨w3,hw3⟩:∃ w3,w3 = w2.alloc (.cells #[.string ac,.string an,.int .i64 du,.int .i64 ap,.int .i64 ak] 69):=⟨_,rfl⟩
 have hu3:Upd No w w3:=by rw [hw3]; exact (HU1.out.next hu2).alloc _
 have hb3:Blk w3 w.heap.size 69 #[.string ⟨#[]⟩,.string ⟨#[]⟩,.int .i64 0,.int .i64 0,.int .i64 0]:=by rw [hw3]; exact (HB1.out.upd hu2 (no_ _)).alloc _
 obtain ⟨p4,hp4⟩:∃ p4,p4 = w.heap.size:=⟨_,rfl⟩
 obtain ⟨p6,hp6⟩:∃ p6,p6 = w2.heap.size:=⟨_,rfl⟩
 have hc3:Blk w3 p6 69 #[.string ac,.string an,.int .i64 du,.int .i64 ap,.int .i64 ak]:=by rw [hw3,hp6]; exact Blk.fresh _ _ _
 rw [← hp4] at hb3 ⊢
 have hq3:=HQ.out.quiet hu3
 have hs2:=(HU1.out.next hu2).size
 have HP:Hid (∀ k,F k → k ≠ p4 ∧ k ≠ p6):=hid fun k hk => by have:=HQ.out.lt k hk; omega
 have HP2:Hid (w.heap.size ≤ p4 ∧ w.heap.size ≤ p6 ∧ p4 ≠ p6):=hid ⟨by omega,by omega,fun e => by
  have:=HU1.out.next hu2
  have h1:=(HB1.out.upd hu2 (no_ _)).lt
  omega⟩
 have HC4:=hid (HCa.out w3 hq3)
 have HU3:=hid hu3
 have HB3:=hid hb3
 have HC3:=hid hc3
 clear hu3 hb3 hc3 hq3 hs2 hu2 HB1 HD HCa
 go_wp2_with (fail)
 try rw [← hw3]
 try rw [← hp4]
 try rw [← hp6]
 clear hw3 hp4 hp6
 refine HC4.out.mono ?_
 rintro e w5 ⟨rfl,F5,hq5,hm5⟩
 have hb5:=HB3.out.upd hm5.upd fun hk => (HP.out p4 hk).1 rfl
 have hc5:=HC3.out.upd hm5.upd fun hk => (HP.out p6 hk).2 rfl
 have HP5:Hid (∀ k,F5 k → k ≠ p4 ∧ k ≠ p6):=hid fun k hk => by
  rcases hm5.sub k hk with h | h
  · exact HP.out k h
  · have h1:=HB3.out.lt
    have h2:=HC3.out.lt
    omega
 have HM5:=hid (Mv.box HU3.out hm5)
 have HQ5:=hid hq5
 have HB5:=hid hb5
 have HC5:=hid hc5
 obtain ⟨x0,x1,x2,x3,x4⟩:=box5 hc5
 have y0:=hb5.free 0
 have y1:=hb5.free 1
 have y2:=hb5.free 2
 have y3:=hb5.free 3
 have y4:=hb5.free 4
 obtain ⟨t0,t1,t2,t3,t4⟩:=box5 hb5
 clear hq5 hm5 hb5 hc5 HC4 HB3 HC3 HP
 -- behind the last store
 have HFin:Hid (∀ (W:World) (G:Nat → Prop) (l':List Rm),Wq W G q l' → Mv F G w W → Blk W p4 69 #[.string ⟨#[]⟩,.string ⟨#[]⟩,.int .i64 0,.int .i64 0,.int .i64 0] → (∀ k,G k → k ≠ p4) →
  Blk (put5 W p4 ⟨ac,an,du,ap,ak⟩) p4 69 #[.string ac,.string an,.int .i64 du,.int .i64 ap,.int .i64 ak] ∧ ∃ F',Wq (put5 W p4 ⟨ac,an,du,ap,ak⟩) F' q l' ∧ Mv F F' w (put5 W p4 ⟨ac,an,du,ap,ak⟩)):=hid fun W G l' hq hm hb hk => by
  have hu:=put5_upd W p4 ⟨ac,an,du,ap,ak⟩
  refine ⟨put5_blk hb ⟨ac,an,du,ap,ak⟩,G,hq.upd hu fun k h e => hk k h e,hm.upd.trans hu fun i hi e => ?_,hm.sub⟩
  have:=HP2.out.1
  omega
 have hk1:IntKind.u64.wrap du = du:=IntWalk.u64_in _ (by omega)
 have hk2:IntKind.u64.wrap ap = ap:=IntWalk.u64_in _ (by omega)
 have hk3:IntKind.u64.wrap (du + ap) = du + ap:=IntWalk.u64_in _ (by omega)
 by_cases hov:du + ap ≤ 9223372036854775807
 · rw [if_pos hov] at HN
   have hlt:du + ap < 9223372036854775808:=by omega
   have hk4:IntKind.i64.wrap (du + ap) = du + ap:=IntWalk.i64_in _ (by omega)
   have HL:=hid (HLy.out w5 F5 ⟨ac,an,du + ap,ap,ak⟩ HQ5.out)
   go_wp2_with (fail)
   refine HL.out.mono ?_
   rintro e w6 ⟨rfl,F6,hq6,hm6⟩
   have hb6:=HB5.out.upd hm6.upd fun hk => (HP5.out p4 hk).1 rfl
   have hc6:=HC5.out.upd hm6.upd fun hk => (HP5.out p6 hk).2 rfl
   obtain ⟨HB7,HE⟩:=HFin.out w6 F6 _ hq6 (Mv.trans HM5.out hm6) hb6 (fun k hk => by
    rcases hm6.sub k hk with h | h
    · exact (HP5.out k h).1
    · have:=HB5.out.lt
      omega)
   have HE2:=hid HE
   have HB8:=hid HB7
   obtain ⟨s0,s1,s2,s3,s4⟩:=box5 hb6
   obtain ⟨r0,r1,r2,r3,r4⟩:=box5 hc6
   have f0:=hb6.free 0
   have f1:=hb6.free 1
   have f2:=hb6.free 2
   have f3:=hb6.free 3
   have f4:=hb6.free 4
   clear hq6 hm6 hb6 hc6 HE HB7 HL HLy x0 x1 x2 x3 x4 y0 y1 y2 y3 y4 t0 t1 t2 t3 t4
   go_wp2
   simp only [put5] at HB8 HE2
   obtain ⟨q0,q1,q2,q3,q4⟩:=box5 HB8.out
   exact bodyPost_ret (v:=tell (some ⟨ac,an,du,ap,ak⟩)) (by simp [results,go_sem,q0,q1,q2,q3,q4,tell,rv]) rfl (.of ⟨rfl,by rw [HN.out]; exact HE2.out⟩)
 · rw [if_neg hov] at HN
   have hlt:¬ du + ap < 9223372036854775808:=by omega
   obtain ⟨HB7,HE⟩:=HFin.out w5 F5 dl HQ5.out HM5.out HB5.out (fun k hk => (HP5.out k hk).1)
   have HE2:=hid HE
   have HB8:=hid HB7
   clear hov HE HB7 HLy
   go_wp2
   simp only [put5] at HB8 HE2
   obtain ⟨q0,q1,q2,q3,q4⟩:=box5 HB8.out
   exact bodyPost_ret (v:=tell (some ⟨ac,an,du,ap,ak⟩)) (by simp [results,go_sem,q0,q1,q2,q3,q4,tell,rv]) rfl (.of ⟨rfl,by rw [HN.out]; exact HE2.out⟩)
theorem rserve_ (q:Nat) (F:Nat → Prop) (l:List Rm) (now:Int) (w:World) (h:Wq w F q l) (hi:Inv l) :
 Calls Tryz.prog 22 #[.pointer (some ⟨q,0,none⟩),.int .i64 now] w fun e w' => RServeOut q F (serveR l now) w e w':=by
 cases hd:dueR l now with
 | none =>
  have e:serveR l now = (none,l):=by unfold serveR; rw [hd]
  rw [e]
  refine (rserve_none q F l now w h (by have:=hi.len; omega) hd).mono ?_
  rintro e w' ⟨rfl,hu⟩
  exact .of ⟨rfl,F,h.quiet hu,Mv.quiet (hu.old (Nat.le_refl _))⟩
 | some r =>
  have e:serveR l now = (some r,nextR l r):=by unfold serveR; rw [hd]
  rw [e]
  obtain ⟨t,rfl,_⟩:=due_mem hd
  exact rserve_some q F r t now w h hi hd
end Go.Proofs.YtclfmpieapbfnaaGreatDoor.Nd
end
section
namespace Go.Proofs.YtclfmpieapbfnaaGreatDoor.Nd
open Go.RowKit B Go.Proofs.YtclfmpieapbfnaaGreatDoor.Op
theorem has_false {l:List Rm} {a n:ByteArray} (h:has a n l = false) {x:Rm} (hx:x ∈ l):ke a n x = false:=by
 have:=List.any_eq_false.1 h x hx
 simpa using this
section
variable {w W W':World} {F F' G G':Nat → Prop} {q p:Nat} {l l' m m':List Rm}
end
end Go.Proofs.YtclfmpieapbfnaaGreatDoor.Nd
end
