/-
  Part 45 of the proof of the statement that the last part ends in: lemmas, no conditions of their own.
-/
import Derived.Test.YtclfmpieapbfnaaGreatDoorZ44
set_option linter.unusedVariables false
set_option linter.unusedSimpArgs false
section
namespace Go.Proofs.YtclfmpieapbfnaaGreatDoor.Eg
open Go.RowKit B Cm Cr Ou
open Ac (Am fresh fresh_ok encA encA_le encA_byte freshB)
open Bo (Bp Bm Cg bst La Vb Cl ccells bare encL sizeC)
open Nd (Rm Inv rv setR)
def AcOut (w:World) (F:Nat → Prop) (p:Nat) (m:Em) (k:ByteArray) (e:Ending) (w':World):Prop:=∃ q G F',e = .returned (.tuple #[.pointer (some ⟨q,0,none⟩),.int .i64 0]) ∧ Ac.At w' G q (m.act k) ∧ (∀ k,G k → ¬ F' k ∧ w.heap.size ≤ k) ∧ En w' F' p (m.loaded k) ∧ Mv F F' w w'
theorem AcOut.of {w:World} {F:Nat → Prop} {p:Nat} {m:Em} {k:ByteArray} {e:Ending} {w':World} (h:∃ q G F',e = .returned (.tuple #[.pointer (some ⟨q,0,none⟩),.int .i64 0]) ∧ Ac.At w' G q (m.act k) ∧ (∀ k,G k → ¬ F' k ∧ w.heap.size ≤ k) ∧ En w' F' p (m.loaded k) ∧ Mv F F' w w'):AcOut w F p m k e w':=h
set_option maxHeartbeats 2000000 in
set_option maxRecDepth 100000 in
theorem actor_ {w:World} {F:Nat → Prop} {p:Nat} {m:Em} (h:En w F p m) (htd:m.tidy) {k:ByteArray} (hk:Kk k) (hn:m.n < 400000) :
 Calls Tryz.prog 12 #[.pointer (some ⟨p,0,none⟩),.string k] w fun e w' => AcOut w F p m k e w':=by
 have HK:=hid (fun W => Nd.key_ k W)
 have hkb:=kk_key hk
 have HL:=hid (load_ h htd hk hn)
 have HO:=hid (h.ok.act hk)
 clear h htd
 go_enter Tryz.func12,Tryz.ntmps12
 rw [hkb] at HK
 go_wp2_with (fail)
 refine Calls.mono (HK.out _) ?_
 rintro e w1 ⟨rfl,rfl⟩
 go_wp2_with (fail)
 refine Calls.mono HL.out ?_
 rintro e w1 ⟨q,G,F1,rfl,hat,hen,hm⟩
 have HC:=hid (Ac.copied hat HO.out (by unfold BB; omega))
 have HX:=hid (And.intro hen hm)
 clear hat hen hm HL
 go_wp2_with (fail)
 refine Calls.mono HC.out ?_
 rintro e w2 ⟨q2,G2,rfl,hat2,hf2,hu2⟩
 have HY:=hid (And.intro hat2 (And.intro hf2 hu2))
 clear hat2 hf2 hu2 HC
 go_wp2
 go_ret2
 obtain ⟨hat2,hf2,hu2⟩:=HY.out
 obtain ⟨hen,hm⟩:=HX.out
 have s1:=hm.upd.size
 exact .of ⟨q2,G2,F1,rfl,hat2,fun g hg => ⟨fun hf => by have:=hf2 g hg; have:=hen.lt g hf; omega,Nat.le_trans s1 (hf2 g hg)⟩,hen.quiet hu2,⟨hm.upd.trans hu2 fun _ _ h => h.elim,hm.sub⟩⟩
set_option maxHeartbeats 1000000 in
set_option maxRecDepth 100000 in
theorem all_ {w:World} {F:Nat → Prop} {p:Nat} {m:Em} (h:En w F p m) :
 Calls Tryz.prog 21 #[.pointer (some ⟨p,0,none⟩)] w fun e w' => Nd.NewR w m.q e w':=by
 obtain ⟨e,hs⟩:=h.ex
 obtain ⟨G,hb,_⟩:=Star.own hs 0 rfl
 obtain ⟨⟨_,_,_,c3,_⟩,_⟩:=ecells hb.1
 obtain ⟨Q,hq,_⟩:=Star.own hs 4 rfl
 have HQ:=hid (Nd.all_ _ _ _ _ hq (by have:=h.ok.inv.len; omega))
 clear hs hb hq h
 go_enter Tryz.func21,Tryz.ntmps21
 go_wp2_with (fail)
 refine Calls.mono HQ.out ?_
 rintro e w1 ⟨A,c,rfl,h1,h2⟩
 have HX:=hid (And.intro h1 h2)
 clear h1 h2 HQ
 go_wp2
 go_ret
 exact .of ⟨A,c,rfl,HX.out⟩
def chQ (l:List Rm):List Y:=[(kr,Nd.encQ l,false)]
theorem chs_q (q:Nat) (l:List Rm):chs [] (some (q,l)) none = chQ l:=rfl
def Em.queued (m:Em) (l:List Rm):Em:=m.commit [] (some (0,l)) none
def RdOut (w:World) (F:Nat → Prop) (p:Nat) (m:Em) (r:Rm) (e:Ending) (w':World):Prop:=
 e = .returned (.int .i64 (setR m.q r).1) ∧ ∃ F',En w' F' p (if (setR m.q r).1 = 0 then m.queued (setR m.q r).2 else m) ∧ Mv F F' w w'
theorem setR_code (l:List Rm) (r:Rm):(setR l r).1 ≠ 9 ∧ ((setR l r).1 ≠ 0 → (setR l r).2 = l):=by
 have hw:Nd.wrongR r ≠ 9:=by
  unfold Nd.wrongR
  split
  · decide
  · split <;> decide
 unfold setR
 split
 · exact ⟨hw,fun _ => rfl⟩
 · split
   · exact ⟨show (6:Int) ≠ 9 by decide,fun _ => rfl⟩
   · exact ⟨show (0:Int) ≠ 9 by decide,fun h => absurd rfl h⟩
theorem star1 {w:World} {o:Ob} {G:Nat → Prop} (h:o.is w G):Star [o] w G:=⟨G,No,h,fun _ h => h.elim,fun _ _ h => h,fun _ h => h,fun _ h => h.elim,o.lt h⟩
theorem sizeQ {l:List Rm} (h:Inv l):sizeC (chQ l) ≤ 40000:=by
 have:=encQ_le h
 have e:sizeC (chQ l) = kr.size + (Nd.encQ l).length:=by simp [sizeC,chQ]
 have e2:kr.size = 1:=rfl
 omega
set_option maxHeartbeats 4000000 in
set_option maxRecDepth 100000 in
theorem remind_ {w:World} {F:Nat → Prop} {p:Nat} {m:Em} (h:En w F p m) (htd:m.tidy) (r:Rm) (hr:Nd.I64 r.due ∧ Nd.I64 r.per ∧ Nd.I64 r.kind) (hn:m.n + 200 ≤ 400000)
 (hroom:Gp.nbl (encL (chQ (setR m.q r).2)) ≤ m.bk.lg.count - m.bk.lg.used) :
 Calls Tryz.prog 15 #[.pointer (some ⟨p,0,none⟩),rv r] w fun e w' => RdOut w F p m r e w':=by
 have HH:=hid (And.intro h (And.intro htd (And.intro hn hroom)))
 have hinv:=h.ok.inv.set hr
 have HI:=hid hinv
 obtain ⟨hc9,hcl⟩:=setR_code m.q r
 have HBx:Hid (∃ w0 pr,w0 = w.alloc (.cells #[.string r.actor,.string r.name,.int .i64 r.due,.int .i64 r.per,.int .i64 r.kind] 71) ∧ pr = w.heap.size ∧ Blk w0 pr 71 #[.string r.actor,.string r.name,.int .i64 r.due,.int .i64 r.per,.int .i64 r.kind] ∧ Upd No w w0):=hid ⟨_,_,rfl,rfl,Blk.fresh _ _ _,(Upd.refl _ _).alloc _⟩
 clear h htd hinv hn hroom
 unfold rv
 go_enter Tryz.func15,Tryz.ntmps15
 go_wp2_with (fail)
 obtain ⟨w0,pr,hw0,hpr,hb0,hu0⟩:=HBx.out
 rw [← hw0]
 try rw [← hpr]
 have HB0:=hid (And.intro hb0 hu0)
 have HE0:=hid (HH.out.1.quiet hu0)
 clear hw0 hpr hb0 hu0 HBx
 refine Calls.mono (gone_ HE0.out) ?_
 rintro e w1 ⟨rfl,rfl⟩
 go_wp2_with (fail)
 refine Calls.mono (reminders_ HE0.out) ?_
 rintro e w2 ⟨q,Q,rfl,hq,hfq,hu2⟩
 have HBu:Hid (∃ w3 pu,w3 = w2.alloc (.cells #[.slice none 0 0,.pointer (some ⟨q,0,none⟩),.pointer none,.slice none 0 0] 143) ∧ pu = w2.heap.size ∧ Blk w3 pu 143 #[.slice none 0 0,.pointer (some ⟨q,0,none⟩),.pointer none,.slice none 0 0] ∧ Upd No w2 w3 ∧ ∀ k,Q k → k ≠ pu):=hid ⟨_,_,rfl,rfl,Blk.fresh _ _ _,(Upd.refl _ _).alloc _,fun k hk => by have:=hq.lt k hk; omega⟩
 obtain ⟨w3,pu,hw3,hpu,hb3,hu3,hne3⟩:=HBu.out
 have hr3:Blk w3 pr _ _:=(HB0.out.1.upd hu2 (no_ _)).upd hu3 (no_ _)
 obtain ⟨x0,x1,x2,x3,x4⟩:=Nd.box5 hr3
 have y1:w3.cell? ⟨pu,1,none⟩ = some (.pointer (some ⟨q,0,none⟩)):=by simpa using hb3.cell 1
 have HQ3:=hid (And.intro (hq.quiet hu3) (And.intro hfq (And.intro hb3 hne3)))
 have HU3:=hid (And.intro hu2 hu3)
 have HS:=hid (Nd.set_ q Q m.q r w3 (hq.quiet hu3) HH.out.1.ok.inv)
 rw [hw3] at x0 x1 x2 x3 x4 y1
 rw [hpu] at y1
 clear hq hfq hu2 hb3 hu3 hne3 hr3
 go_wp2_with (fail)
 rw [← hw3]
 rw [← hpu]
 clear hw3 hpu HBu x0 x1 x2 x3 x4 y1
 have HSv:Hid (rv r = .agg #[.string r.actor,.string r.name,.int .i64 r.due,.int .i64 r.per,.int .i64 r.kind]):=hid rfl
 refine Calls.mono HS.out ?_
 rintro e w4 ⟨rfl,Q4,hq4,hm4⟩
 have hb4:=HQ3.out.2.2.1.upd hm4.upd fun hk => HQ3.out.2.2.2 _ hk rfl
 have HQ4:=hid (And.intro hq4 (And.intro hm4 hb4))
 have HR:Hid (∀ w',(∃ F',En w' F' p (if (setR m.q r).1 = 0 then m.queued (setR m.q r).2 else m) ∧ Mv F F' w w') → RdOut w F p m r (.returned (.int .i64 (setR m.q r).1)) w'):=hid fun w' h => ⟨rfl,h⟩
 have HE4:Hid (En w4 F p m ∧ Upd No w w4 ∧ ∀ k,Q4 k → w0.heap.size ≤ k):=hid (by
  have h1:Upd No w0 w3:=HU3.out.1.next HU3.out.2
  have h2:∀ k,Q k → w0.heap.size ≤ k:=HQ3.out.2.1
  have h3:Upd No w0 w4:=h1.trans hm4.upd fun i hi hk => by have:=h2 i hk; omega
  exact ⟨HE0.out.quiet h3,HB0.out.2.next h3,fun k hk => (hm4.sub k hk).elim (h2 k) fun h => Nat.le_trans h1.size h⟩)
 obtain ⟨code,hcode⟩:∃ code,code = (setR m.q r).1:=⟨_,rfl⟩
 obtain ⟨l,hl⟩:∃ l,l = (setR m.q r).2:=⟨_,rfl⟩
 rw [← hcode] at hc9 hcl HR
 rw [← hl] at hcl HR HI HQ4
 rw [← hcode]
 have HL:=hid hl
 clear hq4 hm4 HS HQ3 HU3 hcode hl
 obtain ⟨z0,z1,z2,z3⟩:w4.cell? ⟨pu,0,none⟩ = some (.slice none 0 0) ∧ w4.cell? ⟨pu,1,none⟩ = some (.pointer (some ⟨q,0,none⟩)) ∧ w4.cell? ⟨pu,2,none⟩ = some (.pointer none) ∧ w4.cell? ⟨pu,3,none⟩ = some (.slice none 0 0):=⟨by simpa using hb4.cell 0,by simpa using hb4.cell 1,by simpa using hb4.cell 2,by simpa using hb4.cell 3⟩
 clear hb4
 by_cases h0:code = 0
 · subst h0
   have HC:=hid (commit_ (F:=F) (V:=Q4) (ac:=[]) (qv:=some (q,l)) (wv:=none) (A:=none) (c:=0) ⟨HE4.out.1,HH.out.2.1,star1 (o:=qoO q l) HQ4.out.1,fun k hk hf => by have:=HE4.out.2.2 k hk; have:=HE0.out.lt k hf; omega,Rd.nil_ _ _ _,fun h => absurd h (by simp),⟨by simp,by simp⟩,fun x hx => (by cases hx),by simp,fun x hx => (by cases hx; exact HI.out),fun x hx => (by cases hx),by simp,by simp [chs,qC,wC],by rw [chs_q]; exact sizeQ HI.out,by rw [chs_q,HL.out]; exact HH.out.2.2.2,HH.out.2.2.1,.inr rfl⟩)
   clear hc9 hcl
   go_wp2_with (fail)
   refine Calls.mono HC.out ?_
   rintro e w5 ⟨rfl,F5,hen5,hu5,hs5⟩
   have HX5:=hid (And.intro hen5 (And.intro hu5 hs5))
   clear hen5 hu5 hs5 HC z0 z1 z2 z3
   go_wp2_with (fail)
   refine Calls.mono (end_ok HX5.out.1) ?_
   rintro e w6 ⟨rfl,rfl⟩
   go_wp2
   go_ret
   refine HR.out _ ⟨F5,by first | (rw [if_pos trivial]; exact HX5.out.1) | (rw [if_pos rfl]; exact HX5.out.1),⟨(HE4.out.2.1.mono fun _ _ h => h.elim).next HX5.out.2.1,fun k hk => ?_⟩⟩
   have s0:=HB0.out.2.size
   have s4:=HE4.out.2.1.size
   rcases HX5.out.2.2 k hk with h | h | h
   · exact .inl h
   · have:=HE4.out.2.2 k h
     exact .inr (by omega)
   · exact .inr (by omega)
 · have HEn:=hid (end_ HE4.out.1 code h0 hc9)
   clear hc9 hcl z0 z1 z2 z3
   go_wp2_with (fail)
   refine Calls.mono HEn.out ?_
   rintro e w5 ⟨rfl,F5,hen5,hm5⟩
   have HX5:=hid (And.intro hen5 hm5)
   clear hen5 hm5 HEn
   go_wp2
   go_ret
   exact HR.out _ ⟨F5,by rw [if_neg h0]; exact HX5.out.1,⟨(HE4.out.2.1.mono fun _ _ h => h.elim).next HX5.out.2.upd,fun k hk => (HX5.out.2.sub k hk).imp id fun h => Nat.le_trans HE4.out.2.1.size h⟩⟩
end Go.Proofs.YtclfmpieapbfnaaGreatDoor.Eg
end
section
namespace Go.Proofs.YtclfmpieapbfnaaGreatDoor.Eg
open Go.RowKit B Cm Cr Cw Ou
open Ac (Am fresh fresh_ok encA encA_le encA_byte freshB)
open Bo (Bp Bm Cg bst La Vb Cl ccells bare encL sizeC Gd)
open Nd (Rm Inv rv setR Wo)
def kc:ByteArray:=⟨#[99]⟩
def Em.one (m:Em) (y:Y) (c:Int):Em:={ m with bk:=comB m.bk [y],n:=m.n + 100,clock:=c }
theorem one_ok {m:Em} (h:m.ok) {y:Y} (c:Int) (hb:Byte y.2.1) (hy:∀ k,Kk k → akey k ≠ y.1) (hs:sizeC [y] ≤ 40000) (hroom:Gp.nbl (encL [y]) ≤ m.bk.lg.count - m.bk.lg.used) (hn:m.n + 200 ≤ 400000):(m.one y c).ok:=by
 have hp:=h.pnd
 have hnb:=nbl_small hs (by simp)
 refine ⟨comB_ok h.bok (by simp) (fun z hz => by rw [List.mem_singleton.1 hz]; exact hb) hs (by simp) hroom (by omega) (by omega),by show m.n + 100 ≤ 400000; omega,h.rm,h.tl,fun k hk => ?_,h.own,h.inv,h.zer,⟨?_,?_⟩,h.wok⟩
 · show (Bo.lays m.bk.tab [y] (akey k) = some (encA (m.act k)) ∧ (m.act k).ok BB) ∨ Bo.lays m.bk.tab [y] (akey k) = none ∧ m.act k = fresh k
   rw [lays_out _ _ fun z hz => by rw [List.mem_singleton.1 hz]; exact Ne.symm (hy k hk)]
   exact h.tie k hk
 · show m.bk.pend + 1 ≤ m.n + 100
   omega
 · show (Gl.wrs m.bk.d _ _ _).log.length ≤ 2 * (m.n + 100)
   rw [wrs_len]
   omega
theorem cl_one {w W W1:World} {k:ByteArray} {A:Option Addr} {c:Nat} {l:List Int} {b:Bool} (hv:Vb W (fun k => w.heap.size ≤ k) (.slice A l.length c) l) (hW:W1 = W.alloc (.cells #[.string k,.slice A l.length c,.bool b] 128)) (hs:w.heap.size ≤ W.heap.size) :
 Cl W1 (fun k => w.heap.size ≤ k ∧ k < W1.heap.size) (.slice (some ⟨W.heap.size,0,none⟩) 1 1) [(k,l,b,.slice A l.length c)]:=by
 subst hW
 refine ⟨_,1,rfl,Nat.le_refl _,by simp [maxLen],Rd_lit W 128 3 1 _ rfl,fun _ ad e => ?_,fun x hx => ?_⟩
 · injection e with e
   subst e
   exact ⟨hs,by simp⟩
 · rw [List.mem_singleton.1 hx]
   have:=(hv.quiet ((Upd.refl No W).alloc (.cells #[.string k,.slice A l.length c,.bool b] 128))).tight
   exact this
def chK (c:Int):Y:=(kc,num (zz c),false)
theorem akey_c {k:ByteArray} (h:Kk k):akey k ≠ kc:=fun e => by
 have h1:=akey_size k
 rw [e] at h1
 have h2:=h.1
 have:kc.size = 1:=rfl
 omega
theorem gd_one (l:List Int) (v:Value) (hl:l.length ≤ 20000):Gd [(kc,l,false,v)]:=
 ⟨fun x hx => by rw [List.mem_singleton.1 hx]; exact ⟨show 1 ≤ kc.size by decide,show kc.size ≤ 64 by decide⟩,by simp,fun x hx => by rw [List.mem_singleton.1 hx]; exact hl,by simp⟩
def TkOut (w:World) (F:Nat → Prop) (p:Nat) (m:Em) (c:Int) (e:Ending) (w':World):Prop:=e = .returned (.tuple #[.int .i64 c,.int .i64 0]) ∧ Kept w F p (m.one (chK c) c) w'
theorem TkOut.of {w:World} {F:Nat → Prop} {p:Nat} {m:Em} {c:Int} {e:Ending} {w':World} (h:e = .returned (.tuple #[.int .i64 c,.int .i64 0]) ∧ Kept w F p (m.one (chK c) c) w'):TkOut w F p m c e w':=h
theorem keep0 {W W':World} {F:Nat → Prop} {p:Nat} {e:Ep} {m:Em} (hs:Star (est p e m) W F) (hu:Upd No W W'):W'.cell? ⟨p,0,none⟩ = some (.pointer (some ⟨e.b.q,0,none⟩)):=by
 obtain ⟨B,hb,_⟩:=Star.own (hs.quiet hu) 0 rfl
 exact (ecells hb.1).1.1
theorem sizeK (c:Int):sizeC [chK c] ≤ 40000:=by
 have h:=(num_length (zz c)).2
 have e:sizeC [chK c] = kc.size + (num (zz c)).length:=by simp [sizeC,chK]
 have e2:kc.size = 1:=rfl
 omega
theorem tick_com {w W:World} {F:Nat → Prop} {p:Nat} {e:Ep} {m:Em} {c:Int} {cs:List Int} {g c3:Nat} {A3:Option Addr} (hs:Star (est p e m) w F) (hok:m.ok) (hu:Upd No w W)
 (hc:Cl W (fun k => w.heap.size ≤ k ∧ k < W.heap.size) (.slice (some ⟨g,0,none⟩) 1 1) [(kc,cs,false,.slice A3 cs.length c3)]) (hl:cs.length ≤ 9) (hcs:cs = num (zz c)) (hn:m.n + 200 ≤ 400000) (hroom:Gp.nbl (encL [chK c]) ≤ m.bk.lg.count - m.bk.lg.used) :
 Calls Tryz.prog 42 #[.pointer (some ⟨e.b.q,0,none⟩),.slice (some ⟨g,0,none⟩) 1 1] W fun e' w' => e' = .returned (.int .i64 0) ∧ ∃ F',Star (est p e { m with bk:=comB m.bk [chK c],n:=m.n + 100 }) w' F' ∧ Mv F F' W w':=by
 subst hcs
 have h:=bcommit_ (hs.quiet hu) hok hc (fun k hk => ⟨fun hf => by have:=hs.lt k hf; omega,hk.2⟩) (gd_one _ _ (Nat.le_trans hl (by omega))) (by simp) (sizeK c) hroom (by simp)
 exact h
theorem clock_set {w W:World} {F F9:Nat → Prop} {p:Nat} {e:Ep} {m:Em} {c:Int} {y:Y} (hs:Star (est p e { m with bk:=comB m.bk [y],n:=m.n + 100 }) W F9) (hm:Mv F F9 w W) (hok:(m.one y c).ok):Kept w F p (m.one y c) (W.setCell ⟨p,5,none⟩ (.int .i64 c)):=by
 obtain ⟨B,hb,_,hput⟩:=hs.at_ 0 (o:=Ob.blk p 104 (ecs e { m with bk:=comB m.bk [y],n:=m.n + 100 })) rfl
 obtain ⟨g1,g2⟩:=Ob.blk_put hb 5 (.int .i64 c)
 have e1:(ecs e { m with bk:=comB m.bk [y],n:=m.n + 100 }).setIfInBounds 5 (.int .i64 c) = ecs e (m.one y c):=by simp [ecs,Em.one]
 rw [e1] at g1
 obtain ⟨F2,k1,k2⟩:=hput _ B (Ob.blk p 104 (ecs e (m.one y c))) g2 g1
 exact ⟨F2,⟨⟨e,k1⟩,hok⟩,hm.trans k2⟩
set_option maxHeartbeats 4000000 in
set_option maxRecDepth 100000 in
theorem tick_ {w:World} {F:Nat → Prop} {p:Nat} {m:Em} (h:En w F p m) (by_ c:Int) (hb:0 ≤ by_) (hc:m.clock + by_ = c) (hk:0 ≤ m.clock ∧ c ≤ 1000000000) (hn:m.n + 200 ≤ 400000)
 (hroom:Gp.nbl (encL [chK c]) ≤ m.bk.lg.count - m.bk.lg.used) :
 Calls Tryz.prog 17 #[.pointer (some ⟨p,0,none⟩),.int .i64 by_] w fun e w' => TkOut w F p m c e w':=by
 have HH:=hid (And.intro h (And.intro hn hroom))
 obtain ⟨e,hs⟩:=h.ex
 obtain ⟨B0,hb0,_⟩:=Star.own hs 0 rfl
 obtain ⟨_,c5,_⟩:=ecells hb0.1
 have hb1:¬ by_ < 0:=by omega
 have hc1:¬ c < 0:=by omega
 have hw1:IntKind.i64.wrap (m.clock + by_) = c:=by rw [hc]; exact IntWalk.i64_in _ (by omega)
 have HW1:=hid hw1
 have hnl:=(num_length (zz c)).2
 clear h hs hb0 hn hroom
 go_enter Tryz.func17,Tryz.ntmps17
 go_wp2_with (fail)
 refine Calls.mono (gone_ HH.out.1) ?_
 rintro e1 w1 ⟨rfl,rfl⟩
 go_wp2_with (fail)
 refine Calls.mono (newWriter w) ?_
 rintro e1 w1 ⟨rfl,rfl⟩
 have HW:Hid (∃ w1 q F1,w1 = w.alloc (.cells #[.slice none 0 0] 276) ∧ q = w.heap.size ∧ Wo w w1 F1 q []):=hid ⟨_,_,_,rfl,rfl,⟨Wr.new w,fun k hk => by omega,(Upd.refl _ _).alloc _⟩⟩
 obtain ⟨w1,q,F1,hw1',hq,hO1⟩:=HW.out
 rw [← hw1',← hq]
 have HO1:=hid hO1
 clear hw1' hq hO1 HW
 go_wp2_with (fail)
 refine Calls.mono (int_ q [] c F1 w1 HO1.out.wr (by omega) (by omega) (by simp)) ?_
 rintro e1 w2 ⟨rfl,F2,hwr2,hm2⟩
 rw [List.nil_append] at hwr2
 have HO2:=hid (HO1.out.moved hwr2 hm2)
 obtain ⟨cs,hcs⟩:∃ cs,cs = num (zz c):=⟨_,rfl⟩
 rw [← hcs] at HO2 hnl
 have HCs:=hid hcs
 have HE2:=hid (HH.out.1.quiet (HO2.out.upd.drew))
 obtain ⟨e2,hs2⟩:=HE2.out.ex
 obtain ⟨B2,hb2,_⟩:=Star.own hs2 0 rfl
 have HS0:=hid (ecells hb2.1).1.1
 have HBy:=hid (bytes_ q cs F2 w2.drew (HO2.out.quiet ((Upd.refl _ _).drew)).wr (by omega))
 have HS2:=hid hs2
 clear hwr2 hm2 hcs hs2 hb2 HO1 c5
 go_wp2_with (fail)
 refine wp_region_held_drew (S:=fun W => W.cell? ⟨p,0,none⟩ = some (.pointer (some ⟨e2.b.q,0,none⟩))) (by kernel_rfl) HS0.out (fun hS => ?_)
 refine zt 0 hS ?_
 refine zt 1 hS ?_
 refine zt 2 hS ?_
 refine zh 3 hS (fun w hw => hw) ?_
 refine zt 4 hS ?_
 refine zk 5 (fun K hK => ?_)
 go_simp
 refine Calls.mono HBy.out ?_
 rintro e3 w3 ⟨v3,rfl,ho3,hb3⟩
 obtain ⟨A3,c3,rfl,hc3,hcm3⟩:=own_shape ho3
 have HV3:=hid ((Vb.of_own ho3 (by rw [HCs.out]; exact num_b _ (zz_range c (by omega) (by omega)).1)).mono fun k hk => hk.1)
 have HU3:Hid (Upd No w2.drew w3):=hid (Upd.of_below No hb3)
 clear ho3 hb3
 go_wp2_with (fail)
 refine hK.out _ _ ((by exact keep0 HS2.out HU3.out)) (fun hS => ?_)
 clear hK K
 try simp only [Act.put,zA,zB,zC]
 refine zt 6 hS ?_
 refine zk 7 (fun K hK => ?_)
 go_simp
 refine hK.out _ _ ((by exact keep0 HS2.out (HU3.out.alloc _))) (fun hS => ?_)
 clear hK K
 try simp only [Act.put,zA,zB,zC]
 refine rg_world fun W8 hW8 => ?_
 have hcl:=cl_one HV3.out hW8 HU3.out.size
 have hu8:Upd No w2.drew W8:=by rw [hW8]; exact HU3.out.alloc _
 have HBc:=hid (tick_com HS2.out HH.out.1.ok hu8 hcl hnl HCs.out HH.out.2.1 HH.out.2.2)
 clear hcl hW8
 refine zk 8 (fun K hK => ?_)
 go_simp
 refine Calls.mono HBc.out ?_
 rintro e9 W9 ⟨rfl,F9,hs9,hm9⟩
 have HX9:=hid (And.intro hs9 hm9)
 clear hs9 hm9 HBc
 go_wp2_with (fail)
 refine hK.out _ _ ((by exact keep0 HX9.out.1 (Upd.refl _ _))) (fun hS => ?_)
 clear hK K
 try simp only [Act.put,zA,zB,zC]
 refine zt 9 hS ?_
 refine wpAnyH_done (by kernel_rfl) ?_ _
 have hN:Hid (Mv F F9 w W9):=hid ⟨((HO2.out.upd.drew.next hu8).mono fun _ _ h => h.elim).next HX9.out.2.upd,fun k hk => (HX9.out.2.sub k hk).imp id fun h => by have:=(HO2.out.upd.drew.next hu8).size; omega⟩
 have HFi:=hid (clock_set HX9.out.1 hN.out (one_ok HH.out.1.ok (y:=chK c) c (by rw [show (chK c).2.1 = num (zz c) from rfl]; exact num_b _ (zz_range c (by omega) (by omega)).1) (fun k hk => akey_c hk) (sizeK c) HH.out.2.2 HH.out.2.1))
 obtain ⟨B9,hb9,_⟩:=Star.own HX9.out.1 0 rfl
 have hf9:=hb9.1.free 5
 obtain ⟨_,c59,_⟩:=ecells hb9.1
 clear hS HX9 hN hb9 HBy HV3 HU3 hu8
 go_wp2
 go_ret2
 exact .of ⟨rfl,HFi.out⟩
end Go.Proofs.YtclfmpieapbfnaaGreatDoor.Eg
end
