/- Part 47: lemmas, no conditions. -/
import Derived.Test.YtclfmpieapbfnaaGreatDoorZ45
import Derived.Test.YtclfmpieapbfnaaGreatDoorZ17
import Derived.Deep.LoopGhost
import Derived.Test.YtclfmpieapbfnaaGreatDoorZ41
import Derived.Test.YtclfmpieapbfnaaGreatDoorZ43
import Derived.Test.YtclfmpieapbfnaaGreatDoorZ12
set_option maxHeartbeats 8000000
namespace Go.Proofs.YtclfmpieapbfnaaGreatDoor
set_option linter.unusedVariables false
set_option linter.unusedSimpArgs false
section
namespace Mc
open Go.RowKit B Lt
open Pr (Pg Gi Ins ics icells formed_ ins_at)
open Ou (Kk)
section
variable {w0 W W':World} {p:Nat} {v:Env} {c:Mst} {vs ve vn:Value}
theorem Mx.far {g:Nat} {t:TypeId} {cs:Array Value} (h:Mx w0 W p v c vs ve vn) (hu:Upd (fun k => k = g) W W') (hb:Blk W g t cs) (ht:347 ≠ t ∧ 2 ≠ t ∧ 160 ≠ t ∧ 264 ≠ t) (hg:w0.heap.size ≤ g):Mx w0 W' p v c vs ve vn:=
 ⟨h.blk.upd hu (Blk.ne_type h.blk hb ht.1),h.hs.upd hu fun k hk e => h.hs.ne hb ht.2.1 (e ▸ hk),h.he.upd hu fun k hk e => h.he.ne hb ht.2.2.1 (e ▸ hk),h.hn.upd hu fun k hk e => h.hn.ne hb ht.2.2.2 (e ▸ hk),h.lo,h.upd.trans hu fun i hi e => by omega⟩
theorem Mx.new (W:World) (hu:Upd No w0 W) (v:Env) (b:List Int) (cs:Array Value) (hcs:cs = mcs v ⟨0,[],b,[],[],0⟩ (.slice none 0 0) (.slice none 0 0) (.slice none 0 0)) :
 Mx w0 (W.alloc (.cells cs 347)) W.heap.size v ⟨0,[],b,[],[],0⟩ (.slice none 0 0) (.slice none 0 0) (.slice none 0 0):=by
 subst hcs
 exact ⟨Blk.fresh W _ _,Sl.nil _ _ _ _,Sl.nil _ _ _ _,Sl.nil _ _ _ _,hu.size,hu.alloc _⟩
theorem Mx.row {g:Nat} {cz cs':Array Value} (h:Mx w0 W p v c vs ve vn) (hb:Blk W g 33 cz) (hg:w0.heap.size ≤ g) (hW:W' = W.setRow g cs'):Mx w0 W' p v c vs ve vn ∧ Blk W' g 33 cs':=by
 subst hW
 exact ⟨h.far (Nd.Upd.setRow (w:=W) g cs') hb ⟨by decide,by decide,by decide,by decide⟩ hg,Nd.Blk.row hb _⟩
end
theorem cell_q {w w':World} {a:Addr} {v:Value} (h:w.cell? a = some v) (hu:Upd No w w'):w'.cell? a = some v:=by
 have hl:a.block < w.heap.size:=by
  rcases Nat.lt_or_ge a.block w.heap.size with h1 | h1
  · exact h1
  · unfold World.cell? at h
    rw [Array.getElem?_eq_none h1] at h
    cases h
 rw [hu.cell hl (no_ _)]
 exact h
structure Sq (W:World) (p4 pm a:Nat) (vC:Value) (ad:Addr) (op:Nat) (arg:Int):Prop where
 c1:W.cell? ⟨p4,1,none⟩ = some vC
 c7:W.cell? ⟨pm,7,none⟩ = some (.int .i64 a)
 x:W.cell? (ad.add (a * 2)) = some (.int .i64 op) ∧ W.cell? ⟨(ad.add (a * 2)).block,(ad.add (a * 2)).off + 1,none⟩ = some (.int .i64 arg)
theorem Sq.quiet {W W':World} {p4 pm a:Nat} {vC:Value} {ad:Addr} {op:Nat} {arg:Int} (h:Sq W p4 pm a vC ad op arg) (hu:Upd No W W'):Sq W' p4 pm a vC ad op arg:=⟨cell_q h.c1 hu,cell_q h.c7 hu,cell_q h.x.1 hu,cell_q h.x.2 hu⟩
theorem Sq.box {W W':World} {p4 pm a g:Nat} {vC:Value} {ad:Addr} {op:Nat} {arg:Int} {cz:Array Value} (h:Sq W p4 pm a vC ad op arg) (hW:W' = W.alloc (.cells cz 33)) (hg:g = W.heap.size) (cs':Array Value):Sq (W'.setRow g cs') p4 pm a vC ad op arg:=by
 have hu:Upd No W (W'.setRow g cs'):=by
  subst hW
  exact ((Upd.refl No W).alloc _).trans (Nd.Upd.setRow (w:=W.alloc _) g cs') fun i hi e => by omega
 exact h.quiet hu
structure Trace (we:World) (cs:List Ins) (v:Env) (n:Nat) (T:Nat → Mst):Prop where
 few:n ≤ 100
 cnt:∀ k,k ≤ n → (T k).steps = k
 pos:∀ k,k < n → ∃ a:Nat,(T k).at_ = a ∧ a < cs.length
 fin:(cs.length:Int) ≤ (T n).at_
 step:∀ k,k < n → ∀ (a:Nat) (ha:a < cs.length),(T k).at_ = a → ∀ w0 W p,Upd No we w0 → Mo w0 W p v { T k with at_:=(a:Int) + 1,steps:=(k:Int) + 1 } →
  Calls Tryz.prog 194 #[.pointer (some ⟨p,0,none⟩),.agg #[.int .i64 cs[a].1,.int .i64 cs[a].2]] W fun e w' => PuOut w0 p v (T (k + 1)) e w'
def rcs (c:Mst) (ve vn:Value):Array Value:=#[.int .i64 (gi c.reg 0),.int .i64 (gi c.reg 1),.int .i64 (gi c.reg 2),.int .i64 (gi c.reg 3),.int .i64 (gi c.reg 4),.int .i64 (gi c.reg 5),.int .i64 (gi c.reg 6),.int .i64 (gi c.reg 7),ve,vn,.slice none 0 0,.int .i64 c.steps]
def RnOut (w:World) (c:Mst) (e:Ending) (w':World):Prop:=∃ ve vn,e = .returned (.tuple #[.agg (rcs c ve vn),.int .i64 0]) ∧ Sl w' w.heap.size 160 2 ve c.evs.length (Jn.ecs c.evs) ∧ Sl w' w.heap.size 264 3 vn c.snt.length (ses c.snt) ∧ Upd No w w'
theorem RnOut.of {w:World} {c:Mst} {e:Ending} {w':World} (h:∃ ve vn,e = .returned (.tuple #[.agg (rcs c ve vn),.int .i64 0]) ∧ Sl w' w.heap.size 160 2 ve c.evs.length (Jn.ecs c.evs) ∧ Sl w' w.heap.size 264 3 vn c.snt.length (ses c.snt) ∧ Upd No w w'):RnOut w c e w':=h
structure Bx (w W:World) (p4 p5 p6 p8:Nat) (uN uC:Value) (reg:List Int) (x:L) (us:Value):Prop where
 b4:Blk W p4 36 #[uN,uC]
 b5:Blk W p5 61 (Jn.arr reg)
 b6:Blk W p6 60 #[.string x.1,.int .u64 x.2.1,.int .i64 x.2.2.1,us]
 b8:Blk W p8 259 #[.int .i64 0,.int .i64 0,.int .i64 0,.int .i64 0,.int .i64 0,.int .i64 0,.int .i64 0,.int .i64 0,.slice none 0 0,.slice none 0 0,.slice none 0 0,.int .i64 0]
 lo:w.heap.size ≤ p8
 upd:Upd No w W
theorem Bx.quiet {w W W':World} {p4 p5 p6 p8:Nat} {uN uC:Value} {reg:List Int} {x:L} {us:Value} (h:Bx w W p4 p5 p6 p8 uN uC reg x us) (hu:Upd No W W'):Bx w W' p4 p5 p6 p8 uN uC reg x us:=
 ⟨h.b4.upd hu (no_ _),h.b5.upd hu (no_ _),h.b6.upd hu (no_ _),h.b8.upd hu (no_ _),h.lo,h.upd.next hu⟩
theorem Bx.made (w:World) (uN uC:Value) (reg:List Int) (x:L) (us:Value):∃ w1 w2 w3 w4,w1 = w.alloc (.cells #[uN,uC] 36) ∧ w2 = w1.alloc (.cells (Jn.arr reg) 61) ∧ w3 = w2.alloc (.cells #[.string x.1,.int .u64 x.2.1,.int .i64 x.2.2.1,us] 60) ∧
 w4 = w3.alloc (.cells #[.int .i64 0,.int .i64 0,.int .i64 0,.int .i64 0,.int .i64 0,.int .i64 0,.int .i64 0,.int .i64 0,.slice none 0 0,.slice none 0 0,.slice none 0 0,.int .i64 0] 259) ∧ Bx w w4 w.heap.size (w.heap.size + 1) (w.heap.size + 2) (w.heap.size + 3) uN uC reg x us:=by
 have e1:(w.alloc (.cells #[uN,uC] 36)).heap.size = w.heap.size + 1:=by simp
 have e2:((w.alloc (.cells #[uN,uC] 36)).alloc (.cells (Jn.arr reg) 61)).heap.size = w.heap.size + 2:=by simp
 have e3:(((w.alloc (.cells #[uN,uC] 36)).alloc (.cells (Jn.arr reg) 61)).alloc (.cells #[.string x.1,.int .u64 x.2.1,.int .i64 x.2.2.1,us] 60)).heap.size = w.heap.size + 3:=by simp
 have q2:=Blk.fresh (w.alloc (.cells #[uN,uC] 36)) 61 (Jn.arr reg)
 have q3:=Blk.fresh ((w.alloc (.cells #[uN,uC] 36)).alloc (.cells (Jn.arr reg) 61)) 60 #[.string x.1,.int .u64 x.2.1,.int .i64 x.2.2.1,us]
 have q4:=Blk.fresh (((w.alloc (.cells #[uN,uC] 36)).alloc (.cells (Jn.arr reg) 61)).alloc (.cells #[.string x.1,.int .u64 x.2.1,.int .i64 x.2.2.1,us] 60)) 259 #[.int .i64 0,.int .i64 0,.int .i64 0,.int .i64 0,.int .i64 0,.int .i64 0,.int .i64 0,.int .i64 0,.slice none 0 0,.slice none 0 0,.slice none 0 0,.int .i64 0]
 rw [e1] at q2
 rw [e2] at q3
 rw [e3] at q4
 exact ⟨_,_,_,_,rfl,rfl,rfl,rfl,(((Blk.fresh w _ _).alloc _).alloc _).alloc _,(q2.alloc _).alloc _,q3.alloc _,q4,by omega,((((Upd.refl _ _).alloc _).alloc _).alloc _).alloc _⟩
set_option maxRecDepth 100000 in
theorem run_ {w:World} {uN uC:Value} {ns:List ByteArray} {cs:List Ins} {x:L} {us:Value} {reg:List Int} {n:Nat} {T:Nat → Mst} (hp:Pg w uN uC ns cs) (hn8:ns.length ≤ 8) (hc:cs.length ≤ 200) (hk:∀ s ∈ ns,Kk s) (hg:∀ i ∈ cs,Gi ns.length cs.length i)
 (hx:In w x us) (hf:formed x = true) (h0:T 0 = ⟨0,[],reg,[],[],0⟩) (hT:Trace w cs ⟨uN,uC,x,us,0⟩ n T) :
 Calls Tryz.prog 127 #[.agg #[uN,uC],.agg (Jn.arr reg),val x us,.int .i64 0] w fun e w' => RnOut w (T n) e w':=by
 have HF:=hid fun W (hu:Upd No w W) => formed_ (hp.quiet hu) hn8 hc hk hg
 have HL:=hid fun W (hu:Upd No w W) => Lt.formed_ x us W (hx.upd hu fun _ _ => no_ _)
 rw [hf] at HL
 obtain ⟨AN,aN,AC,aC,rfl,rfl,_,hrc,_,hcc⟩:=hp.ex
 have HC:=hid fun W (hu:Upd No w W) => Rd.upd hrc (by omega) hu fun _ _ => no_ _
 obtain ⟨w1,w2,w3,w4,hw1,hw2,hw3,hw4,hbx⟩:=Bx.made w (.slice AN ns.length aN) (.slice AC cs.length aC) reg x us
 have HW:=hid (And.intro hw1 (And.intro hw2 (And.intro hw3 hw4)))
 have HB:=hid hbx
 have HT:=hid (And.intro h0 hT)
 obtain ⟨s,sn,k,l⟩:=x
 obtain ⟨us1,us2,hus,_⟩:=hx
 subst hus
 unfold val
 unfold val at HL
 simp only at HL
 obtain ⟨v,hv⟩:∃ v:Env,v = ⟨.slice AN ns.length aN,.slice AC cs.length aC,(s,sn,k,l),.slice us1 l.length us2,0⟩:=⟨_,rfl⟩
 rw [← hv] at HT
 have HV:=hid hv
 have HCc:=hid hc
 clear hp hn8 hc hk hg hf hT h0 hv hrc hcc hw1 hw2 hw3 hw4 hbx
 go_enter Tryz.func127,Tryz.ntmps127
 go_wp2_with (fail)
 rw [← HW.out.1,← HW.out.2.1,← HW.out.2.2.1,← HW.out.2.2.2]
 clear HW
 refine Calls.mono (HF.out w4 HB.out.upd) ?_
 rintro e w5 ⟨rfl,hu5⟩
 have HB5:=hid (HB.out.quiet hu5)
 obtain ⟨y0,y1,y2,y3⟩:=box HB5.out.b6
 clear hu5 HB HF
 go_wp2_with (fail)
 refine Calls.mono (HL.out w5 HB5.out.upd) ?_
 rintro e w6 ⟨rfl,hu6⟩
 have HB6:=hid (HB5.out.quiet hu6)
 clear hu6 HL HB5 y0 y1 y2 y3
 obtain ⟨y0,y1,y2,y3⟩:=box HB6.out.b6
 obtain ⟨c0,c1⟩:=At.box2 HB6.out.b4
 have r0:∀ o,(w6.alloc o).cell? ⟨w.heap.size + 1,0,none⟩ = some (.int .i64 (gi reg 0)):=fun o => (Jn.abox (HB6.out.b5.alloc o)).1
 have r1:∀ o,(w6.alloc o).cell? ⟨w.heap.size + 1,1,none⟩ = some (.int .i64 (gi reg 1)):=fun o => (Jn.abox (HB6.out.b5.alloc o)).2.1
 have r2:∀ o,(w6.alloc o).cell? ⟨w.heap.size + 1,2,none⟩ = some (.int .i64 (gi reg 2)):=fun o => (Jn.abox (HB6.out.b5.alloc o)).2.2.1
 have r3:∀ o,(w6.alloc o).cell? ⟨w.heap.size + 1,3,none⟩ = some (.int .i64 (gi reg 3)):=fun o => (Jn.abox (HB6.out.b5.alloc o)).2.2.2.1
 have r4:∀ o,(w6.alloc o).cell? ⟨w.heap.size + 1,4,none⟩ = some (.int .i64 (gi reg 4)):=fun o => (Jn.abox (HB6.out.b5.alloc o)).2.2.2.2.1
 have r5:∀ o,(w6.alloc o).cell? ⟨w.heap.size + 1,5,none⟩ = some (.int .i64 (gi reg 5)):=fun o => (Jn.abox (HB6.out.b5.alloc o)).2.2.2.2.2.1
 have r6:∀ o,(w6.alloc o).cell? ⟨w.heap.size + 1,6,none⟩ = some (.int .i64 (gi reg 6)):=fun o => (Jn.abox (HB6.out.b5.alloc o)).2.2.2.2.2.2.1
 have r7:∀ o,(w6.alloc o).cell? ⟨w.heap.size + 1,7,none⟩ = some (.int .i64 (gi reg 7)):=fun o => (Jn.abox (HB6.out.b5.alloc o)).2.2.2.2.2.2.2
 obtain ⟨wm,pm,hwm,hpm⟩:∃ wm pm,wm = w6.alloc (.cells #[.slice AN ns.length aN,.slice AC cs.length aC,.string s,.int .u64 sn,.int .i64 k,.slice us1 l.length us2,.int .i64 0,.int .i64 0,.slice none 0 0,.int .i64 (gi reg 0),.int .i64 (gi reg 1),.int .i64 (gi reg 2),.int .i64 (gi reg 3),.int .i64 (gi reg 4),.int .i64 (gi reg 5),.int .i64 (gi reg 6),.int .i64 (gi reg 7),.slice none 0 0,.slice none 0 0,.slice none 0 0,.int .i64 0,.int .i64 0,.bool false] 347) ∧ pm = w6.heap.size:=⟨_,_,rfl,rfl⟩
 have HM:=hid (show Mo w6 wm pm v (T 0) from ⟨_,_,_,by rw [HT.out.1,hwm,hpm,HV.out]; exact Mx.new w6 (Upd.refl _ _) _ reg _ rfl⟩)
 have HWm:=hid (And.intro hwm hpm)
 clear hwm hpm
 go_wp2_with (fail)
 rw [← HWm.out.1]
 try rw [← HWm.out.2]
 clear HWm r0 r1 r2 r3 r4 r5 r6 r7 y0 y1 y2 y3 c0 c1
 obtain ⟨p4,hp4⟩:∃ p4,p4 = w.heap.size:=⟨_,rfl⟩
 obtain ⟨p5,hp5⟩:∃ p5,p5 = p4 + 1:=⟨_,rfl⟩
 obtain ⟨p6,hp6⟩:∃ p6,p6 = p4 + 1 + 1:=⟨_,rfl⟩
 obtain ⟨p8,hp8⟩:∃ p8,p8 = p4 + 1 + 1 + 1:=⟨_,rfl⟩
 have HB7:=hid (show Bx w w6 p4 p5 p6 p8 (.slice AN ns.length aN) (.slice AC cs.length aC) reg (s,sn,k,l) (.slice us1 l.length us2) by rw [hp8,hp6,hp5,hp4]; exact HB6.out)
 rw [← hp4,← hp8,← hp6,← hp5]
 clear hp4 hp5 hp6 hp8 HB6
 go_loopg [] n (fun gk W => ∃ j,j + gk = n ∧ Hid (Mo w6 W pm v (T j)))
 case atStart => exact ⟨0,by omega,HM⟩
 case round =>
  clear HM
  obtain ⟨j,hj,HM⟩:=hrel
  by_cases hlt:j < n
  · obtain ⟨a,ha1,ha2⟩:=HT.out.2.pos j hlt
    have hcnt:=HT.out.2.cnt j (by omega)
    have hst:=HT.out.2.step j hlt a ha2 ha1
    have hn1:=HT.out.2.few
    have hj5:¬ (j:Int) = 500:=by omega
    have hj0:(0:Int) ≤ (j:Int):=by omega
    have hj9:(j:Int) < 500:=by omega
    have hc2:=HCc.out
    have ha0:(0:Int) ≤ (a:Int):=by omega
    have ha9:(a:Int) < (cs.length:Int):=by omega
    have ha200:(a:Int) < 200:=by omega
    obtain ⟨vs,ve,vn,hM⟩:=HM.out
    have c22:=(mcells hM.blk).2.1.2.2.2.2.2.2.2
    have c7:=(mcells hM.blk).2.1.1
    have c20:=(mcells hM.blk).2.1.2.2.2.2.2.1
    have f20:=hM.blk.free 20
    rw [ha1] at c7
    rw [hcnt] at c20
    have c1:=(At.box2 (HB7.out.quiet hM.upd).b4).2
    have HM0:=hid hM
    have HS0:=hid hst
    have HM1:=hid (hM.set (c':={ T j with steps:=(j:Int) + 1 }) 20 (.int .i64 ((j:Int) + 1)) rfl hM.hs hM.he hM.hn)
    have HA1:=hid ha1
    clear hM hst hcnt ha1 hn1 hc2 HM
    go_wp2_with (fail)
    refine wp_region_held_drew (S:=fun W => W.cell? ⟨pm,22,none⟩ = some (.bool false) ∧ W.cell? ⟨pm,7,none⟩ = some (.int .i64 a) ∧ W.cell? ⟨p4,1,none⟩ = some (.slice AC cs.length aC)) (by kernel_rfl) ⟨c22,c7,c1⟩ (fun hS => ?_)
    refine zt 0 hS ?_
    refine zt 1 hS ?_
    refine zt 2 hS ?_
    refine zh 3 hS (fun w hw => hw.1) ?_
    refine zt 4 hS ?_
    refine zt 5 hS ?_
    refine zt 6 hS ?_
    refine zt 7 hS ?_
    refine zt 8 hS ?_
    refine zh 9 hS (fun w hw => hw.2.1) ?_
    refine zt 10 hS ?_
    refine zh 11 hS (fun w hw => hw.2.2) ?_
    refine zt 12 hS ?_
    refine zt 13 hS ?_
    refine zt 14 hS ?_
    refine wpAnyH_done (by kernel_rfl) ?_ _
    clear hS
    go_wp2_with (fail)
    have HM2:=hid HM1.out.drew.drew
    clear c22 c7 c20 f20 c1 HM1
    generalize (wr.setCell ⟨pm,20,none⟩ (.int .i64 ((j:Int) + 1))).drew = w7 at *
    obtain ⟨ad,hA,x0,x1⟩:=ins_at (HC.out w7.drew (HB7.out.upd.next HM2.out.upd)) ha2
    subst hA
    have c7:=(mcells HM2.out.blk).2.1.1
    simp only at c7
    rw [HA1.out] at c7
    have c1:=(At.box2 (HB7.out.quiet HM2.out.upd).b4).2
    generalize cs[a] = ins at *
    obtain ⟨op,arg⟩:=ins
    simp only at x0 x1 HS0
    have HSq:=hid (show Sq w7.drew p4 pm a (.slice (some ad) cs.length aC) ad op arg from ⟨c1,c7,x0,x1⟩)
    have hpz:w6.heap.size ≤ w7.drew.heap.size:=HM2.out.upd.size
    have HPz:=hid hpz
    clear c1 c7 x0 x1 hpz
    refine wp_region_held_drew (S:=fun W => Sq W p4 pm a (.slice (some ad) cs.length aC) ad op arg) (by kernel_rfl) HSq.out (fun hS => ?_)
    generalize w7.drew = w8 at *
    refine zt 0 hS ?_
    refine zh 1 hS (fun w hw => hw.c1) ?_
    refine zt 2 hS ?_
    refine zt 3 hS ?_
    refine zt 4 hS ?_
    refine zh 5 hS (fun w hw => hw.c7) ?_
    refine zt 6 hS ?_
    refine zh 7 hS (fun w hw => hw.x) ?_
    refine zk 8 (fun K hK => ?_)
    go_simp
    refine hK.out _ _ ((by exact HSq.out.quiet ((Upd.refl _ _).alloc _))) (fun hS => ?_)
    clear hK K
    try simp only [Act.put,zA,zB,zC]
    refine rg_world fun W8 hW8 => ?_
    have HW8:=hid hW8
    have hb8:Blk W8 w8.heap.size 33 #[.int .i64 0,.int .i64 0]:=by rw [hW8]; exact Blk.fresh _ _ _
    clear hW8
    refine zk 9 (fun K hK => ?_)
    refine wp_store_row 33 (.tmp 11) (.tmp 73) (by rfl) _ #[.int .i64 op,.int .i64 arg] (by rfl) (by rfl) 33 _ hb8 (by kernel_rfl) (by rfl) (by simp [Value.oneCell']) ?_
    refine hK.out _ _ ((by exact HSq.out.box HW8.out rfl _)) (fun hS => ?_)
    clear hK K
    try simp only [Act.put,zA,zB,zC]
    refine rg_world fun W9 hW9 => ?_
    have hM9:=Mx.row (HM2.out.quiet (show Upd No w8 W8 by rw [HW8.out]; exact (Upd.refl _ _).alloc _)) hb8 HPz.out hW9
    clear hW9
    refine wpAnyH_done (by kernel_rfl) ?_ _
    all_goals
     have HM9:=hid hM9
     have c7:=(mcells HM9.out.1.blk).2.1.1
     have f7:=HM9.out.1.blk.free 7
     simp only at c7
     rw [HA1.out] at c7
     obtain ⟨d0,d1⟩:=At.box2 HM9.out.2
     have HM10:=hid (HM9.out.1.set (c':={ T j with at_:=(a:Int) + 1,steps:=(j:Int) + 1 }) 7 (.int .i64 ((a:Int) + 1)) rfl HM9.out.1.hs HM9.out.1.he HM9.out.1.hn)
     have HD10:=hid (HM9.out.2.far (p:=⟨pm,7,none⟩) (Blk.ne_type HM9.out.2 HM9.out.1.blk (by decide)) (.int .i64 ((a:Int) + 1)))
     clear hM9 hS hb8
     go_wp2_with (fail)
     refine Calls.mono (HS0.out w6 _ pm HB7.out.upd ⟨_,_,_,HM10.out⟩) ?_
     rintro e w11 ⟨rfl,h11⟩
     have H11:=hid h11
     obtain ⟨vs2,ve2,vn2,hx11⟩:=h11
     have c21:=(mcells hx11.blk).2.1.2.2.2.2.2.2.1
     clear hx11 c7 f7 d0 d1
     go_wp2
     go_roundg (gk - 1)
     case rel => exact ⟨j + 1,by omega,H11⟩
     case measure => omega
  · obtain rfl:j = n:=by omega
    have hfin:=HT.out.2.fin
    have hge:¬ (T j).at_ < (cs.length:Int):=by omega
    obtain ⟨vs,ve,vn,hM⟩:=HM.out
    have c22:=(mcells hM.blk).2.1.2.2.2.2.2.2.2
    have c7:=(mcells hM.blk).2.1.1
    have c1:=(At.box2 (HB7.out.quiet hM.upd).b4).2
    obtain ⟨A5,c5,hve,_,_⟩:=hM.he.shape
    obtain ⟨A6,c6,hvn,_,_⟩:=hM.hn.shape
    subst hve hvn
    have HM0:=hid hM
    clear hM hfin HM HT
    generalize hcT:T j = c at *
    have HcT:=hid hcT
    clear hcT
    go_wp2_with (fail)
    refine wp_region_held_drew (S:=fun W => W.cell? ⟨pm,22,none⟩ = some (.bool false) ∧ W.cell? ⟨pm,7,none⟩ = some (.int .i64 c.at_) ∧ W.cell? ⟨p4,1,none⟩ = some (.slice AC cs.length aC)) (by kernel_rfl) ⟨c22,c7,c1⟩ (fun hS => ?_)
    refine zt 0 hS ?_
    refine zt 1 hS ?_
    refine zt 2 hS ?_
    refine zh 3 hS (fun w hw => hw.1) ?_
    refine zt 4 hS ?_
    refine zt 5 hS ?_
    refine zt 6 hS ?_
    refine zt 7 hS ?_
    refine zt 8 hS ?_
    refine zh 9 hS (fun w hw => hw.2.1) ?_
    refine zt 10 hS ?_
    refine zh 11 hS (fun w hw => hw.2.2) ?_
    refine zt 12 hS ?_
    refine zt 13 hS ?_
    refine zt 14 hS ?_
    refine wpAnyH_done (by kernel_rfl) ?_ _
    clear hS c22 c7 c1
    have HM1:=hid HM0.out.drew
    generalize wr.drew = w7 at *
    have hbm:=HM1.out.blk
    obtain ⟨_,⟨_,_,c17,c18,c19,c20,_⟩,r0,r1,r2,r3,r4,r5,r6,r7⟩:=mcells hbm
    have hb8:=(HB7.out.quiet HM1.out.upd).b8
    have HB8:=hid hb8
    clear hbm hb8
    go_wp2_with (refine wpList_store_row rfl 259 (.tmp 8) (.tmp 102) rfl p8 (rcs c (.slice A5 c.evs.length c5) (.slice A6 c.snt.length c6)) rfl rfl 259 _ HB8.out (by kernel_rfl) (by rfl) (by simp [rcs,Value.oneCell']) ?_)
    clear r0 r1 r2 r3 r4 r5 r6 r7 c17 c18 c19 c20
    have HR:Hid (RnOut w c (.returned (.tuple #[.agg (rcs c (.slice A5 c.evs.length c5) (.slice A6 c.snt.length c6)),.int .i64 0])) (w7.setRow p8 (rcs c (.slice A5 c.evs.length c5) (.slice A6 c.snt.length c6)))):=hid (by
     have hu:=Nd.Upd.setRow (w:=w7) p8 (rcs c (.slice A5 c.evs.length c5) (.slice A6 c.snt.length c6))
     have hs:=HB7.out.upd.size
     have h5:=HM1.out.he
     have h6:=HM1.out.hn
     refine .of ⟨_,_,rfl,Sl.base_ (h5.upd hu fun g hg e => h5.ne HB8.out (by decide) (e ▸ hg)) hs,Sl.base_ (h6.upd hu fun g hg e => h6.ne HB8.out (by decide) (e ▸ hg)) hs,(HB7.out.upd.next HM1.out.upd).trans hu fun i hi e => ?_⟩
     have:=HB7.out.lo
     omega)
    rw [← HcT.out] at HR ⊢
    have hq:=Nd.Blk.row HB8.out (rcs (T j) (.slice A5 (T j).evs.length c5) (.slice A6 (T j).snt.length c6))
    unfold rcs at hq
    have q0:(World.cell? _ ⟨p8,0,none⟩) = some _:=hq.cell 0
    have q1:(World.cell? _ ⟨p8,1,none⟩) = some _:=hq.cell 1
    have q2:(World.cell? _ ⟨p8,2,none⟩) = some _:=hq.cell 2
    have q3:(World.cell? _ ⟨p8,3,none⟩) = some _:=hq.cell 3
    have q4:(World.cell? _ ⟨p8,4,none⟩) = some _:=hq.cell 4
    have q5:(World.cell? _ ⟨p8,5,none⟩) = some _:=hq.cell 5
    have q6:(World.cell? _ ⟨p8,6,none⟩) = some _:=hq.cell 6
    have q7:(World.cell? _ ⟨p8,7,none⟩) = some _:=hq.cell 7
    have q8:(World.cell? _ ⟨p8,8,none⟩) = some _:=hq.cell 8
    have q9:(World.cell? _ ⟨p8,9,none⟩) = some _:=hq.cell 9
    have q10:(World.cell? _ ⟨p8,10,none⟩) = some _:=hq.cell 10
    have q11:(World.cell? _ ⟨p8,11,none⟩) = some _:=hq.cell 11
    unfold rcs at HR
    clear hq
    exact bodyPost_ret (by simp [results,go_sem,rcs,q0,q1,q2,q3,q4,q5,q6,q7,q8,q9,q10,q11]) rfl HR.out
end Mc
end
section
namespace Tu
open Go.RowKit B Cm Cr Cw Lt Lc Ou
open Ac (Am Aw parts jnO ibO otO roO)
open Eg (BB)
open Mc (Mst Se)
def sendL (m:Om) (l:List Se):Om:=l.foldl (fun m s => sendO m s.1 s.2.1 [s.2.2]) m
def tkn (a:Am) (c:Mst):Am:=⟨(Jn.addS a.jn c.evs).2,a.inb.tail,sendL a.out c.snt,0,a.poi⟩
section
variable {w w' w2:World} {F G:Nat → Prop} {p pj pi po n:Nat} {a:Am} {v:Value}
theorem aw_pop (h:Aw w F p a pj pi po n v):∃ B,Ib.Ib w B pi a.inb ∧ ∀ w' r,Ib.Ib w' B pi r → Upd B w w' → ∃ F',Aw w' F' p { a with inb:=r } pj pi po n v ∧ Mv F F' w w':=by
 obtain ⟨B,h1,_,hput⟩:=h.st.at_ 2 (o:=ibO pi a.inb) rfl
 refine ⟨B,h1,fun w' r hr hu => ?_⟩
 obtain ⟨F',k1,k2⟩:=hput w' B (ibO pi r) ⟨hu,fun k hk => .inl hk⟩ hr
 exact ⟨F',⟨k1,h.few⟩,k2⟩
theorem aw_set {po' k:Nat} {m:Om} {Go:Nat → Prop} (h:Aw w F p a pj pi po n v) (ho:Ot w Go po' m k) (hG:∀ g,Go g → ¬ F g) (hk:k ≤ 1000) :
 ∃ F',Aw ((w.setCell ⟨p,2,none⟩ (.pointer (some ⟨po',0,none⟩))).setCell ⟨p,3,none⟩ (.int .i64 0)) F' p { a with out:=m,tries:=0 } pj pi po' k v ∧ Upd F w ((w.setCell ⟨p,2,none⟩ (.pointer (some ⟨po',0,none⟩))).setCell ⟨p,3,none⟩ (.int .i64 0)) ∧ ∀ g,F' g → F g ∨ Go g:=by
 obtain ⟨B,_,hB,hgrow⟩:=Eg.Star.grow h.st 3 (o:=otO po a.out n) rfl
 obtain ⟨F2,k1,k2⟩:=hgrow w Go (otO po' m k) (Upd.refl _ _) (fun g hg => .inr (hG g hg)) ho
 obtain ⟨C,hb,hC,hput⟩:=k1.at_ 0 (o:=Ob.blk p 57 #[.pointer (some ⟨pj,0,none⟩),.pointer (some ⟨pi,0,none⟩),.pointer (some ⟨po,0,none⟩),.int .i64 a.tries,v]) rfl
 obtain ⟨g1,g2⟩:=Ob.blk_put hb 2 (.pointer (some ⟨po',0,none⟩))
 obtain ⟨h1,h2⟩:=Ob.blk_put g1 3 (.int .i64 0)
 have e1:((#[.pointer (some ⟨pj,0,none⟩),.pointer (some ⟨pi,0,none⟩),.pointer (some ⟨po,0,none⟩),.int .i64 a.tries,v]:Array Value).setIfInBounds 2 (.pointer (some ⟨po',0,none⟩))).setIfInBounds 3 (.int .i64 0) = #[.pointer (some ⟨pj,0,none⟩),.pointer (some ⟨pi,0,none⟩),.pointer (some ⟨po',0,none⟩),.int .i64 0,v]:=rfl
 rw [e1] at h1
 obtain ⟨F3,j1,j2⟩:=hput _ C _ (g2.trans h2) h1
 have hCF:∀ g,C g → F g:=fun g hg => by
  obtain ⟨C0,hb0,hC0,_⟩:=h.st.at_ 0 (o:=Ob.blk p 57 #[.pointer (some ⟨pj,0,none⟩),.pointer (some ⟨pi,0,none⟩),.pointer (some ⟨po,0,none⟩),.int .i64 a.tries,v]) rfl
  exact hC0 g ((hb0.2 g).2 ((hb.2 g).1 hg))
 refine ⟨F3,⟨j1,hk⟩,(g2.trans h2).upd.mono fun g _ hg => hCF g hg,fun g hg => ?_⟩
 rcases j2.sub g hg with h9 | h9
 · exact k2 g h9
 · have hl:=j1.lt g hg
   have hz:((w.setCell ⟨p,2,none⟩ (.pointer (some ⟨po',0,none⟩))).setCell ⟨p,3,none⟩ (.int .i64 0)).heap.size = w.heap.size:=by simp [World.setCell]
   rw [hz] at hl
   omega
theorem aw_add (h:Aw w F p a pj pi po n v):∃ B,Jn.Jd w B pj a.jn ∧ ∀ w' B' s,Jn.Jd w' B' pj s → Mv B B' w w' → ∃ F',Aw w' F' p { a with jn:=s } pj pi po n v ∧ Mv F F' w w':=by
 obtain ⟨B,h1,_,hput⟩:=h.st.at_ 1 (o:=jnO pj a.jn) rfl
 refine ⟨B,h1,fun w' B' s hr hm => ?_⟩
 obtain ⟨F',k1,k2⟩:=hput w' B' (jnO pj s) hm hr
 exact ⟨F',⟨k1,h.few⟩,k2⟩
end
structure Sg (w W:World) (po:Nat) (m:Om) (n:Nat):Prop where
 ex:∃ G,Ot W G po m n ∧ ∀ g,G g → w.heap.size ≤ g
 upd:Upd No w W
theorem sg_send {w W wb W2:World} {po n g:Nat} {m:Om} {to:ByteArray} {kd z:Int} (h:Sg w W po m n) (hok:m.ok BB) (hn:n ≤ 1000) (hk:Kk to) (h32:m.lst.length < 32) (h64:m.ser.length < 64) (hb:Upd No W wb) (hW2:W2 = wb.alloc (.cells #[.int .i64 z] 2)) (hg:g = wb.heap.size) :
 Calls Tryz.prog 130 #[.pointer (some ⟨po,0,none⟩),.string to,.int .i64 kd,.slice (some ⟨g,0,none⟩) 1 1] W2 fun e w' => ∃ s,e = .returned (.tuple #[.int .u64 s,.int .i64 0]) ∧ Sg w w' po (sendO m to kd [z]) (n + 1):=by
 obtain ⟨G,hot,hG⟩:=h.ex
 have hlt:=hot.lt
 have hu:Upd No W W2:=by rw [hW2]; exact hb.alloc _
 have s1:=hb.size
 have s2:=hu.size
 have s0:=h.upd.size
 subst hW2 hg
 refine (send_ (A:=some ⟨wb.heap.size,0,none⟩) (c:=1) (l:=[z]) (hot.quiet hu) hok ⟨by unfold BB; omega,by unfold BB; omega⟩ (by omega) hk (Rn.lit wb .i64 2 [z]) (by simp) ⟨by simp,by simp [maxLen]⟩ (fun _ ad e hf => by injection e with e; subst e; have h9:wb.heap.size < W.heap.size:=hlt _ hf; omega) h32 h64).mono ?_
 rintro e w' ⟨s,F',rfl,h1,h2⟩
 exact ⟨s,rfl,⟨F',h1,fun k hk => (h2.sub k hk).elim (hG k) fun h9 => by omega⟩,(h.upd.next hu).trans h2.upd fun i hi hf => by have:=hG i hf; omega⟩
theorem sg_full {w W wb W2:World} {po n g:Nat} {m:Om} {to:ByteArray} {kd z:Int} (h:Sg w W po m n) (hok:m.ok BB) (hk:Kk to) (h32:m.lst.length = 32) (hb:Upd No W wb) (hW2:W2 = wb.alloc (.cells #[.int .i64 z] 2)) :
 Calls Tryz.prog 130 #[.pointer (some ⟨po,0,none⟩),.string to,.int .i64 kd,.slice (some ⟨g,0,none⟩) 1 1] W2 fun e w' => e = .returned (.tuple #[.int .u64 0,.int .i64 6]) ∧ W2 = w':=by
 obtain ⟨G,hot,hG⟩:=h.ex
 have hu:Upd No W W2:=by rw [hW2]; exact hb.alloc _
 exact send_full (A:=some ⟨g,0,none⟩) (c:=1) (l:=[z]) (hot.quiet hu) hok hk (by simp) h32
theorem sent0 {W:World} {b n c:Nat} {A:Option Addr} {l:List Se} {s:Se} (h:Sl W b 264 3 (.slice A n c) n (Mc.ses l)) (hl:l = [s]):∃ ad,A = some ad ∧ W.cell? ad = some (.string s.1) ∧ W.cell? ⟨ad.block,ad.off + 1,none⟩ = some (.int .i64 s.2.1) ∧ W.cell? ⟨ad.block,ad.off + 2,none⟩ = some (.int .i64 s.2.2):=by
 subst hl
 have hn:n = 1:=by
  have:=h.1
  simp [Mc.ses,Mc.sc] at this
  omega
 subst hn
 obtain ⟨ad,rfl,hcell⟩:=Op.row_at (f:=Mc.sc) (k:=3) h.rd (fun _ _ => rfl) rfl (i:=0) (by simp)
 have c0:=hcell 0 (by omega)
 have c1:=hcell 1 (by omega)
 have c2:=hcell 2 (by omega)
 rw [Nd.add_fl ad (0 * 3) 1 (by omega)] at c1
 rw [Nd.add_fl ad (0 * 3) 2 (by omega)] at c2
 exact ⟨ad,rfl,c0,c1,c2⟩
structure Ph (w wt W:World) (G F:Nat → Prop) (p:Nat) (a:Am) (pj pi po n:Nat) (v:Value):Prop where
 aw:Aw W F p a pj pi po n v
 fz:∀ k,F k → G k ∨ wt.heap.size ≤ k
 upd:Upd G wt W
 gl:∀ k,G k → k < w.heap.size
 wt:Upd No w wt
section
variable {w wt W W':World} {G F F':Nat → Prop} {p pj pi po n pj' pi' po' n':Nat} {a a':Am} {v v':Value}
theorem Ph.step (h:Ph w wt W G F p a pj pi po n v) (ha:Aw W' F' p a' pj' pi' po' n' v') (hu:Upd F W W') (hs:∀ k,F' k → F k ∨ wt.heap.size ≤ k):Ph w wt W' G F' p a' pj' pi' po' n' v':=
 ⟨ha,fun k hk => (hs k hk).elim (h.fz k) .inr,h.upd.trans hu fun i hi hf => (h.fz i hf).elim id fun h9 => by omega,h.gl,h.wt⟩
theorem Ph.quiet (h:Ph w wt W G F p a pj pi po n v) (hu:Upd No W W'):Ph w wt W' G F p a pj pi po n v:=⟨h.aw.quiet hu,h.fz,h.upd.trans hu fun _ _ h => h.elim,h.gl,h.wt⟩
theorem Ph.blk {g:Nat} {t:TypeId} {cs:Array Value} (h:Ph w wt W G F p a pj pi po n v) (hb:Blk wt g t cs) (hg:w.heap.size ≤ g):Blk W g t cs:=hb.upd h.upd fun hf => by have:=h.gl g hf; omega
theorem Ph.start (h:Aw wt G p a pj pi po n v) (hg:∀ k,G k → k < w.heap.size) (hw:Upd No w wt):Ph w wt wt G G p a pj pi po n v:=⟨h,fun _ h => .inl h,Upd.refl _ _,hg,hw⟩
theorem Ph.fin (h:Ph w wt W G F p a pj pi po n v) {g:Nat} {cz cs:Array Value} (hb:Blk wt g 43 cz) (hg:w.heap.size ≤ g):Ac.At (W.setRow g cs) F p a ∧ Mv G F w (W.setRow g cs) ∧ Blk (W.setRow g cs) g 43 cs:=by
 have hu:=Nd.Upd.setRow (w:=W) g cs
 have hl:=hb.lt
 have hs:=h.wt.size
 have hgF:¬ F g:=fun hf => (h.fz g hf).elim (fun h9 => by have:=h.gl g h9; omega) fun h9 => by omega
 refine ⟨⟨pj,pi,po,n,v,h.aw.upd hu fun k hk e => hgF (e ▸ hk)⟩,⟨((h.wt.mono fun _ _ h => h.elim).trans h.upd fun i hi hf => hf).trans hu fun i hi e => by omega,fun k hk => (h.fz k hk).imp id fun h9 => by omega⟩,Nd.Blk.row (h.blk hb hg) cs⟩
end
end Tu
end
section
namespace Tu
open Go.RowKit B Cm Cr Cw Lt Lc Ou
open Ac (Am Aw parts jnO ibO otO roO)
open Eg (BB)
open Mc (Mst Se rcs RnOut ses)
open Pr (Pg Ins Gi)
structure Tk (w:World) (G:Nat → Prop) (pa:Nat) (a:Am) (uN uC:Value) (ns:List ByteArray) (cs:List Ins) (x:L) (r:List L) (n:Nat) (T:Nat → Mst):Prop where
 at_:Ac.At w G pa a
 ok:a.ok BB
 pg:Pg w uN uC ns cs
 n8:ns.length ≤ 8
 c200:cs.length ≤ 200
 kk:∀ s ∈ ns,Kk s
 gi:∀ i ∈ cs,Gi ns.length cs.length i
 inb:a.inb = x :: r
 fm:formed x = true
 t0:T 0 = ⟨0,[],Jn.sts a.jn.1 a.jn.2.1,[],[],0⟩
 tr:∀ us W,In W x us → Upd No w W → Mc.Trace W cs ⟨uN,uC,x,us,0⟩ n T
 one:(T n).snt.length ≤ 1
 ev:(T n).evs.length ≤ 100
 sk:∀ s ∈ (T n).snt,Kk s.1
 room:(T n).snt = [] ∨ a.out.ser.length < 64
def ocm (d:Bool) (steps:Int):Array Value:=#[.bool d,.bool false,.int .i64 0,.int .i64 steps,.slice none 0 0]
def TkOut (w:World) (G:Nat → Prop) (pa:Nat) (a:Am) (c:Mst) (e:Ending) (w':World):Prop:=
 ((c.snt = [] ∨ a.out.lst.length < 32) ∧ e = .returned (.tuple #[.agg (ocm true c.steps),.int .i64 0]) ∧ ∃ G',Ac.At w' G' pa (tkn a c) ∧ Mv G G' w w') ∨
  (c.snt ≠ [] ∧ a.out.lst.length = 32 ∧ e = .returned (.tuple #[.agg (ocm false 0),.int .i64 8]) ∧ Upd No w w')
structure Tb (w W:World) (p3 p6 p10:Nat) (uN uC:Value) (x:L) (us:Value):Prop where
 b3:Blk W p3 36 #[uN,uC]
 b6:Blk W p6 43 (ocm false 0)
 b10:Blk W p10 60 #[.string x.1,.int .u64 x.2.1,.int .i64 x.2.2.1,us]
 inx:In W x us
 ub:∀ g,us.ownBlock = some g → ∃ cs,Blk W g 2 cs
 lo:w.heap.size ≤ p6
 upd:Upd No w W
theorem Tb.quiet {w W W':World} {p3 p6 p10:Nat} {uN uC:Value} {x:L} {us:Value} (h:Tb w W p3 p6 p10 uN uC x us) (hu:Upd No W W'):Tb w W' p3 p6 p10 uN uC x us:=
 ⟨h.b3.upd hu (no_ _),h.b6.upd hu (no_ _),h.b10.upd hu (no_ _),h.inx.upd hu fun _ _ => no_ _,fun g hg => (h.ub g hg).elim fun cs hB => ⟨cs,hB.upd hu (no_ _)⟩,h.lo,h.upd.next hu⟩
theorem Tb.row {w W W':World} {p3 p6 p10 g:Nat} {uN uC:Value} {x:L} {us:Value} {cz cs':Array Value} (h:Tb w W p3 p6 p10 uN uC x us) (hb:Blk W g 259 cz) (hg:w.heap.size ≤ g) (hW:W' = W.setRow g cs'):Tb w W' p3 p6 p10 uN uC x us:=by
 have hu:=Nd.Upd.setRow (w:=W) g cs'
 rw [← hW] at hu
 refine ⟨h.b3.upd hu (Blk.ne_type h.b3 hb (by decide)),h.b6.upd hu (Blk.ne_type h.b6 hb (by decide)),h.b10.upd hu (Blk.ne_type h.b10 hb (by decide)),h.inx.upd hu fun k hk e => ?_,fun k hk => (h.ub k hk).elim fun cs hB => ⟨cs,hB.upd hu (Blk.ne_type hB hb (by decide))⟩,h.lo,h.upd.trans hu fun i hi e => by omega⟩
 obtain ⟨cs,hB⟩:=h.ub k hk
 exact Blk.ne_type hB hb (by decide) e
theorem tb_lo {w W Wa:World} {p3 p6 p10:Nat} {uN uC:Value} {x:L} {us:Value} {o:Obj} (h:Tb w Wa p3 p6 p10 uN uC x us) (hW:Wa = W.alloc o):w.heap.size ≤ W.heap.size:=by
 have h1:=h.b6.lt
 have h2:=h.lo
 rw [hW] at h1
 simp at h1
 omega
structure Rv (w W:World) (c:Mst) (ve vn:Value):Prop where
 e:Sl W w.heap.size 160 2 ve c.evs.length (Jn.ecs c.evs)
 n:Sl W w.heap.size 264 3 vn c.snt.length (ses c.snt)
theorem Rv.quiet {w W W':World} {c:Mst} {ve vn:Value} (h:Rv w W c ve vn) (hu:Upd No W W'):Rv w W' c ve vn:=⟨h.e.upd hu fun _ _ => no_ _,h.n.upd hu fun _ _ => no_ _⟩
theorem Rv.row {w W W':World} {c:Mst} {ve vn:Value} {g:Nat} {cz cs':Array Value} (h:Rv w W c ve vn) (hb:Blk W g 259 cz) (hW:W' = W.setRow g cs'):Rv w W' c ve vn:=by
 have hu:=Nd.Upd.setRow (w:=W) g cs'
 rw [← hW] at hu
 exact ⟨h.e.upd hu fun k hk e => h.e.ne hb (by decide) (e ▸ hk),h.n.upd hu fun k hk e => h.n.ne hb (by decide) (e ▸ hk)⟩
theorem rv_of {w W W':World} {c:Mst} {ve vn:Value} (h1:Sl W' W.heap.size 160 2 ve c.evs.length (Jn.ecs c.evs)) (h2:Sl W' W.heap.size 264 3 vn c.snt.length (ses c.snt)) (hs:w.heap.size ≤ W.heap.size):Rv w W' c ve vn:=⟨h1.base_ hs,h2.base_ hs⟩
set_option maxRecDepth 100000 in
theorem take_ {w:World} {G:Nat → Prop} {pa:Nat} {a:Am} {uN uC:Value} {ns:List ByteArray} {cs:List Ins} {x:L} {r:List L} {n:Nat} {T:Nat → Mst} (h:Tk w G pa a uN uC ns cs x r n T) :
 Calls Tryz.prog 56 #[.agg #[uN,uC],.pointer (some ⟨pa,0,none⟩),.int .i64 0] w fun e w' => TkOut w G pa a (T n) e w':=by
 obtain ⟨pj,pi,po,nn,v,haw⟩:=h.at_
 have HA:=hid fun W (hu:Upd No w W) => haw.quiet hu
 have HH:=hid h
 obtain ⟨w1,w2,p3,p6,hw1,hw2,hp3,hp6⟩:∃ w1 w2 p3 p6,w1 = w.alloc (.cells #[uN,uC] 36) ∧ w2 = w1.alloc (.cells (ocm false 0) 43) ∧ p3 = w.heap.size ∧ p6 = p3 + 1:=⟨_,_,_,_,rfl,rfl,rfl,rfl⟩
 have hb3:Blk w2 p3 36 #[uN,uC]:=by rw [hw2,hw1,hp3]; exact (Blk.fresh _ _ _).alloc _
 have hb6:Blk w2 p6 43 (ocm false 0):=by
  have:=Blk.fresh w1 43 (ocm false 0)
  rw [hw2,hp6,hp3]
  rwa [show w1.heap.size = w.heap.size + 1 by rw [hw1]; simp] at this
 have hu2:Upd No w w2:=by rw [hw2,hw1]; exact ((Upd.refl _ _).alloc _).alloc _
 have HB2:=hid (And.intro hb3 (And.intro hb6 (And.intro hu2 (show w.heap.size ≤ p6 by omega))))
 have HEn:=hid (Ac.encode (h.at_.quiet hu2) h.ok (by unfold BB; omega))
 have HFm:=hid fun W (hu:Upd No w W) => Pr.formed_ (h.pg.quiet hu) h.n8 h.c200 h.kk h.gi
 have HW:=hid (And.intro hw1 (And.intro hw2 (And.intro hp3 hp6)))
 obtain ⟨A1,a1,A2,a2,hue,hve,_⟩:=h.pg.ex
 subst hue hve
 unfold ocm at hw2
 have HW2:=hid hw2
 clear h haw hw1 hw2 hp3 hp6 hb3 hb6 hu2
 go_enter Tryz.func56,Tryz.ntmps56
 go_wp2_with (fail)
 rw [← HW.out.1,← HW2.out]
 try rw [← HW.out.2.2.1]
 try rw [← HW.out.2.2.2]
 clear HW HW2
 refine Calls.mono HEn.out ?_
 rintro e w3 ⟨_,_,rfl,_,_,_,hu3,_⟩
 have HB3:=hid (And.intro (HB2.out.1.upd hu3 (no_ _)) (And.intro (HB2.out.2.1.upd hu3 (no_ _)) (And.intro (HB2.out.2.2.1.next hu3) HB2.out.2.2.2)))
 clear hu3 HB2 HEn
 obtain ⟨c0,c1⟩:=At.box2 HB3.out.1
 go_wp2_with (fail)
 refine Calls.mono (HFm.out w3 HB3.out.2.2.1) ?_
 rintro e w4 ⟨rfl,hu4⟩
 have HB4:=hid (And.intro (HB3.out.1.upd hu4 (no_ _)) (And.intro (HB3.out.2.1.upd hu4 (no_ _)) (And.intro (HB3.out.2.2.1.next hu4) HB3.out.2.2.2)))
 clear hu4 HB3 HFm c0 c1
 have d1:=(HA.out w4 HB4.out.2.2.1).cells.2.1
 obtain ⟨Bi,hib,_⟩:=(HA.out w4 HB4.out.2.2.1).ib
 rw [HH.out.inb] at hib
 have hl4:=(formed_le HH.out.fm).2
 have HFi:=hid (Ib.first_some pi x r Bi w4 hib (by omega))
 clear hib
 go_wp2_with (fail)
 refine Calls.mono HFi.out ?_
 rintro e w5 ⟨us,rfl,hin5,hu5,hub5⟩
 obtain ⟨s,sn,k,l⟩:=x
 obtain ⟨us1,us2,hus,hin6⟩:=hin5
 subst hus
 simp only [Lt.val]
 obtain ⟨w6,p10,hw6,hp10⟩:∃ w6 p10,w6 = w5.alloc (.cells #[.string s,.int .u64 sn,.int .i64 k,.slice us1 l.length us2] 60) ∧ p10 = w5.heap.size:=⟨_,_,rfl,rfl⟩
 have hu6:Upd No w5 w6:=by rw [hw6]; exact (Upd.refl _ _).alloc _
 have HT:=hid (show Tb w w6 p3 p6 p10 (.slice A1 ns.length a1) (.slice A2 cs.length a2) (s,sn,k,l) (.slice us1 l.length us2) from
  ⟨(HB4.out.1.upd hu5 (no_ _)).upd hu6 (no_ _),(HB4.out.2.1.upd hu5 (no_ _)).upd hu6 (no_ _),by rw [hw6,hp10]; exact Blk.fresh _ _ _,In.upd ⟨_,_,rfl,hin6⟩ hu6 fun _ _ => no_ _,fun g hg => (hub5 g hg).2.elim fun cs hB => ⟨cs,hB.upd hu6 (no_ _)⟩,HB4.out.2.2.2,(HB4.out.2.2.1.next hu5).next hu6⟩)
 have HW6:=hid (And.intro hw6 hp10)
 clear hin6 hu5 hu6 hub5 hw6 hp10 d1 HFi HB4
 go_wp2_with (fail)
 rw [← HW6.out.1]
 try rw [← HW6.out.2]
 clear HW6
 have HSt:=hid fun W (hu:Upd No w W) => (HA.out W hu).jn.elim fun B hB => Jn.state hB.1 HH.out.ok.jo
 have HRn:Hid (∀ W,Tb w W p3 p6 p10 (.slice A1 ns.length a1) (.slice A2 cs.length a2) (s,sn,k,l) (.slice us1 l.length us2) → Calls Tryz.prog 127 #[.agg #[.slice A1 ns.length a1,.slice A2 cs.length a2],.agg (Jn.arr (Jn.sts a.jn.1 a.jn.2.1)),.agg #[.string s,.int .u64 sn,.int .i64 k,.slice us1 l.length us2],.int .i64 0] W fun e w' => RnOut W (T n) e w'):=hid fun W hB =>
  Mc.run_ (x:=(s,sn,k,l)) (us:=.slice us1 l.length us2) (T:=T) (n:=n) (reg:=Jn.sts a.jn.1 a.jn.2.1) (HH.out.pg.quiet hB.upd) HH.out.n8 HH.out.c200 HH.out.kk HH.out.gi hB.inx HH.out.fm HH.out.t0 (HH.out.tr _ W hB.inx hB.upd)
 generalize hct:T n = c at *
 have HCt:=hid hct
 clear hct
 refine wp_region_held_drew (S:=fun W => Tb w W p3 p6 p10 (.slice A1 ns.length a1) (.slice A2 cs.length a2) (s,sn,k,l) (.slice us1 l.length us2)) (by kernel_rfl) (HT.out.quiet (Upd.refl _ _).drew) (fun hS => ?_)
 generalize w6.drew = wa at *
 refine zh 0 hS (fun w hw => At.box2 hw.b3) ?_
 refine zt 1 hS ?_
 refine zt 2 hS ?_
 refine zt 3 hS ?_
 refine zh 4 hS (fun w hw => (HA.out w hw.upd).cells.1) ?_
 refine zh 6 hS (fun w hw => box hw.b10) ?_
 refine zt 7 hS ?_
 refine rg_two 5 12 (by kernel_rfl) ?_ ?_
 focus
  refine zs 5 (fun K hK => ?_)
  go_simp
  refine Calls.mono (HSt.out _ hS.upd) ?_
  rintro e4 W4 ⟨rfl,hu4⟩
  try (have hB':=hB12.upd hu4 (no_ _); have hB12:=hB'; clear hB')
  go_wp2_with (fail)
  refine hK.out _ _ ((by exact hS.quiet hu4)) (fun hS => ?_)
  clear hK K
  try simp only [Act.put,zA,zB,zC]
  refine rg_two 8 12 (by kernel_rfl) ?_ ?_
  focus
   refine zs 8 (fun K hK => ?_)
   go_simp
   refine Calls.mono (HRn.out _ hS) ?_
   rintro e8 W8 ⟨ve,vn,rfl,he8,hn8,hu8⟩
   obtain ⟨Ae,ce,hve,_,_⟩:=he8.shape
   obtain ⟨An,cn,hvn,_,_⟩:=hn8.shape
   subst hve hvn
   have hR:=rv_of he8 hn8 hS.upd.size
   try (have hB':=hB12.upd hu8 (no_ _); have hB12:=hB'; clear hB')
   clear he8 hn8
   go_wp2_with (fail)
   refine hK.out _ _ ((by exact hS.quiet hu8)) (fun hS => ?_)
   clear hK K
   try simp only [Act.put,zA,zB,zC]
   refine zt 9 hS ?_
   refine zt 10 hS ?_
   refine zt 11 hS ?_
   refine zk 12 (fun K hK => ?_)
   go_simp
   refine hK.out _ _ ((by exact hS.quiet ((Upd.refl _ _).alloc _))) (fun hS => ?_)
   clear hK K
   try simp only [Act.put,zA,zB,zC]
   refine rg_world fun Wa hWa => ?_
   have hB12:=Eg.sx_b hWa
   rw [← hWa] at hS
   have hgw:=tb_lo hS hWa
   try (have hR':=hR.quiet (show Upd No _ Wa by rw [hWa]; exact (Upd.refl _ _).alloc _); have hR:=hR'; clear hR')
   clear hWa
   refine zk 13 (fun K hK => ?_)
   refine wp_store_row 259 (.tmp 12) (.tmp 61) (by rfl) _ (rcs c (.slice Ae c.evs.length ce) (.slice An c.snt.length cn)) (by rfl) (by rfl) 259 _ hB12 (by kernel_rfl) (by rfl) (by simp [rcs,Value.oneCell']) ?_
   refine hK.out _ _ ((by exact hS.row hB12 hgw rfl)) (fun hS => ?_)
   clear hK K
   try simp only [Act.put,zA,zB,zC]
   refine rg_world fun W9 hW9 => ?_
   rw [← hW9] at hS
   have hR:=hR.row hB12 hW9
   have hB9:=Eg.sx_row hB12 hW9
   clear hW9 hB12
   refine zt 14 hS ?_
   refine wpAnyH_done (by kernel_rfl) ?_ _
  rotate_left 1
  focus
   refine zs 12 (fun K hK => ?_)
   go_simp
   refine hK.out _ _ ((by exact hS.quiet ((Upd.refl _ _).alloc _))) (fun hS => ?_)
   clear hK K
   try simp only [Act.put,zA,zB,zC]
   refine rg_world fun Wa hWa => ?_
   have hB12:=Eg.sx_b hWa
   rw [← hWa] at hS
   have hgw:=tb_lo hS hWa
   try (have hR':=hR.quiet (show Upd No _ Wa by rw [hWa]; exact (Upd.refl _ _).alloc _); have hR:=hR'; clear hR')
   clear hWa
   refine zk 8 (fun K hK => ?_)
   go_simp
   refine Calls.mono (HRn.out _ hS) ?_
   rintro e8 W8 ⟨ve,vn,rfl,he8,hn8,hu8⟩
   obtain ⟨Ae,ce,hve,_,_⟩:=he8.shape
   obtain ⟨An,cn,hvn,_,_⟩:=hn8.shape
   subst hve hvn
   have hR:=rv_of he8 hn8 hS.upd.size
   try (have hB':=hB12.upd hu8 (no_ _); have hB12:=hB'; clear hB')
   clear he8 hn8
   go_wp2_with (fail)
   refine hK.out _ _ ((by exact hS.quiet hu8)) (fun hS => ?_)
   clear hK K
   try simp only [Act.put,zA,zB,zC]
   refine zt 9 hS ?_
   refine zt 10 hS ?_
   refine zt 11 hS ?_
   refine zk 13 (fun K hK => ?_)
   refine wp_store_row 259 (.tmp 12) (.tmp 61) (by rfl) _ (rcs c (.slice Ae c.evs.length ce) (.slice An c.snt.length cn)) (by rfl) (by rfl) 259 _ hB12 (by kernel_rfl) (by rfl) (by simp [rcs,Value.oneCell']) ?_
   refine hK.out _ _ ((by exact hS.row hB12 hgw rfl)) (fun hS => ?_)
   clear hK K
   try simp only [Act.put,zA,zB,zC]
   refine rg_world fun W9 hW9 => ?_
   rw [← hW9] at hS
   have hR:=hR.row hB12 hW9
   have hB9:=Eg.sx_row hB12 hW9
   clear hW9 hB12
   refine zt 14 hS ?_
   refine wpAnyH_done (by kernel_rfl) ?_ _
 rotate_left 2
 focus
  refine zs 12 (fun K hK => ?_)
  go_simp
  refine hK.out _ _ ((by exact hS.quiet ((Upd.refl _ _).alloc _))) (fun hS => ?_)
  clear hK K
  try simp only [Act.put,zA,zB,zC]
  refine rg_world fun Wa hWa => ?_
  have hB12:=Eg.sx_b hWa
  rw [← hWa] at hS
  have hgw:=tb_lo hS hWa
  try (have hR':=hR.quiet (show Upd No _ Wa by rw [hWa]; exact (Upd.refl _ _).alloc _); have hR:=hR'; clear hR')
  clear hWa
  refine zk 5 (fun K hK => ?_)
  go_simp
  refine Calls.mono (HSt.out _ hS.upd) ?_
  rintro e4 W4 ⟨rfl,hu4⟩
  try (have hB':=hB12.upd hu4 (no_ _); have hB12:=hB'; clear hB')
  go_wp2_with (fail)
  refine hK.out _ _ ((by exact hS.quiet hu4)) (fun hS => ?_)
  clear hK K
  try simp only [Act.put,zA,zB,zC]
  refine zk 8 (fun K hK => ?_)
  go_simp
  refine Calls.mono (HRn.out _ hS) ?_
  rintro e8 W8 ⟨ve,vn,rfl,he8,hn8,hu8⟩
  obtain ⟨Ae,ce,hve,_,_⟩:=he8.shape
  obtain ⟨An,cn,hvn,_,_⟩:=hn8.shape
  subst hve hvn
  have hR:=rv_of he8 hn8 hS.upd.size
  try (have hB':=hB12.upd hu8 (no_ _); have hB12:=hB'; clear hB')
  clear he8 hn8
  go_wp2_with (fail)
  refine hK.out _ _ ((by exact hS.quiet hu8)) (fun hS => ?_)
  clear hK K
  try simp only [Act.put,zA,zB,zC]
  refine zt 9 hS ?_
  refine zt 10 hS ?_
  refine zt 11 hS ?_
  refine zk 13 (fun K hK => ?_)
  refine wp_store_row 259 (.tmp 12) (.tmp 61) (by rfl) _ (rcs c (.slice Ae c.evs.length ce) (.slice An c.snt.length cn)) (by rfl) (by rfl) 259 _ hB12 (by kernel_rfl) (by rfl) (by simp [rcs,Value.oneCell']) ?_
  refine hK.out _ _ ((by exact hS.row hB12 hgw rfl)) (fun hS => ?_)
  clear hK K
  try simp only [Act.put,zA,zB,zC]
  refine rg_world fun W9 hW9 => ?_
  rw [← hW9] at hS
  have hR:=hR.row hB12 hW9
  have hB9:=Eg.sx_row hB12 hW9
  clear hW9 hB12
  refine zt 14 hS ?_
  refine wpAnyH_done (by kernel_rfl) ?_ _
 all_goals
  have hEx:∃ g,g = _ ∧ Blk W9 g 259 (rcs c (.slice Ae c.evs.length ce) (.slice An c.snt.length cn)):=⟨_,rfl,hB9⟩
  obtain ⟨p12,hp12,hB9⟩:=hEx
  rw [← hp12]
  have hg12:w.heap.size ≤ p12:=by rw [hp12]; exact hgw
  have HX9:=hid (And.intro hS (And.intro hR hB9))
  clear hp12
  clear hS hR hB9 HT HSt HRn
  have d2:=(HA.out W9 HX9.out.1.upd).cells.2.2.1
  obtain ⟨Bo,hot,_⟩:=(HA.out W9 HX9.out.1.upd).ot
  have HOe:=hid (Ou.encode hot HH.out.ok.out (by unfold BB; omega) (by have:=(HA.out W9 HX9.out.1.upd).few; omega))
  clear hot
  go_wp2_with (fail)
  refine Calls.mono HOe.out ?_
  rintro e10 W10 ⟨A10,c10,rfl,hl10,hc10,hr10,hu10,_⟩
  have HOd:=hid (Ou.decode (c:=c10) hr10 HH.out.ok.out (by unfold BB; omega))
  have HU10:=hid hu10
  clear hl10 hc10 hr10 hu10 HOe d2
  go_wp2_with (fail)
  refine Calls.mono HOd.out ?_
  rintro e11 W11 ⟨po',Fo,rfl,hot11,hfo11,hu11⟩
  have HSg:=hid (show Sg W10 W11 po' a.out a.out.ser.length from ⟨⟨Fo,hot11,hfo11⟩,hu11⟩)
  have HXq:Hid (∀ W,Upd No W10 W → Tb w W p3 p6 p10 (.slice A1 ns.length a1) (.slice A2 cs.length a2) (s,sn,k,l) (.slice us1 l.length us2) ∧ Rv w W c (.slice Ae c.evs.length ce) (.slice An c.snt.length cn) ∧ Blk W p12 259 (rcs c (.slice Ae c.evs.length ce) (.slice An c.snt.length cn))):=hid fun W hu => ⟨HX9.out.1.quiet (HU10.out.next hu),HX9.out.2.1.quiet (HU10.out.next hu),HX9.out.2.2.upd (HU10.out.next hu) (no_ _)⟩
  have HX11:=hid (HXq.out W11 hu11)
  have HU:=hid (HX9.out.1.upd.next HU10.out)
  have HG12:=hid hg12
  clear hg12
  clear hot11 hfo11 hu11 HOd
  have q9:W11.cell? ⟨p12,9,none⟩ = some (.slice An c.snt.length cn):=HX11.out.2.2.cell 9
  have HOn:=hid (show c.snt.length ≤ 1 ∧ (∀ s ∈ c.snt,Kk s.1) ∧ (c.snt = [] ∨ a.out.ser.length < 64) by rw [← HCt.out]; exact ⟨HH.out.one,HH.out.sk,HH.out.room⟩)
  have hone:=HOn.out.1
  go_wp2_with (fail)
  clear q9
  go_loopw [85] (fun v85 W => ∃ j:Nat,j ≤ c.snt.length ∧ v85 = .int .i64 j ∧ Hid (Sg W10 W po' (sendL a.out (c.snt.take j)) (a.out.ser.length + j)) ∧ (j = 0 ∨ a.out.lst.length < 32)) (fun v85 _ => c.snt.length - (intOf v85).toNat)
  case atStart => exact ⟨0,by omega,rfl,HSg,.inl rfl⟩
  case round =>
   clear HSg
   obtain ⟨j,hj,rfl,HW,hcase⟩:=hrel
   by_cases hlt:j < c.snt.length
   · obtain rfl:j = 0:=by omega
     obtain ⟨s0,hs0⟩:∃ s0,c.snt = [s0]:=by
      rcases hcs:c.snt with _ | ⟨s0,_ | ⟨s1,r1⟩⟩
      · rw [hcs] at hlt; simp at hlt
      · exact ⟨s0,rfl⟩
      · rw [hcs] at hone; simp at hone
     have HS0:=hid hs0
     have hks:=HOn.out.2.1 s0 (by rw [hs0]; simp)
     have hrm:=HOn.out.2.2
     rw [hs0] at hrm
     have hrm2:a.out.ser.length < 64:=hrm.resolve_left (by simp)
     obtain ⟨ad,hAn,x0,x1,x2⟩:=sent0 (HXq.out wr HW.out.upd).2.1.n hs0
     subst hAn
     have HW0:=hid (show Sg W10 wr po' a.out a.out.ser.length from HW.out)
     obtain ⟨to,kd',z⟩:=s0
     simp only at x0 x1 x2
     have hn0:0 < c.snt.length:=hlt
     have hni:(0:Int) < (c.snt.length:Int):=by omega
     by_cases h32:a.out.lst.length < 32
     · have HSd:=hid fun W2 hW2 => sg_send (w:=W10) (W:=wr) (wb:=wr.alloc (.cells #[.string to,.int .i64 kd',.int .i64 z] 264)) (W2:=W2) (po:=po') (g:=wr.heap.size + 1) (m:=a.out) (to:=to) (kd:=kd') (z:=z) HW0.out HH.out.ok.out (by omega) hks h32 hrm2 ((Upd.refl _ _).alloc _) hW2 (by simp)
       clear hs0 hks hrm HW
       go_wp2_with (fail)
       refine Calls.mono (HSd.out _ rfl) ?_
       rintro e12 W12 ⟨s12,rfl,hsg12⟩
       have HN:=hid (show Sg W10 W12 po' (sendL a.out (c.snt.take (0 + 1))) (a.out.ser.length + (0 + 1)) by rw [HS0.out]; exact hsg12)
       clear hsg12 x0 x1 x2 HSd HW0
       go_wp2
       go_roundw
       case rel => exact ⟨0 + 1,by omega,by go_num,HN,.inr h32⟩
       case measure => simp [intOf]; omega
     · have h32':a.out.lst.length = 32:=by have:=HH.out.ok.out.few; omega
       have HSd:=hid fun W2 hW2 => sg_full (w:=W10) (W:=wr) (wb:=wr.alloc (.cells #[.string to,.int .i64 kd',.int .i64 z] 264)) (W2:=W2) (po:=po') (g:=wr.heap.size + 1) (m:=a.out) (to:=to) (kd:=kd') (z:=z) HW0.out HH.out.ok.out hks h32' ((Upd.refl _ _).alloc _) hW2
       have HF:=hid (And.intro h32' hs0)
       clear hs0 hks hrm HW h32 h32'
       go_wp2_with (fail)
       refine Calls.mono (HSd.out _ rfl) ?_
       rintro e12 W12 ⟨rfl,hW12⟩
       have hu12:Upd No W10 W12:=by rw [← hW12]; exact (HW0.out.upd.alloc _).alloc _
       have HB6:=hid (HXq.out W12 hu12).1.b6
       have HU12:=hid (HU.out.next hu12)
       clear hW12 hu12 x0 x1 x2 HSd HW0
       go_wp2_with (refine wpList_store_row rfl 43 (.tmp 6) (.tmp 103) rfl p6 (ocm false 0) rfl rfl 43 _ HB6.out (by kernel_rfl) (by rfl) (by simp [ocm,Value.oneCell']) ?_)
       have hq:=Nd.Blk.row HB6.out (ocm false 0)
       have HUf:=hid (HU12.out.trans (Nd.Upd.setRow (w:=W12) p6 (ocm false 0)) fun i hi e => by have:=HX9.out.1.lo; omega)
       unfold ocm at hq
       have q0:World.cell? _ ⟨p6,0,none⟩ = some _:=hq.cell 0
       have q1:World.cell? _ ⟨p6,1,none⟩ = some _:=hq.cell 1
       have q2:World.cell? _ ⟨p6,2,none⟩ = some _:=hq.cell 2
       have q3:World.cell? _ ⟨p6,3,none⟩ = some _:=hq.cell 3
       have q4:World.cell? _ ⟨p6,4,none⟩ = some _:=hq.cell 4
       clear hq
       exact bodyPost_ret (v:=.tuple #[.agg (ocm false 0),.int .i64 8]) (by simp [results,go_sem,ocm,q0,q1,q2,q3,q4]) rfl (by rw [HCt.out]; exact .inr ⟨by rw [HF.out.2]; simp,HF.out.1,rfl,HUf.out⟩)
   · obtain rfl:j = c.snt.length:=by omega
     have hcs:c.snt = [] ∨ a.out.lst.length < 32:=hcase.imp (fun h => List.eq_nil_of_length_eq_zero h) id
     have HCs:=hid hcs
     have HSf:=HW
     rw [List.take_length] at HSf
     have hph:=Ph.start (HA.out W10 HU.out) (fun k hk => HH.out.at_.lt k hk) HU.out
     have hph1:=hph.quiet HW.out.upd
     have HP1:=hid hph1
     obtain ⟨B5,hib5,hpop5⟩:=aw_pop hph1.aw
     have d1:=hph1.aw.cells.2.1
     rw [HH.out.inb] at hib5
     have HPo:=hid (Ib.pop_some pi (s,sn,k,l) r B5 wr hib5 (by simp only; omega))
     have HPf:=hid hpop5
     clear hcs hcase hph hph1 hib5 hpop5 HW
     go_wp2_with (fail)
     refine Calls.mono HPo.out ?_
     rintro e13 W13 ⟨v13,rfl,_,hib13,hu13,_⟩
     obtain ⟨F13,haw13,hm13⟩:=HPf.out W13 r hib13 hu13
     have hph2:=HP1.out.step haw13 hm13.upd (fun k hk => (hm13.sub k hk).imp id fun h9 => by have:=HSf.out.upd.size; omega)
     obtain ⟨Go,hot,hgo⟩:=HSf.out.ex
     have hot13:Ot W13 Go po' (sendL a.out c.snt) (a.out.ser.length + c.snt.length):=hot.upd hm13.upd fun g hg hf => (by have:=HP1.out.gl g hf; have:=hgo g hg; have:=HU.out.size; omega)
     have hgF:∀ g,Go g → ¬ F13 g:=fun g hg hf => by
      have h1:=hot.lt g hg
      have h2:=hgo g hg
      have h3:=HU.out.size
      rcases hm13.sub g hf with h9 | h9
      · have:=HP1.out.gl g h9; omega
      · omega
     obtain ⟨F14,haw14,hu14,hs14⟩:=aw_set haw13 hot13 hgF (by have:=HH.out.ok.out.many; omega)
     have hph3:=hph2.step haw14 hu14 (fun k hk => (hs14 k hk).imp id fun h9 => hgo k h9)
     obtain ⟨C13,hb13,_⟩:=Ac.Star.get haw13.st 0 rfl
     have c2:=haw13.cells.2.2.1
     have c3:=haw13.cells.2.2.2.1
     have f2:=hb13.1.free 2
     have f3:=hb13.1.free 3
     have HP3:=hid hph3
     clear hib13 hu13 haw13 hm13 hph2 hot hgo hot13 hgF haw14 hu14 hs14 hph3 hb13 HPf HPo d1
     go_wp2_with (fail)
     clear c2 c3 f2 f3
     generalize ((W13.setCell ⟨pa,2,none⟩ (.pointer (some ⟨po',0,none⟩))).setCell ⟨pa,3,none⟩ (.int .i64 0)) = W14 at *
     have HP4:=hid (HP3.out.quiet (Upd.refl _ _).drew)
     clear HP3
     obtain ⟨B15,hjd15,hput15⟩:=aw_add HP4.out.aw
     have hx10:=HXq.out W10 (Upd.refl _ _)
     have hb12:=HP4.out.blk hx10.2.2 HG12.out
     have he14:Sl W14.drew w.heap.size 160 2 (.slice Ae c.evs.length ce) c.evs.length (Jn.ecs c.evs):=hx10.2.1.e.upd HP4.out.upd fun g hg hf => by
      have h1:=HP4.out.gl g hf
      have h2:=(hx10.2.1.e.lt g hg).1
      omega
     have HAd:=hid (Jn.add (c:=ce) hjd15 HH.out.ok.jo HH.out.ok.j16 he14.rd (by have:=HH.out.ev; rw [HCt.out] at this; omega))
     have HPu:=hid hput15
     have p0:=HP4.out.aw.cells.1
     have q8:W14.drew.cell? ⟨p12,8,none⟩ = some (.slice Ae c.evs.length ce):=hb12.cell 8
     clear hjd15 hput15 hx10 hb12 he14
     refine wp_region_held_drew (S:=fun W => W.cell? ⟨pa,0,none⟩ = some (.pointer (some ⟨pj,0,none⟩)) ∧ W.cell? ⟨p12,8,none⟩ = some (.slice Ae c.evs.length ce)) (by kernel_rfl) ⟨p0,q8⟩ (fun hS => ?_)
     generalize W14.drew = W15 at *
     refine zt 0 hS ?_
     refine zt 1 hS ?_
     refine zt 2 hS ?_
     refine zh 3 hS (fun w hw => hw.1) ?_
     refine zt 4 hS ?_
     refine zh 5 hS (fun w hw => hw.2) ?_
     refine zk 6 (fun K hK => ?_)
     go_simp
     refine Calls.mono HAd.out ?_
     rintro e16 W16 ⟨rfl,F16,hjd16,hm16⟩
     obtain ⟨F17,haw17,hm17⟩:=HPu.out W16 F16 _ hjd16 hm16
     have hph5:=HP4.out.step haw17 hm17.upd (fun k hk => (hm17.sub k hk).imp id fun h9 => by have:=HP4.out.upd.size; omega)
     have hx10:=HXq.out W10 (Upd.refl _ _)
     have hb12:=hph5.blk hx10.2.2 HG12.out
     go_wp2_with (fail)
     refine hK.out _ _ ((by exact ⟨haw17.cells.1,hb12.cell 8⟩)) (fun hS => ?_)
     clear hK K
     try simp only [Act.put,zA,zB,zC]
     refine wpAnyH_done (by kernel_rfl) ?_ _
     have HP5:=hid hph5
     have q11:W16.cell? ⟨p12,11,none⟩ = some (.int .i64 c.steps):=hb12.cell 11
     have q10:W16.cell? ⟨p12,10,none⟩ = some (.slice none 0 0):=hb12.cell 10
     have HB6:=hid (hph5.blk hx10.1.b6 hx10.1.lo)
     have HFn:=hid (hph5.fin hx10.1.b6 hx10.1.lo (cs:=ocm true c.steps))
     clear hjd16 hm16 haw17 hm17 hph5 hx10 hb12 hS p0 q8
     go_wp2_with (refine wpList_store_row rfl 43 (.tmp 6) (.tmp 128) rfl p6 (ocm true c.steps) rfl rfl 43 _ HB6.out (by kernel_rfl) (by rfl) (by simp [ocm,Value.oneCell']) ?_)
     have hq:=HFn.out.2.2
     unfold ocm at hq
     have q0:World.cell? _ ⟨p6,0,none⟩ = some _:=hq.cell 0
     have q1:World.cell? _ ⟨p6,1,none⟩ = some _:=hq.cell 1
     have q2:World.cell? _ ⟨p6,2,none⟩ = some _:=hq.cell 2
     have q3:World.cell? _ ⟨p6,3,none⟩ = some _:=hq.cell 3
     have q4:World.cell? _ ⟨p6,4,none⟩ = some _:=hq.cell 4
     clear hq q10 q11
     exact bodyPost_ret (v:=.tuple #[.agg (ocm true c.steps),.int .i64 0]) (by simp [results,go_sem,ocm,q0,q1,q2,q3,q4]) rfl (by rw [HCt.out]; exact .inl ⟨HCs.out,rfl,F17,by have:=HFn.out.1; unfold tkn; rw [HH.out.inb]; exact this,HFn.out.2.1⟩)
end Tu
end
