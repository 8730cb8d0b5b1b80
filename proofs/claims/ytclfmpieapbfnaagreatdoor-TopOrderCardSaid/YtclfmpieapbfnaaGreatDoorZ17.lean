/- Part 17: lemmas, no conditions. -/
import Derived.Test.YtclfmpieapbfnaaGreatDoorZ16
import Derived.Test.YtclfmpieapbfnaaGreatDoorZ09
set_option maxHeartbeats 4000000
set_option linter.unusedVariables false
set_option linter.unusedSimpArgs false
section
namespace Go.Proofs.YtclfmpieapbfnaaGreatDoor.Mc
open Go.RowKit B Lt
theorem start_ {w0 W:World} {p:Nat} {v:Env} {c:Mst} (h:Mo w0 W p v c) (op arg:Int):∃ w1 pb vs ve vn,w1 = W.alloc (.cells #[.int .i64 op,.int .i64 arg] 33) ∧ pb = W.heap.size ∧ Blk w1 pb 33 #[.int .i64 op,.int .i64 arg] ∧ Mx w0 w1 p v c vs ve vn ∧ pb ≠ p ∧ pb + 1 = w1.heap.size:=by
 obtain ⟨vs,ve,vn,h⟩:=h
 have hl:=h.blk.lt
 exact ⟨_,_,vs,ve,vn,rfl,rfl,Blk.fresh _ _ _,h.quiet ((Upd.refl _ _).alloc _),by omega,by simp⟩
set_option maxRecDepth 100000 in
theorem op5 {w0 W:World} {p:Nat} {v:Env} {c:Mst} (h:Mo w0 W p v c) (hl:c.st.length < 16) (arg:Int) :
 Calls Tryz.prog 194 #[.pointer (some ⟨p,0,none⟩),.agg #[.int .i64 5,.int .i64 arg]] W fun e w' => PuOut w0 p v { c with st:=c.st ++ [v.x.2.2.1] } e w':=by
 obtain ⟨w1,pb,vs,ve,vn,hw1,hpb,hb,h1,hne,hsz⟩:=start_ h 5 arg
 obtain ⟨d0,d1⟩:=Jn.box2 hb
 have c3:=(mcells h1.blk).1.2.2.2.1
 have c4:=(mcells h1.blk).1.2.2.2.2.1
 have HM:=hid (show Mo w0 w1 p v c from ⟨_,_,_,h1⟩)
 have HSz:=hid hsz
 clear hsz
 have HL:=hid hl
 clear h h1 hb hl hne
 simp only [hw1,hpb] at c3 c4 d0 d1
 have HW1:=hid hw1
 have HPb:=hid hpb
 clear hw1 hpb
 go_enter Tryz.func194,Tryz.ntmps194
 go_wp2_with (fail)
 try rw [← HW1.out]
 try rw [← HPb.out]
 clear HW1 HPb d0 d1
 refine Calls.mono (push1_ HM.out HL.out _ HSz.out rfl) ?_
 rintro e w2 ⟨rfl,h2⟩
 have H2:=hid h2
 clear h2
 go_wp2
 go_end0
 exact .of ⟨rfl,H2.out⟩
set_option maxRecDepth 100000 in
theorem op1 {w0 W:World} {p:Nat} {v:Env} {c:Mst} (h:Mo w0 W p v c) (hl:c.st.length < 16) (arg:Int) :
 Calls Tryz.prog 194 #[.pointer (some ⟨p,0,none⟩),.agg #[.int .i64 1,.int .i64 arg]] W fun e w' => PuOut w0 p v { c with st:=c.st ++ [arg] } e w':=by
 obtain ⟨w1,pb,vs,ve,vn,hw1,hpb,hb,h1,hne,hsz⟩:=start_ h 1 arg
 obtain ⟨d0,d1⟩:=Jn.box2 hb
 have HM:=hid (show Mo w0 w1 p v c from ⟨_,_,_,h1⟩)
 have HSz:=hid hsz
 clear hsz
 have HL:=hid hl
 clear h h1 hb hl hne
 simp only [hw1,hpb] at d0 d1
 have HW1:=hid hw1
 have HPb:=hid hpb
 clear hw1 hpb
 go_enter Tryz.func194,Tryz.ntmps194
 go_wp2_with (fail)
 try rw [← HW1.out]
 try rw [← HPb.out]
 clear HW1 HPb d0 d1
 refine Calls.mono (push1_ HM.out HL.out _ HSz.out rfl) ?_
 rintro e w2 ⟨rfl,h2⟩
 have H2:=hid h2
 clear h2
 go_wp2
 go_end0
 exact .of ⟨rfl,H2.out⟩
set_option maxRecDepth 100000 in
theorem op23 {w0 W:World} {p:Nat} {v:Env} {c:Mst} (h:Mo w0 W p v c) (hl:c.st.length < 16) (arg:Int) (hs:0 ≤ v.x.2.1 ∧ v.x.2.1 ≤ 1000) :
 Calls Tryz.prog 194 #[.pointer (some ⟨p,0,none⟩),.agg #[.int .i64 23,.int .i64 arg]] W fun e w' => PuOut w0 p v { c with st:=c.st ++ [v.x.2.1] } e w':=by
 obtain ⟨w1,pb,vs,ve,vn,hw1,hpb,hb,h1,hne,hsz⟩:=start_ h 23 arg
 obtain ⟨d0,d1⟩:=Jn.box2 hb
 have c3:=(mcells h1.blk).1.2.2.2.1
 have c4:=(mcells h1.blk).1.2.2.2.2.1
 have HM:=hid (show Mo w0 w1 p v c from ⟨_,_,_,h1⟩)
 have HSz:=hid hsz
 clear hsz
 have HL:=hid hl
 have hwr:IntKind.i64.wrap v.x.2.1 = v.x.2.1:=IntWalk.i64_in _ (by omega)
 clear h h1 hb hl hne hs
 simp only [hw1,hpb] at c3 c4 d0 d1
 have HW1:=hid hw1
 have HPb:=hid hpb
 clear hw1 hpb
 go_enter Tryz.func194,Tryz.ntmps194
 go_wp2_with (fail)
 try rw [← HW1.out]
 try rw [← HPb.out]
 clear HW1 HPb d0 d1
 refine Calls.mono (push1_ HM.out HL.out _ HSz.out rfl) ?_
 rintro e w2 ⟨rfl,h2⟩
 have H2:=hid h2
 clear h2
 go_wp2
 go_end0
 exact .of ⟨rfl,H2.out⟩
set_option maxRecDepth 100000 in
theorem op15 {w0 W:World} {p:Nat} {v:Env} {c:Mst} (h:Mo w0 W p v c) (arg:Int) :
 Calls Tryz.prog 194 #[.pointer (some ⟨p,0,none⟩),.agg #[.int .i64 15,.int .i64 arg]] W fun e w' => PuOut w0 p v { c with at_:=arg } e w':=by
 obtain ⟨w1,pb,vs,ve,vn,hw1,hpb,hb,h1,hne,hsz⟩:=start_ h 15 arg
 clear hsz
 obtain ⟨d0,d1⟩:=Jn.box2 hb
 have c7:=(mcells h1.blk).2.1.1
 have f7:=h1.blk.free 7
 have HE:=hid (show Mo w0 (w1.setCell ⟨p,7,none⟩ (.int .i64 arg)) p v { c with at_:=arg } from ⟨_,_,_,h1.set (c':={ c with at_:=arg }) 7 _ rfl h1.hs h1.he h1.hn⟩)
 clear h h1 hb hne
 simp only [hw1,hpb] at c7 f7 d0 d1
 have HW1:=hid hw1
 have HPb:=hid hpb
 clear hw1 hpb
 go_enter Tryz.func194,Tryz.ntmps194
 go_wp2_with (fail)
 go_end0
 rw [HW1.out] at HE
 exact .of ⟨rfl,HE.out⟩
set_option maxRecDepth 100000 in
theorem op16 {w0 W:World} {p:Nat} {v:Env} {c:Mst} (h:Mo w0 W p v c) {st:List Int} {x:Int} (hst:c.st = st ++ [x]) (hl:st.length < 16) (arg:Int) :
 Calls Tryz.prog 194 #[.pointer (some ⟨p,0,none⟩),.agg #[.int .i64 16,.int .i64 arg]] W fun e w' => PuOut w0 p v { c with st:=st,at_:=if x = 0 then arg else c.at_ } e w':=by
 obtain ⟨w1,pb,vs,ve,vn,hw1,hpb,hb,h1,hne,hsz⟩:=start_ h 16 arg
 clear hsz
 obtain ⟨d0,d1⟩:=Jn.box2 hb
 have HP:=hid (pop_ (show Mo w0 w1 p v c from ⟨_,_,_,h1⟩) hst hl)
 have HB:=hid (And.intro hb hne)
 clear h h1 hb hne hst hl
 by_cases hx:x = 0
 case' pos =>
  subst hx
  rw [if_pos rfl]
 case' neg =>
  rw [if_neg hx]
  have hx2:(x == 0) = false:=by simpa using hx
  clear hx
 all_goals
  simp only [hw1,hpb] at d0 d1
  have HW1:=hid hw1
  have HPb:=hid hpb
  clear hw1 hpb
  go_enter Tryz.func194,Tryz.ntmps194
  go_wp2_with (fail)
  try rw [← HW1.out]
  try rw [← HPb.out]
  try go_wp2_with (fail)
  refine HP.out.mono ?_
  rintro e w2 ⟨rfl,⟨vs2,ve2,vn2,h2⟩,hu2⟩
  have c7:=(mcells h2.blk).2.1.1
  have c21:=(mcells h2.blk).2.1.2.2.2.2.2.2.1
  obtain ⟨e0,e1⟩:=Jn.box2 (HB.out.1.upd hu2 HB.out.2)
  have f7:=h2.blk.free 7
  have H2:=hid h2
  clear h2 hu2 HP d0 d1 HB
 · go_wp2
   go_end0
   exact .of ⟨rfl,_,_,_,H2.out⟩
 · have HE:=hid (show Mo w0 (w2.setCell ⟨p,7,none⟩ (.int .i64 arg)) p v { c with st:=st,at_:=arg } from ⟨_,_,_,H2.out.set (c':={ c with st:=st,at_:=arg }) 7 _ rfl H2.out.hs H2.out.he H2.out.hn⟩)
   go_wp2
   go_end0
   exact .of ⟨rfl,HE.out⟩
set_option maxRecDepth 100000 in
theorem op4 {w0 W:World} {p:Nat} {v:Env} {c:Mst} (h:Mo w0 W p v c) (hl:c.st.length < 16) {ad:Addr} {cap:Nat} {z:Int} (hv:v.u = .slice (some ad) 1 cap) (hz:∀ W,Upd No w0 W → W.cell? ad = some (.int .i64 z)) :
 Calls Tryz.prog 194 #[.pointer (some ⟨p,0,none⟩),.agg #[.int .i64 4,.int .i64 0]] W fun e w' => PuOut w0 p v { c with st:=c.st ++ [z] } e w':=by
 obtain ⟨w1,pb,vs,ve,vn,hw1,hpb,hb,h1,hne,hsz⟩:=start_ h 4 0
 obtain ⟨d0,d1⟩:=Jn.box2 hb
 have HM:=hid (show Mo w0 w1 p v c from ⟨_,_,_,h1⟩)
 have HSz:=hid hsz
 clear hsz
 have HX:=hid (And.intro hb h1)
 have HZ:=hid (hz w1 h1.upd)
 have HV:=hid hv
 have HL:=hid hl
 clear h h1 hb hl hne hv hz
 simp only [hw1,hpb] at d0 d1
 have HW1:=hid hw1
 have HPb:=hid hpb
 clear hw1 hpb
 go_enter Tryz.func194,Tryz.ntmps194
 go_wp2_with (fail)
 try rw [← HW1.out]
 try rw [← HPb.out]
 try go_wp2_with (fail)
 have c5:=(mcells HX.out.2.blk).1.2.2.2.2.2.1
 rw [HV.out] at c5
 refine wp_region_held_drew (S:=fun W => W.cell? ⟨pb,1,none⟩ = some (.int .i64 0) ∧ W.cell? ⟨p,5,none⟩ = some (.slice (some ad) 1 cap) ∧ W.cell? ad = some (.int .i64 z)) (by kernel_rfl) ⟨(Jn.box2 HX.out.1).2,c5,HZ.out⟩ (fun hS => ?_)
 refine zt 0 hS ?_
 refine zh 1 hS (fun w hw => hw.1) ?_
 refine zt 2 hS ?_
 refine zt 3 hS ?_
 refine zt 4 hS ?_
 refine zt 5 hS ?_
 refine zh 6 hS (fun w hw => hw.2.1) ?_
 refine zt 7 hS ?_
 refine zt 8 hS ?_
 refine wpAnyH_done (by kernel_rfl) ?_ _
 go_wp2_with (fail)
 refine wp_region_held_drew (S:=fun W => W.cell? ⟨pb,1,none⟩ = some (.int .i64 0) ∧ W.cell? ⟨p,5,none⟩ = some (.slice (some ad) 1 cap) ∧ W.cell? ad = some (.int .i64 z)) (by kernel_rfl) hS (fun hS => ?_)
 refine zt 0 hS ?_
 refine zt 1 hS ?_
 refine zt 2 hS ?_
 refine zt 3 hS ?_
 refine zh 4 hS (fun w hw => hw.2.1) ?_
 refine zt 5 hS ?_
 refine zh 6 hS (fun w hw => hw.1) ?_
 refine zt 7 hS ?_
 refine zh 8 hS (fun w hw => hw.2.2) ?_
 refine zt 9 hS ?_
 refine wpAnyH_done (by kernel_rfl) ?_ _
 go_wp2_with (fail)
 refine Calls.mono (push1_ (HM.out.quiet (Upd.refl _ _).drew.drew) HL.out _ rfl rfl) ?_
 rintro e w2 ⟨rfl,h2⟩
 have H2:=hid h2
 clear h2
 go_wp2
 go_end0
 exact .of ⟨rfl,H2.out⟩
theorem ev_info:(Tryz.prog.info? 160).map (fun i => (i.zero,i.size,i.bytes)) = some (some (.agg #[.int .i64 0,.int .i64 0]),2,16):=by kernel_rfl
set_option maxRecDepth 100000 in
theorem op3 {w0 W:World} {p:Nat} {v:Env} {c:Mst} (h:Mo w0 W p v c) {st:List Int} {x:Int} (hst:c.st = st ++ [x]) (hl:st.length < 16) (hb8:c.reg.length = 8) (he:c.evs.length ≤ 100) :
 Calls Tryz.prog 194 #[.pointer (some ⟨p,0,none⟩),.agg #[.int .i64 3,.int .i64 1]] W fun e w' => PuOut w0 p v { c with st:=st,reg:=c.reg.set 1 x,evs:=c.evs ++ [(1,x)] } e w':=by
 obtain ⟨w1,pb,vs,ve,vn,hw1,hpb,hb,h1,hne,hsz⟩:=start_ h 3 1
 clear hsz
 obtain ⟨d0,d1⟩:=Jn.box2 hb
 have HP:=hid (pop_ (show Mo w0 w1 p v c from ⟨_,_,_,h1⟩) hst hl)
 have HB:=hid (And.intro hb hne)
 have HL:=hid (And.intro hb8 he)
 clear h h1 hb hne hst hl hb8 he
 simp only [hw1,hpb] at d0 d1
 have HW1:=hid hw1
 have HPb:=hid hpb
 clear hw1 hpb
 go_enter Tryz.func194,Tryz.ntmps194
 go_wp2_with (fail)
 try rw [← HW1.out]
 try rw [← HPb.out]
 try go_wp2_with (fail)
 refine HP.out.mono ?_
 rintro e w2 ⟨rfl,⟨vs2,ve2,vn2,h2⟩,hu2⟩
 have c21:=(mcells h2.blk).2.1.2.2.2.2.2.2.1
 have H2:=hid (And.intro h2.drew (And.intro (HB.out.1.upd hu2 HB.out.2).drew HB.out.2))
 clear h2 hu2 HP d0 d1 HB
 go_wp2_with (fail)
 clear c21
 refine wp_region_held_drew (S:=fun _ => True) (by kernel_rfl) trivial (fun hS => ?_)
 generalize w2.drew = wz at *
 have hset:(mcs v { c with st:=st } vs2 ve2 vn2).setIfInBounds 10 (.int .i64 x) = mcs v { c with st:=st,reg:=c.reg.set 1 x } vs2 ve2 vn2:=by
  have hb:=HL.out.1
  unfold mcs
  simp only [Jn.gi_set _ _ _ _ hb (show 1 < 8 by omega)]
  rfl
 have HE3:=hid (H2.out.1.set (c':={ c with st:=st,reg:=c.reg.set 1 x }) 10 _ hset H2.out.1.hs H2.out.1.he H2.out.1.hn)
 have HB3:=hid (And.intro (H2.out.2.1.far (p:=⟨p,10,none⟩) H2.out.2.2 (.int .i64 x)) H2.out.2.2)
 have e1:=(Jn.box2 H2.out.2.1).2
 have c10:=(mcells H2.out.1.blk).2.2.2.1
 have f10:=H2.out.1.blk.free 10
 clear hset H2
 refine zt 0 hS ?_
 refine zt 1 hS ?_
 refine zt 3 hS ?_
 refine zt 4 hS ?_
 refine zt 5 hS ?_
 refine zt 6 hS ?_
 refine zk 2 (fun K hK => ?_)
 go_simp
 refine hK.out _ _ (trivial) (fun hS => ?_)
 clear hK K
 try simp only [Act.put,zA,zB,zC]
 refine zt 7 hS ?_
 refine zk 8 (fun K hK => ?_)
 go_simp
 refine hK.out _ _ (trivial) (fun hS => ?_)
 clear hK K
 try simp only [Act.put,zA,zB,zC]
 refine wpAnyH_done (by kernel_rfl) ?_ _
 clear e1 c10 f10 hS
 generalize wz.setCell ⟨p,10,none⟩ (.int .i64 x) = w3 at *
 go_wp2_with (fail)
 refine wp_region_held_drew (S:=fun _ => True) (by kernel_rfl) trivial (fun hS => ?_)
 have HE4:=hid HE3.out.drew
 have HB4:=hid (And.intro HB3.out.1.drew HB3.out.2)
 clear HE3 HB3
 generalize w3.drew = w4 at *
 obtain ⟨Ae,ce,hve,hce,hme⟩:=HE4.out.he.shape
 simp only at hve
 subst hve
 have e1:=(Jn.box2 HB4.out.1).2
 have c17:=(mcells HE4.out.blk).2.1.2.2.1
 have c17a:∀ o,(w4.alloc o).cell? ⟨p,17,none⟩ = some (.slice Ae c.evs.length ce):=fun o => (mcells (HE4.out.blk.alloc o)).2.1.2.2.1
 have hzl:=HE4.out.upd.size
 have HZ:=hid hzl
 have hle:c.evs.length ≤ 100:=HL.out.2
 clear hce hme hzl
 refine zt 0 hS ?_
 refine zt 1 hS ?_
 refine zt 2 hS ?_
 refine zt 3 hS ?_
 refine zt 4 hS ?_
 refine zt 6 hS ?_
 refine zt 8 hS ?_
 refine rg_two 5 7 (by kernel_rfl) ?_ ?_
 focus
  refine zs 5 (fun K hK => ?_)
  go_simp
  refine hK.out _ _ (trivial) (fun hS => ?_)
  clear hK K
  try simp only [Act.put,zA,zB,zC]
  refine zk 7 (fun K hK => ?_)
  go_simp
  refine hK.out _ _ (trivial) (fun hS => ?_)
  clear hK K
  try simp only [Act.put,zA,zB,zC]
  refine zt 9 hS ?_
  refine zk 10 (fun K hK => ?_)
  go_simp
  refine hK.out _ _ (trivial) (fun hS => ?_)
  clear hK K
  try simp only [Act.put,zA,zB,zC]
  refine zk 11 (fun K hK => ?_)
  refine wp_ap_sl w0.heap.size (.tmp 62) (.tmp 67) 156 160 (.agg #[.int .i64 0,.int .i64 0]) 2 16 (by rfl) Tryz.underlying156 ev_info rfl (by omega) (.slice Ae c.evs.length ce) c.evs.length (Jn.ecs c.evs) (some ⟨w4.heap.size,0,none⟩) 1 1 (Jn.ec (1,x)) (by rfl) (by rfl) ((HE4.out.quiet ((Upd.refl _ _).alloc _)).he) (Rd_lit w4 _ 2 1 (Jn.ec (1,x)) rfl) (by simp [Jn.ec,Value.oneCell']) (by omega) (by omega) (by have:=HZ.out; simp; omega) ?_
  intro A5 c5 w5 ho5 hu5 hat5
  have HE5:=hid (HE4.out.quiet ((Upd.refl _ _).alloc (.cells #[.int .i64 1,.int .i64 x] 160)))
  have HE6:=hid (HE5.out.events (es:=c.evs ++ [(1,x)]) hu5 (by rw [List.length_append,Jn.ecs_append]; exact ho5))
  have b5:=HE5.out.blk.upd hu5 (fun e => HE5.out.vp.2.1 e)
  have e17:=(mcells b5).2.1.2.2.1
  have f17:=b5.free 17
  clear ho5 hu5 hat5 b5
  refine hK.out _ _ (trivial) (fun hS => ?_)
  clear hK K
  try simp only [Act.put,zA,zB,zC]
  refine zt 12 hS ?_
  refine zt 13 hS ?_
  refine zt 14 hS ?_
  refine zk 15 (fun K hK => ?_)
  go_simp
  refine hK.out _ _ (trivial) (fun hS => ?_)
  clear hK K
  try simp only [Act.put,zA,zB,zC]
  refine wpAnyH_done (by kernel_rfl) ?_ _
 rotate_left 1
 focus
  refine zs 7 (fun K hK => ?_)
  go_simp
  refine hK.out _ _ (trivial) (fun hS => ?_)
  clear hK K
  try simp only [Act.put,zA,zB,zC]
  refine zt 9 hS ?_
  refine rg_two 5 10 (by kernel_rfl) ?_ ?_
  focus
   refine zs 5 (fun K hK => ?_)
   go_simp
   refine hK.out _ _ (trivial) (fun hS => ?_)
   clear hK K
   try simp only [Act.put,zA,zB,zC]
   refine zk 10 (fun K hK => ?_)
   go_simp
   refine hK.out _ _ (trivial) (fun hS => ?_)
   clear hK K
   try simp only [Act.put,zA,zB,zC]
   refine zk 11 (fun K hK => ?_)
   refine wp_ap_sl w0.heap.size (.tmp 62) (.tmp 67) 156 160 (.agg #[.int .i64 0,.int .i64 0]) 2 16 (by rfl) Tryz.underlying156 ev_info rfl (by omega) (.slice Ae c.evs.length ce) c.evs.length (Jn.ecs c.evs) (some ⟨w4.heap.size,0,none⟩) 1 1 (Jn.ec (1,x)) (by rfl) (by rfl) ((HE4.out.quiet ((Upd.refl _ _).alloc _)).he) (Rd_lit w4 _ 2 1 (Jn.ec (1,x)) rfl) (by simp [Jn.ec,Value.oneCell']) (by omega) (by omega) (by have:=HZ.out; simp; omega) ?_
   intro A5 c5 w5 ho5 hu5 hat5
   have HE5:=hid (HE4.out.quiet ((Upd.refl _ _).alloc (.cells #[.int .i64 1,.int .i64 x] 160)))
   have HE6:=hid (HE5.out.events (es:=c.evs ++ [(1,x)]) hu5 (by rw [List.length_append,Jn.ecs_append]; exact ho5))
   have b5:=HE5.out.blk.upd hu5 (fun e => HE5.out.vp.2.1 e)
   have e17:=(mcells b5).2.1.2.2.1
   have f17:=b5.free 17
   clear ho5 hu5 hat5 b5
   refine hK.out _ _ (trivial) (fun hS => ?_)
   clear hK K
   try simp only [Act.put,zA,zB,zC]
   refine zt 12 hS ?_
   refine zt 13 hS ?_
   refine zt 14 hS ?_
   refine zk 15 (fun K hK => ?_)
   go_simp
   refine hK.out _ _ (trivial) (fun hS => ?_)
   clear hK K
   try simp only [Act.put,zA,zB,zC]
   refine wpAnyH_done (by kernel_rfl) ?_ _
  rotate_left 1
  focus
   refine zs 10 (fun K hK => ?_)
   go_simp
   refine hK.out _ _ (trivial) (fun hS => ?_)
   clear hK K
   try simp only [Act.put,zA,zB,zC]
   refine zk 5 (fun K hK => ?_)
   go_simp
   refine hK.out _ _ (trivial) (fun hS => ?_)
   clear hK K
   try simp only [Act.put,zA,zB,zC]
   refine zk 11 (fun K hK => ?_)
   refine wp_ap_sl w0.heap.size (.tmp 62) (.tmp 67) 156 160 (.agg #[.int .i64 0,.int .i64 0]) 2 16 (by rfl) Tryz.underlying156 ev_info rfl (by omega) (.slice Ae c.evs.length ce) c.evs.length (Jn.ecs c.evs) (some ⟨w4.heap.size,0,none⟩) 1 1 (Jn.ec (1,x)) (by rfl) (by rfl) ((HE4.out.quiet ((Upd.refl _ _).alloc _)).he) (Rd_lit w4 _ 2 1 (Jn.ec (1,x)) rfl) (by simp [Jn.ec,Value.oneCell']) (by omega) (by omega) (by have:=HZ.out; simp; omega) ?_
   intro A5 c5 w5 ho5 hu5 hat5
   have HE5:=hid (HE4.out.quiet ((Upd.refl _ _).alloc (.cells #[.int .i64 1,.int .i64 x] 160)))
   have HE6:=hid (HE5.out.events (es:=c.evs ++ [(1,x)]) hu5 (by rw [List.length_append,Jn.ecs_append]; exact ho5))
   have b5:=HE5.out.blk.upd hu5 (fun e => HE5.out.vp.2.1 e)
   have e17:=(mcells b5).2.1.2.2.1
   have f17:=b5.free 17
   clear ho5 hu5 hat5 b5
   refine hK.out _ _ (trivial) (fun hS => ?_)
   clear hK K
   try simp only [Act.put,zA,zB,zC]
   refine zt 12 hS ?_
   refine zt 13 hS ?_
   refine zt 14 hS ?_
   refine zk 15 (fun K hK => ?_)
   go_simp
   refine hK.out _ _ (trivial) (fun hS => ?_)
   clear hK K
   try simp only [Act.put,zA,zB,zC]
   refine wpAnyH_done (by kernel_rfl) ?_ _
 all_goals
  go_wp2
  go_end0
  exact .of ⟨rfl,_,_,_,HE6.out⟩
theorem se_info:(Tryz.prog.info? 264).map (fun i => (i.zero,i.size,i.bytes)) = some (some (.agg #[.string ⟨#[]⟩,.int .i64 0,.int .i64 0]),3,32):=by kernel_rfl
set_option maxRecDepth 100000 in
theorem out17 {w0 W:World} {p:Nat} {v:Env} {c:Mst} (h:Mo w0 W p v c) {st:List Int} {k a:Int} (hst:c.st = st ++ [k,a]) (hl:st.length < 14) (hn:c.snt.length < 4) {ad:Addr} {n cap:Nat} {to:ByteArray} (hv:v.vN = .slice (some ad) n cap) (hn0:0 < n) (hz:∀ W,Upd No w0 W → W.cell? ad = some (.string to)) (hto:to.toList.isEmpty = false) :
 Calls Tryz.prog 250 #[.pointer (some ⟨p,0,none⟩),.agg #[.int .i64 17,.int .i64 0]] W fun e w' => PuOut w0 p v { c with st:=st,snt:=c.snt ++ [(to,k,a)] } e w':=by
 obtain ⟨w1,pb,vs,ve,vn,hw1,hpb,hb,h1,hne,hsz⟩:=start_ h 17 0
 obtain ⟨d0,d1⟩:=Jn.box2 hb
 have HP:=hid (two_ (show Mo w0 w1 p v c from ⟨_,_,_,h1⟩) hst hl)
 have HB:=hid (And.intro hb hne)
 have HV:=hid (And.intro hv hz)
 have hn4:¬ (4:Int) ≤ (c.snt.length:Int):=by omega
 have hn1:(0:Int) < (n:Int):=by omega
 simp only [hw1,hpb] at d0 d1
 have HW1:=hid hw1
 have HPb:=hid hpb
 clear h h1 hb hne hst hl hv hz hsz hw1 hpb hn
 go_enter Tryz.func250,Tryz.ntmps250
 go_wp2_with (fail)
 try rw [← HW1.out]
 try rw [← HPb.out]
 clear HW1 HPb
 refine HP.out.mono ?_
 rintro e w2 ⟨rfl,⟨vs2,ve2,vn2,h2⟩,hu2⟩
 have c2:=(mcells h2.blk).1.2.2.1
 have c0:=(mcells h2.blk).1.1
 rw [HV.out.1] at c0
 obtain ⟨e0,e1⟩:=Jn.box2 (HB.out.1.upd hu2 HB.out.2)
 have hz2:=HV.out.2 w2 h2.upd
 have H2:=hid h2
 clear h2 hu2 HP d0 d1 HB
 go_wp2_with (fail)
 refine wp_region_held_drew (S:=fun W => W.cell? ⟨pb,1,none⟩ = some (.int .i64 0) ∧ W.cell? ⟨p,0,none⟩ = some (.slice (some ad) n cap) ∧ W.cell? ad = some (.string to)) (by kernel_rfl) ⟨e1,c0,hz2⟩ (fun hS => ?_)
 refine zt 0 hS ?_
 refine zt 1 hS ?_
 refine zt 2 hS ?_
 refine zt 3 hS ?_
 refine zh 4 hS (fun w hw => hw.2.1) ?_
 refine zt 5 hS ?_
 refine zh 6 hS (fun w hw => hw.1) ?_
 refine zt 7 hS ?_
 refine zh 8 hS (fun w hw => hw.2.2) ?_
 refine zt 9 hS ?_
 refine wpAnyH_done (by kernel_rfl) ?_ _
 have H3:=hid H2.out.drew
 clear hS c2 c0 e0 e1 hz2 H2
 generalize w2.drew = w3 at *
 obtain ⟨An,cn,hvn,_,_⟩:=H3.out.hn.shape
 simp only at hvn
 subst hvn
 have c18:=(mcells H3.out.blk).2.1.2.2.2.1
 have hdc:decide ((4:Int) ≤ (c.snt.length:Int)) = false:=decide_eq_false (by omega)
 have HRf:=hid (refuse_ (show Mo w0 w3 p v { c with st:=st } from ⟨_,_,_,H3.out⟩))
 have HRg:Hid (Calls Tryz.prog 249 #[.pointer (some ⟨p,0,none⟩),.bool (decide ((4:Int) ≤ (c.snt.length:Int)))] w3 fun e w' => e = .returned (.bool false) ∧ w3 = w'):=hid (by rw [hdc]; exact HRf.out)
 clear hdc HRf
 go_wp2_with (fail)
 refine HRg.out.mono ?_
 rintro e w4 ⟨rfl,rfl⟩
 have HZ:=hid H3.out.upd.size
 have hle:c.snt.length < 4:=by omega
 have c18a:∀ o,(w3.alloc o).cell? ⟨p,18,none⟩ = some (.slice An c.snt.length cn):=fun o => (mcells (H3.out.blk.alloc o)).2.1.2.2.2.1
 clear HRg
 go_wp2_with (at_builtin; go_must (refine ap_sl w0.heap.size rfl (.tmp 55) (.tmp 60) 257 264 (.agg #[.string ⟨#[]⟩,.int .i64 0,.int .i64 0]) 3 32 rfl Tryz.underlying257 se_info rfl (by omega) (.slice An c.snt.length cn) c.snt.length (ses c.snt) (some ⟨w3.heap.size,0,none⟩) 1 1 (sc (to,k,a)) rfl rfl ((H3.out.quiet ((Upd.refl _ _).alloc _)).hn) (Rd_lit w3 _ 3 1 (sc (to,k,a)) rfl) (by simp [sc,Value.oneCell']) (by omega) (by omega) (by have:=HZ.out; simp; omega) ?_); intro A5 c5 w5 ho5 hu5 hat5; have HE5:=hid (H3.out.quiet ((Upd.refl _ _).alloc (.cells #[.string to,.int .i64 k,.int .i64 a] 264))); have HE6:=hid (HE5.out.sents (ss:=c.snt ++ [(to,k,a)]) hu5 (by rw [List.length_append]; have e:ses (c.snt ++ [(to,k,a)]) = ses c.snt ++ sc (to,k,a):=by { simp [ses] }; rw [e]; exact ho5)); have b5:=HE5.out.blk.upd hu5 (fun e => HE5.out.vp.2.2 e); have e18:=(mcells b5).2.1.2.2.2.1; have f18:=b5.free 18; clear ho5 hu5 hat5 b5)
 go_end0
 exact .of ⟨rfl,_,_,_,HE6.out⟩
set_option maxRecDepth 100000 in
theorem op17 {w0 W:World} {p:Nat} {v:Env} {c:Mst} (h:Mo w0 W p v c) {st:List Int} {k a:Int} (hst:c.st = st ++ [k,a]) (hl:st.length < 14) (hn:c.snt.length < 4) {ad:Addr} {n cap:Nat} {to:ByteArray} (hv:v.vN = .slice (some ad) n cap) (hn0:0 < n) (hz:∀ W,Upd No w0 W → W.cell? ad = some (.string to)) (hto:to.toList.isEmpty = false) :
 Calls Tryz.prog 194 #[.pointer (some ⟨p,0,none⟩),.agg #[.int .i64 17,.int .i64 0]] W fun e w' => PuOut w0 p v { c with st:=st,snt:=c.snt ++ [(to,k,a)] } e w':=by
 obtain ⟨w1,pb,vs,ve,vn,hw1,hpb,hb,h1,hne,hsz⟩:=start_ h 17 0
 obtain ⟨d0,d1⟩:=Jn.box2 hb
 have HP:=hid (out17 (show Mo w0 w1 p v c from ⟨_,_,_,h1⟩) hst hl hn hv hn0 hz hto)
 simp only [hw1,hpb] at d0 d1
 have HW1:=hid hw1
 have HPb:=hid hpb
 clear h h1 hb hne hst hl hv hz hsz hw1 hpb hn hn0 hto
 go_enter Tryz.func194,Tryz.ntmps194
 go_wp2_with (fail)
 try rw [← HW1.out]
 try rw [← HPb.out]
 clear HW1 HPb
 refine HP.out.mono ?_
 rintro e w2 ⟨rfl,h2⟩
 have H2:=hid h2
 clear h2
 go_wp2
 go_end0
 exact .of ⟨rfl,H2.out⟩
end Go.Proofs.YtclfmpieapbfnaaGreatDoor.Mc
end
