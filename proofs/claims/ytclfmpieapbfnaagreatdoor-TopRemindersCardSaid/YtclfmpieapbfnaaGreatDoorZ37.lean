/-
  Part 37 of the proof of the statement that the last part ends in: lemmas, no conditions of their own.
-/
import Derived.Test.YtclfmpieapbfnaaGreatDoorZ36
set_option linter.unusedVariables false
set_option linter.unusedSimpArgs false
section
namespace Go.Proofs.YtclfmpieapbfnaaGreatDoor.Nd
open Go.RowKit B Go.Proofs.YtclfmpieapbfnaaGreatDoor.Op Cm Cr
open Cd (rint_eq rtext_eq)
theorem stN_some {l r:List Int} {n:Int} (h:stN l false = (n,r,false)):rdNum l = some (n,r):=by
 unfold stN at h
 rcases hq:rdNum l with _ | ⟨n',r'⟩
 · rw [hq] at h; simp at h
 · rw [hq] at h
   simp only [Prod.mk.injEq,and_true] at h
   obtain ⟨rfl,rfl⟩:=h
   rfl
theorem stN_none {l r:List Int} {n:Int} (h:stN l false = (n,r,true)):rdNum l = none ∧ n = 0 ∧ r = []:=by
 unfold stN at h
 rcases hq:rdNum l with _ | ⟨n',r'⟩
 · rw [hq] at h
   simp only [Prod.mk.injEq,and_true] at h
   exact ⟨rfl,h.1.symm,h.2.symm⟩
 · rw [hq] at h; simp at h
theorem dec_bad {l r:List Int} {n:Int} (h:stN l false = (n,r,true)):decQ l = none:=by
 unfold decQ
 rw [(stN_none h).1]
theorem dec_eq {l r:List Int} {n:Int} (h:stN l false = (n,r,false)):decQ l = if n ≤ 64 then fin (rdQ n.toNat [] r) else none:=by
 unfold decQ
 rw [stN_some h]
theorem good_of {x:List Rm} {r:Rm} (h1:wrongR r = 0) (h2:has r.actor r.name x = false) (h3:∀ i (hi:i < x.length),i + 1 = x.length → less x[i] r = true):goodR x r = true:=by
 unfold goodR
 simp only [Bool.and_eq_true,decide_eq_true_eq,Bool.not_eq_true']
 refine ⟨⟨h1,h2⟩,?_⟩
 rcases hx:x.getLast? with _ | y
 · rfl
 · rw [List.getLast?_eq_getElem?] at hx
   obtain ⟨hi,e⟩:=List.getElem?_eq_some_iff.1 hx
   have:=h3 (x.length - 1) hi (by omega)
   rw [e] at this
   exact this
theorem good_no1 {x:List Rm} {r:Rm} (h:wrongR r ≠ 0):goodR x r = false:=by
 unfold goodR
 simp [h]
theorem good_no2 {x:List Rm} {r:Rm} (h:has r.actor r.name x = true):goodR x r = false:=by
 unfold goodR
 simp [h]
theorem good_no3 {x:List Rm} {r:Rm} {i:Nat} (hi:i < x.length) (he:i + 1 = x.length) (h:less x[i] r = false):goodR x r = false:=by
 have hx:x.getLast? = some x[i]:=by
  rw [List.getLast?_eq_getElem?,show x.length - 1 = i from by omega,List.getElem?_eq_getElem hi]
 unfold goodR
 rw [hx]
 simp [h]
theorem Ix.one {a n:ByteArray} {xs:List Rm} {r:Int} (h:Ix a n xs r) (hh:has a n xs = false):r = -1:=by
 rcases h with ⟨rfl,_⟩ | ⟨j,hj,rfl,hk⟩
 · rfl
 · rw [has_false hh (List.getElem_mem hj)] at hk
   cases hk
theorem Ix.pos {a n:ByteArray} {xs:List Rm} {r:Int} (h:Ix a n xs r) (hh:has a n xs = true):0 ≤ r:=by
 rcases h with ⟨rfl,h2⟩ | ⟨j,hj,rfl,hk⟩
 · rw [h2] at hh
   cases hh
 · omega
def DcOut (w:World) (r:Option (List Rm)) (e:Ending) (w':World):Prop:=
 match r with
 | none => e = .returned (.tuple #[.pointer none,.int .i64 2]) ∧ Upd No w w'
 | some x => ∃ p F,e = .returned (.tuple #[.pointer (some ⟨p,0,none⟩),.int .i64 0]) ∧ Qo w' F p x ∧ (∀ k,F k → w.heap.size ≤ k) ∧ Upd No w w'
theorem DcOut.none_ {w:World} {r:Option (List Rm)} {e:Ending} {w':World} (hr:r = none) (h:e = .returned (.tuple #[.pointer none,.int .i64 2]) ∧ Upd No w w'):DcOut w r e w':=by
 subst hr
 exact h
theorem DcOut.some_ {w:World} {r:Option (List Rm)} {x:List Rm} {e:Ending} {w':World} (hr:r = some x) (h:∃ p F,e = .returned (.tuple #[.pointer (some ⟨p,0,none⟩),.int .i64 0]) ∧ Qo w' F p x ∧ (∀ k,F k → w.heap.size ≤ k) ∧ Upd No w w'):DcOut w r e w':=by
 subst hr
 exact h
structure Dd (T:TypeId) (w W:World) (R:Nat → Prop) (rp:Nat) (F:Nat → Prop) (p:Nat) (x:List Rm) (rest:List Int) (bd:Bool):Prop where
 rr:∃ A c,Rr T W R rp A c rest bd
 wd:Qo W F p x
 rf:∀ k,R k → ¬ F k
 ro:w.heap.size ≤ rp
 fo:∀ k,F k → w.heap.size ≤ k
 upd:Upd No w W
 ok:Inv x
section
variable {T:TypeId} {w W W':World} {R F F':Nat → Prop} {rp p:Nat} {x x':List Rm} {rest rest':List Int} {bd bd':Bool}
theorem Dd.read (h:Dd T w W R rp F p x rest bd) {A:Option Addr} {c:Nat} (hr:Rr T W' R rp A c rest' bd') (hu:Upd (fun k => k = rp) W W'):Dd T w W' R rp F p x rest' bd':=
 ⟨⟨A,c,hr⟩,h.wd.upd hu fun k hk e => h.rf rp hr.here (e ▸ hk),h.rf,h.ro,h.fo,h.upd.trans hu fun i hi e => by have:=h.ro; omega,h.ok⟩
theorem Dd.added (h:Dd T w W R rp F p x rest bd) (hw:Qo W' F' p x') (hm:Mv F F' W W') (hok:Inv x'):Dd T w W' R rp F' p x' rest bd:=by
 obtain ⟨A,c,hr⟩:=h.rr
 refine ⟨⟨A,c,hr.keep hm.upd h.rf⟩,hw,fun k hk hf => (hm.sub k hf).elim (h.rf k hk) fun hs => ?_,h.ro,fun k hk => (hm.sub k hk).elim (h.fo k) fun hs => Nat.le_trans h.upd.size hs,h.upd.trans hm.upd fun i hi hf => ?_,hok⟩
 · have:=hr.lt k hk
   omega
 · have:=h.fo i hf
   omega
end
theorem Dd.quiet {T:TypeId} {w W W':World} {R F:Nat → Prop} {rp p:Nat} {x:List Rm} {rest:List Int} {bd:Bool} (h:Dd T w W R rp F p x rest bd) (hu:Upd No W W'):Dd T w W' R rp F p x rest bd:=by
 obtain ⟨A,c,hr⟩:=h.rr
 exact ⟨⟨A,c,hr.keep hu fun _ _ => no_ _⟩,h.wd.quiet hu,h.rf,h.ro,h.fo,h.upd.next hu,h.ok⟩
set_option maxHeartbeats 8000000 in
set_option maxRecDepth 100000 in
theorem decode_ {w : World} {A : Option Addr} {c : Nat} {l : List Int} (hr : Rn w .u8 A l) (hl : l.length ≤ 140737488355328) (hb : Byte l) :
   Calls Tryz.prog 35 #[.slice A l.length c] w fun e w' => DcOut w (decQ l) e w' := by
 have HN := hid (newReader A c l w hr hl hb)
 clear hr hb
 go_enter Tryz.func35, Tryz.ntmps35
 go_wp2_with (fail)
 refine HN.out.mono ?_
 rintro e w2 ⟨R, rp, A2, c2, rfl, hr2, ho2, hb2⟩
 obtain ⟨n, r0, b0, hs⟩ : ∃ n r0 b0, stN l false = (n, r0, b0) := ⟨_, _, _, rfl⟩
 have hrange := stN_range l false hr2.byte
 rw [hs] at hrange
 simp only at hrange
 have HC := hid (rnumber_eq hr2 hs)
 have HS := hid hs
 have H2 := hid (And.intro (ho2 rp hr2.here) (Upd.of_below No hb2))
 clear hr2 ho2 hb2 hs HN
 go_wp2_with (fail)
 refine HC.out.mono ?_
 rintro e w3 ⟨rfl, A3, c3, hr3, hu3⟩
 have HR3 := hid hr3
 have HU3 := hid (H2.out.2.trans hu3 fun i hi e => by have := H2.out.1; omega)
 clear hr3 hu3 HC
 by_cases hgt : 64 < n
 · have hout : Hid (decQ l = none) := hid (by
     rcases b0 with _ | _
     · rw [dec_eq HS.out, if_neg (by omega)]
     · exact dec_bad HS.out)
   go_wp2
   go_ret2
   exact .none_ hout.out ⟨rfl, HU3.out⟩
 obtain ⟨N, rfl⟩ : ∃ N : Nat, n = N := ⟨n.toNat, by omega⟩
 have hN : N ≤ 64 := by omega
 have hwN : IntKind.i64.wrap (N : Int) = (N : Int) := IntWalk.i64_in _ (by omega)
 have HOut : Hid ((b0 = true → decQ l = none ∧ N = 0) ∧ (b0 = false → decQ l = fin (rdQ N [] r0))) := hid ⟨fun h => by
   subst h
   have := stN_none HS.out
   exact ⟨dec_bad HS.out, by omega⟩, fun h => by
   subst h
   rw [dec_eq HS.out, if_pos (by omega), Int.toNat_natCast]⟩
 clear HS
 go_wp2_with (fail)
 refine Calls.mono (new_ w3) ?_
 rintro e w4 ⟨rfl, rfl⟩
 have HW4 : Hid (∃ w4 p, w4 = w3.alloc (.cells #[.slice none 0 0] 208) ∧ p = w3.heap.size ∧ Dd 223 w w4 R rp (fun k => k = p) p [] r0 b0) := hid ⟨_, _, rfl, rfl,
   ⟨⟨A3, c3, HR3.out.keep ((Upd.refl No w3).alloc _) fun _ _ => no_ _⟩, Qo.new w3, fun k hk e => by have := HR3.out.lt k hk; omega, H2.out.1, fun k hk => by have := HU3.out.size; omega, HU3.out.alloc _, Inv.nil⟩⟩
 obtain ⟨w4, p, hw4, hp4, hD4⟩ := HW4.out
 rw [← hw4, ← hp4]
 have HD4 := hid hD4
 clear hw4 hp4 hD4 HW4 HR3 HU3 H2 hrange hgt
 go_wp2_with (fail)
 go_loopw [18] (fun v18 W => ∃ (j : Nat) (F : Nat → Prop) (x : List Rm) (rest : List Int), j ≤ N ∧ v18 = .int .i64 j ∧ Hid (Dd 223 w W R rp F p x rest b0 ∧ x.length = j ∧ (b0 = false → decQ l = fin (rdQ (N - j) x rest)))) (fun v18 _ => N - (intOf v18).toNat)
 case atStart => exact ⟨0, _, [], r0, by omega, rfl, hid ⟨HD4.out, rfl, HOut.out.2⟩⟩
 case round =>
   clear HD4
   obtain ⟨j, F, x, rest, hj, rfl, HD⟩ := hrel
   by_cases hlt : j < N
   case' neg =>
     obtain rfl : j = N := by omega
     obtain ⟨Ar, cr, hrr⟩ := HD.out.1.rr
     have HEnd := hid (end_ rp rest.length cr Ar b0 wr hrr.blk)
     rcases hee : (!b0 && decide (rest.length = 0)) with _ | _
     · have hout : Hid (decQ l = none) := hid (by
         rcases b0 with _ | _
         · rw [HD.out.2.2 rfl, Nat.sub_self, rdQ]
           rcases rest with _ | ⟨z, r⟩
           · simp at hee
           · rfl
         · exact (HOut.out.1 rfl).1)
       rw [hee] at HEnd
       clear hee hrr
       go_wp2_with (fail)
       refine HEnd.out.mono ?_
       rintro e w8 ⟨rfl, rfl⟩
       go_wp2
       go_ret2
       exact .none_ hout.out ⟨rfl, HD.out.1.upd⟩
     · have hout : Hid (decQ l = some x) := hid (by
         rcases b0 with _ | _
         · rw [HD.out.2.2 rfl, Nat.sub_self, rdQ]
           rcases rest with _ | ⟨z, r⟩
           · rfl
           · simp at hee
         · simp at hee)
       rw [hee] at HEnd
       clear hee hrr
       go_wp2_with (fail)
       refine HEnd.out.mono ?_
       rintro e w8 ⟨rfl, rfl⟩
       go_wp2
       go_ret2
       exact .some_ hout.out ⟨p, F, rfl, HD.out.1.wd, HD.out.1.fo, HD.out.1.upd⟩
   have hb0 : b0 = false := by
     rcases b0 with _ | _
     · rfl
     · have := (HOut.out.1 rfl).2
       omega
   subst hb0
   have HEq := hid (HD.out.2.2 rfl)
   have HXl := hid HD.out.2.1
   have HD0 := hid HD.out.1
   clear HD
   have hj2 : (j : Int) < (N : Int) := by omega
   have hj1 : (0 : Int) ≤ (j : Int) := by omega
   obtain ⟨t1, l1, b1, e1⟩ : ∃ t l' b', stT rest false = (t, l', b') := ⟨_, _, _, rfl⟩
   obtain ⟨t2, l2, b2, e2⟩ : ∃ t l' b', stT l1 b1 = (t, l', b') := ⟨_, _, _, rfl⟩
   obtain ⟨n3, l3, b3, e3⟩ : ∃ t l' b', stN l2 b2 = (t, l', b') := ⟨_, _, _, rfl⟩
   obtain ⟨n4, l4, b4, e4⟩ : ∃ t l' b', stN l3 b3 = (t, l', b') := ⟨_, _, _, rfl⟩
   obtain ⟨n5, l5, b5, e5⟩ : ∃ t l' b', stN l4 b4 = (t, l', b') := ⟨_, _, _, rfl⟩
   have HRd : Hid (rdR rest false = (⟨strOfNums t1, strOfNums t2, uz n3, uz n4, uz n5⟩, l5, b5)) := hid (by
     unfold rdR
     rw [e1]
     simp only
     rw [e2]
     simp only
     rw [e3]
     simp only
     rw [e4]
     simp only
     rw [e5])
   have HByR : Hid (Byte rest) := hid (by
     obtain ⟨_, _, h⟩ := HD0.out.rr
     exact h.byte)
   have HE1 := hid fun (W : World) (A : Option Addr) (c : Nat) (h : Rr 223 W R rp A c rest false) => rtext_eq h e1
   have HE2 := hid fun (W : World) (A : Option Addr) (c : Nat) (h : Rr 223 W R rp A c l1 b1) => rtext_eq h e2
   have HE3 := hid fun (W : World) (A : Option Addr) (c : Nat) (h : Rr 223 W R rp A c l2 b2) => rint_eq h e3 rfl
   have HE4 := hid fun (W : World) (A : Option Addr) (c : Nat) (h : Rr 223 W R rp A c l3 b3) => rint_eq h e4 rfl
   have HE5 := hid fun (W : World) (A : Option Addr) (c : Nat) (h : Rr 223 W R rp A c l4 b4) => rint_eq h e5 rfl
   clear e1 e2 e3 e4 e5
   generalize strOfNums t1 = ra at *
   generalize strOfNums t2 = rn at *
   generalize uz n3 = rd at *
   generalize uz n4 = rpp at *
   generalize uz n5 = rk at *
   obtain ⟨Ar, cr, hrr⟩ := HD0.out.rr
   have HF1 := hid (HE1.out _ _ _ hrr)
   clear hrr HE1
   go_wp2_with (fail)
   refine HF1.out.mono ?_
   rintro e w5 ⟨rfl, A5, c5, hr5, hu5⟩
   have HD1 := hid (HD0.out.read hr5 hu5)
   have HF2 := hid (HE2.out _ _ _ hr5)
   clear hr5 hu5 HF1 HE2 HD0
   go_wp2_with (fail)
   refine HF2.out.mono ?_
   rintro e w6 ⟨rfl, A6, c6, hr6, hu6⟩
   have HD2 := hid (HD1.out.read hr6 hu6)
   have HF3 := hid (HE3.out _ _ _ hr6)
   clear hr6 hu6 HF2 HE3 HD1
   go_wp2_with (fail)
   refine HF3.out.mono ?_
   rintro e w7 ⟨rfl, A7, c7, hr7, hu7⟩
   have HD3 := hid (HD2.out.read hr7 hu7)
   have HF4 := hid (HE4.out _ _ _ hr7)
   clear hr7 hu7 HF3 HE4 HD2
   go_wp2_with (fail)
   refine HF4.out.mono ?_
   rintro e w8 ⟨rfl, A8, c8, hr8, hu8⟩
   have HD4 := hid (HD3.out.read hr8 hu8)
   have HF5 := hid (HE5.out _ _ _ hr8)
   clear hr8 hu8 HF4 HE5 HD3
   go_wp2_with (fail)
   refine HF5.out.mono ?_
   rintro e w9 ⟨rfl, A9, c9, hr9, hu9⟩
   have hd9 := (HD4.out.read hr9 hu9).quiet ((Upd.refl No w9).alloc (.cells #[.string ra, .string rn, .int .i64 rd, .int .i64 rpp, .int .i64 rk] 71))
   have hbx := Blk.fresh w9 71 #[.string ra, .string rn, .int .i64 rd, .int .i64 rpp, .int .i64 rk]
   obtain ⟨pb, hpb⟩ : ∃ pb, pb = w9.heap.size := ⟨_, rfl⟩
   obtain ⟨wa, hwa⟩ : ∃ wa, wa = w9.alloc (.cells #[.string ra, .string rn, .int .i64 rd, .int .i64 rpp, .int .i64 rk] 71) := ⟨_, rfl⟩
   rw [← hwa] at hd9
   rw [← hwa, ← hpb] at hbx
   have HDa := hid hd9
   have HBa := hid hbx
   have HPb : Hid (¬ F pb ∧ ¬ R pb) := hid ⟨fun hf => by have := (HD4.out.read hr9 hu9).wd.lt _ hf; omega, fun hf => by have := hr9.lt _ hf; omega⟩
   clear hr9 hu9 HF5 HD4 hd9 hbx
   go_wp2_with (fail)
   try rw [← hwa]
   try rw [← hpb]
   clear hwa hpb
   have hx64 : x.length = j := HXl.out
   have HNone : Hid ((b5 = true ∨ goodR x ⟨ra, rn, rd, rpp, rk⟩ = false) → decQ l = none) := hid fun h => by
     rw [HEq.out, show N - j = N - (j + 1) + 1 from by omega, rdQ, HRd.out]
     simp only
     rw [if_neg (fun hh => by rcases h with h | h
                              · rw [h] at hh; cases hh.1
                              · rw [h] at hh; cases hh.2)]
     rfl
   have HSome : Hid (b5 = false → goodR x ⟨ra, rn, rd, rpp, rk⟩ = true → decQ l = fin (rdQ (N - (j + 1)) (x ++ [⟨ra, rn, rd, rpp, rk⟩]) l5)) := hid fun h1 h2 => by
     rw [HEq.out, show N - j = N - (j + 1) + 1 from by omega, rdQ, HRd.out]
     simp only
     rw [if_pos ⟨h1, h2⟩]
   have HRng : Hid (b5 = false → I64 rd ∧ I64 rpp ∧ I64 rk) := hid fun h => by
     subst h
     exact (rdR_only HByR.out HRd.out).2.2
   have hxl : x.length ≤ 1000 := by omega
   have HBad := hid fun (W : World) (hu : Upd No wa W) => by
     obtain ⟨A', c', h⟩ := (HDa.out.quiet hu).rr
     exact bad rp b5 _ W h.blk
   have HWr := hid fun (W : World) => wrong_ ⟨ra, rn, rd, rpp, rk⟩ W
   have HFi := hid fun (W : World) (hu : Upd No wa W) => find_ p F x ra rn W (HDa.out.wd.quiet hu) hxl
   have HBx := hid fun (W : World) (hu : Upd No wa W) => box5 (HBa.out.upd hu (no_ _))
   unfold rv at HWr
   unfold IxOut at HFi
   clear HEq HRd hx64
   simp only at HWr
   rcases b5 with _ | _
   case' true =>
     have hout : Hid (decQ l = none) := hid (HNone.out (.inl rfl))
     refine wp_region_held_drew (S := fun W => Upd No wa W) (by kernel_rfl) (Upd.refl No wa).drew (fun hS => ?_)
     refine zt 0 hS ?_
     refine zk 1 (fun K hK => ?_)
     go_simp
     refine Calls.mono (HBad.out _ hS) ?_
     rintro e wb ⟨rfl, rfl⟩
     go_wp2_with (fail)
     refine hK.out _ _ ((by exact hS)) (fun hS => ?_)
     clear hK K
     try simp only [Act.put, zA, zB, zC]
     refine zt 2 hS ?_
     refine zn 3 hS ?_
     refine zn 4 hS ?_
     refine zn 5 hS ?_
     refine zt 6 hS ?_
     refine zt 7 hS ?_
     refine zn 8 hS ?_
     refine zn 9 hS ?_
     refine zn 10 hS ?_
     refine zn 11 hS ?_
     refine zn 12 hS ?_
     refine zn 13 hS ?_
     refine zn 14 hS ?_
     refine zt 15 hS ?_
     refine zt 16 hS ?_
     refine zn 17 hS ?_
     refine zn 18 hS ?_
     refine zn 19 hS ?_
     refine zn 20 hS ?_
     refine zn 21 hS ?_
     refine zn 22 hS ?_
     refine zn 23 hS ?_
     refine zn 24 hS ?_
     refine zn 25 hS ?_
     refine zn 26 hS ?_
     refine zn 27 hS ?_
     refine zn 28 hS ?_
     refine zn 29 hS ?_
     refine zn 30 hS ?_
     refine zn 31 hS ?_
     refine zt 32 hS ?_
     refine wpAnyH_done (by kernel_rfl) ?_ _
     have HE := hid ((HDa.out.quiet hS).upd)
     clear hS
     go_wp2
     go_ret2
     exact .none_ hout.out ⟨rfl, HE.out⟩
   generalize hwr : wrongR ⟨ra, rn, rd, rpp, rk⟩ = wr at HWr
   have HWe := hid hwr
   clear hwr
   by_cases hw0 : wr = 0
   case' neg =>
     have hout : Hid (decQ l = none) := hid (HNone.out (.inr (good_no1 (by rw [HWe.out]; exact hw0))))
     have hw1 : (wr == 0) = false := by simpa using hw0
     have hw2 : (wr != 0) = true := by simpa using hw0
     clear hw0
     refine wp_region_held_drew (S := fun W => Upd No wa W) (by kernel_rfl) (Upd.refl No wa).drew (fun hS => ?_)
     refine zt 0 hS ?_
     refine zk 1 (fun K hK => ?_)
     go_simp
     refine Calls.mono (HBad.out _ hS) ?_
     rintro e wb ⟨rfl, rfl⟩
     go_wp2_with (fail)
     refine hK.out _ _ ((by exact hS)) (fun hS => ?_)
     clear hK K
     try simp only [Act.put, zA, zB, zC]
     refine zt 2 hS ?_
     refine zh 3 hS (fun w hw => HBx.out w hw) ?_
     refine zk 4 (fun K hK => ?_)
     go_simp
     refine Calls.mono (HWr.out _) ?_
     rintro e wc ⟨rfl, huc⟩
     go_wp2_with (fail)
     refine hK.out _ _ ((hS.next huc)) (fun hS => ?_)
     clear hK K
     try simp only [Act.put, zA, zB, zC]
     refine zt 5 hS ?_
     refine zt 6 hS ?_
     refine zt 7 hS ?_
     refine zn 8 hS ?_
     refine zn 9 hS ?_
     refine zn 10 hS ?_
     refine zn 11 hS ?_
     refine zn 12 hS ?_
     refine zn 13 hS ?_
     refine zn 14 hS ?_
     refine zt 15 hS ?_
     refine zt 16 hS ?_
     refine zn 17 hS ?_
     refine zn 18 hS ?_
     refine zn 19 hS ?_
     refine zn 20 hS ?_
     refine zn 21 hS ?_
     refine zn 22 hS ?_
     refine zn 23 hS ?_
     refine zn 24 hS ?_
     refine zn 25 hS ?_
     refine zn 26 hS ?_
     refine zn 27 hS ?_
     refine zn 28 hS ?_
     refine zn 29 hS ?_
     refine zn 30 hS ?_
     refine zn 31 hS ?_
     refine zt 32 hS ?_
     refine wpAnyH_done (by kernel_rfl) ?_ _
     have HE := hid ((HDa.out.quiet hS).upd)
     clear hS
     go_wp2
     go_ret2
     exact .none_ hout.out ⟨rfl, HE.out⟩
   subst hw0
   rcases hh : has ra rn x with _ | _
   case' true =>
     have hout : Hid (decQ l = none) := hid (HNone.out (.inr (good_no2 hh)))
     refine wp_region_held_drew (S := fun W => Upd No wa W) (by kernel_rfl) (Upd.refl No wa).drew (fun hS => ?_)
     refine zt 0 hS ?_
     refine zk 1 (fun K hK => ?_)
     go_simp
     refine Calls.mono (HBad.out _ hS) ?_
     rintro e wb ⟨rfl, rfl⟩
     go_wp2_with (fail)
     refine hK.out _ _ ((by exact hS)) (fun hS => ?_)
     clear hK K
     try simp only [Act.put, zA, zB, zC]
     refine zt 2 hS ?_
     refine zh 3 hS (fun w hw => HBx.out w hw) ?_
     refine zk 4 (fun K hK => ?_)
     go_simp
     refine Calls.mono (HWr.out _) ?_
     rintro e wc ⟨rfl, huc⟩
     go_wp2_with (fail)
     refine hK.out _ _ ((hS.next huc)) (fun hS => ?_)
     clear hK K
     try simp only [Act.put, zA, zB, zC]
     refine zt 5 hS ?_
     refine zt 6 hS ?_
     refine zt 7 hS ?_
     refine zt 8 hS ?_
     refine zt 9 hS ?_
     refine zh 10 hS (fun w hw => (HBx.out w hw).1) ?_
     refine zt 11 hS ?_
     refine zh 12 hS (fun w hw => (HBx.out w hw).2.1) ?_
     refine zk 13 (fun K hK => ?_)
     go_simp
     refine Calls.mono (HFi.out _ hS) ?_
     rintro e wd ⟨ri, rfl, hix, hud⟩
     have hri := hix.pos hh
     go_wp2_with (fail)
     refine hK.out _ _ ((hS.next hud)) (fun hS => ?_)
     clear hK K
     try simp only [Act.put, zA, zB, zC]
     refine zt 14 hS ?_
     refine zt 15 hS ?_
     refine zt 16 hS ?_
     refine zn 17 hS ?_
     refine zn 18 hS ?_
     refine zn 19 hS ?_
     refine zn 20 hS ?_
     refine zn 21 hS ?_
     refine zn 22 hS ?_
     refine zn 23 hS ?_
     refine zn 24 hS ?_
     refine zn 25 hS ?_
     refine zn 26 hS ?_
     refine zn 27 hS ?_
     refine zn 28 hS ?_
     refine zn 29 hS ?_
     refine zn 30 hS ?_
     refine zn 31 hS ?_
     refine zt 32 hS ?_
     refine wpAnyH_done (by kernel_rfl) ?_ _
     have HE := hid ((HDa.out.quiet hS).upd)
     clear hS
     go_wp2
     go_ret2
     exact .none_ hout.out ⟨rfl, HE.out⟩
   have HHh := hid hh
   by_cases hj0 : j = 0
   case' pos =>
     have hj3 : ¬ (0 : Int) < (j : Int) := by omega
     have hj4 : ¬ 0 < j := by omega
     have HG : Hid (goodR x ⟨ra, rn, rd, rpp, rk⟩ = true) := hid (good_of HWe.out hh fun i hi he => by have := HXl.out; omega)
     clear hj0
     refine wp_region_held_drew (S := fun W => Upd No wa W) (by kernel_rfl) (Upd.refl No wa).drew (fun hS => ?_)
     refine zt 0 hS ?_
     refine zk 1 (fun K hK => ?_)
     go_simp
     refine Calls.mono (HBad.out _ hS) ?_
     rintro e wb ⟨rfl, rfl⟩
     go_wp2_with (fail)
     refine hK.out _ _ ((by exact hS)) (fun hS => ?_)
     clear hK K
     try simp only [Act.put, zA, zB, zC]
     refine zt 2 hS ?_
     refine zh 3 hS (fun w hw => HBx.out w hw) ?_
     refine zk 4 (fun K hK => ?_)
     go_simp
     refine Calls.mono (HWr.out _) ?_
     rintro e wc ⟨rfl, huc⟩
     go_wp2_with (fail)
     refine hK.out _ _ ((hS.next huc)) (fun hS => ?_)
     clear hK K
     try simp only [Act.put, zA, zB, zC]
     refine zt 5 hS ?_
     refine zt 6 hS ?_
     refine zt 7 hS ?_
     refine zt 8 hS ?_
     refine zt 9 hS ?_
     refine zh 10 hS (fun w hw => (HBx.out w hw).1) ?_
     refine zt 11 hS ?_
     refine zh 12 hS (fun w hw => (HBx.out w hw).2.1) ?_
     refine zk 13 (fun K hK => ?_)
     go_simp
     refine Calls.mono (HFi.out _ hS) ?_
     rintro e wz ⟨ri, rfl, hix, hud⟩
     have hri := hix.one hh
     subst hri
     go_wp2_with (fail)
     refine hK.out _ _ ((hS.next hud)) (fun hS => ?_)
     clear hK K
     try simp only [Act.put, zA, zB, zC]
     refine zt 14 hS ?_
     refine zt 15 hS ?_
     refine zt 16 hS ?_
     refine zt 17 hS ?_
     refine zt 18 hS ?_
     refine zt 19 hS ?_
     refine zn 20 hS ?_
     refine zn 21 hS ?_
     refine zn 22 hS ?_
     refine zn 23 hS ?_
     refine zn 24 hS ?_
     refine zn 25 hS ?_
     refine zn 26 hS ?_
     refine zn 27 hS ?_
     refine zn 28 hS ?_
     refine zn 29 hS ?_
     refine zn 30 hS ?_
     refine zt 31 hS ?_
     refine zt 32 hS ?_
     refine wpAnyH_done (by kernel_rfl) ?_ _
     have HZ := hid hS
     clear hS hix hud
   case' neg =>
     have hj3 : (0 : Int) < (j : Int) := by omega
     have hj4 : 0 < j := by omega
     obtain ⟨i, hi⟩ : ∃ i, i = j - 1 := ⟨_, rfl⟩
     have hil : i < x.length := by have := HXl.out; omega
     have HWj : Hid (IntKind.i64.wrap ((j : Int) - 1) = (i : Int)) := hid (by rw [IntWalk.i64_in _ (by omega)]; omega)
     have hi1 : (0 : Int) ≤ (i : Int) := by omega
     have hi2 : (i : Int) < (x.length : Int) := by omega
     obtain ⟨Aq, kq, hcq, hrq, _, _⟩ := HDa.out.wd.cell
     obtain ⟨d, hA, _⟩ := rm_at hrq hil
     subst hA
     have HCq : Hid (∀ W, Upd No wa W → W.cell? ⟨p, 0, none⟩ = some (.slice (some d) x.length kq) ∧ Rd W 5 (some d) x.length (x.flatMap rc)) := hid fun W hu => by
       obtain ⟨A', k', hb1, _⟩ := HDa.out.wd.parts
       have h0 := hb1.cell 0
       simp at h0
       rw [h0] at hcq
       injection hcq with hcq
       rw [hcq] at hb1
       have h1 := (hb1.upd hu (no_ _)).cell 0
       simp at h1
       exact ⟨h1, Rd.upd hrq (by omega) hu fun _ _ => no_ _⟩
     have HAt : Hid (∀ W, Upd No wa W → At W (d.add (i * 5)) x[i]) := hid fun W hu => by
       obtain ⟨d', e, h⟩ := rm_at (HCq.out W hu).2 hil
       injection e with e
       subst e
       exact h
     have HG0 := hid fun (h : less x[i] ⟨ra, rn, rd, rpp, rk⟩ = true) => good_of HWe.out hh fun i' hi' he => by
       have := HXl.out
       obtain rfl : i' = i := by omega
       exact h
     have HG1 := hid fun (h : less x[i] ⟨ra, rn, rd, rpp, rk⟩ = false) => good_no3 (r := ⟨ra, rn, rd, rpp, rk⟩) hil (by have := HXl.out; omega) h
     have HCl := hid fun (W : World) => compare_ x[i] ⟨ra, rn, rd, rpp, rk⟩ W
     have HLt := hid (cmp_ge x[i] ⟨ra, rn, rd, rpp, rk⟩)
     generalize x[i] = y at *
     obtain ⟨ya, yn, yd, yp, yk⟩ := y
     have HCm := HCl
     unfold rv at HCm
     simp only at HCm
     generalize cmp ⟨ya, yn, yd, yp, yk⟩ ⟨ra, rn, rd, rpp, rk⟩ = cz at *
     clear hcq hrq hj0 hi hil HCl
     rcases hls : less ⟨ya, yn, yd, yp, yk⟩ ⟨ra, rn, rd, rpp, rk⟩ with _ | _
     case' false =>
       have hout : Hid (decQ l = none) := hid (HNone.out (.inr (HG1.out hls)))
       have hcz : 0 ≤ cz := HLt.out.2 hls
       clear hls HG0 HG1
       refine wp_region_held_drew (S := fun W => Upd No wa W) (by kernel_rfl) (Upd.refl No wa).drew (fun hS => ?_)
       refine zt 0 hS ?_
       refine zk 1 (fun K hK => ?_)
       go_simp
       refine Calls.mono (HBad.out _ hS) ?_
       rintro e wb ⟨rfl, rfl⟩
       go_wp2_with (fail)
       refine hK.out _ _ ((by exact hS)) (fun hS => ?_)
       clear hK K
       try simp only [Act.put, zA, zB, zC]
       refine zt 2 hS ?_
       refine zh 3 hS (fun w hw => HBx.out w hw) ?_
       refine zk 4 (fun K hK => ?_)
       go_simp
       refine Calls.mono (HWr.out _) ?_
       rintro e wc ⟨rfl, huc⟩
       go_wp2_with (fail)
       refine hK.out _ _ ((hS.next huc)) (fun hS => ?_)
       clear hK K
       try simp only [Act.put, zA, zB, zC]
       refine zt 5 hS ?_
       refine zt 6 hS ?_
       refine zt 7 hS ?_
       refine zt 8 hS ?_
       refine zt 9 hS ?_
       refine zh 10 hS (fun w hw => (HBx.out w hw).1) ?_
       refine zt 11 hS ?_
       refine zh 12 hS (fun w hw => (HBx.out w hw).2.1) ?_
       refine zk 13 (fun K hK => ?_)
       go_simp
       refine Calls.mono (HFi.out _ hS) ?_
       rintro e wd ⟨ri, rfl, hix, hud⟩
       have hri := hix.one hh
       subst hri
       go_wp2_with (fail)
       refine hK.out _ _ ((hS.next hud)) (fun hS => ?_)
       clear hK K
       try simp only [Act.put, zA, zB, zC]
       refine zt 14 hS ?_
       refine zt 15 hS ?_
       refine zt 16 hS ?_
       refine zt 17 hS ?_
       refine zt 18 hS ?_
       refine zt 19 hS ?_
       refine zt 20 hS ?_
       refine zt 21 hS ?_
       refine zt 22 hS ?_
       refine zh 23 hS (fun w hw => (HCq.out w hw).1) ?_
       refine zt 24 hS ?_
       refine zh 25 hS (fun w hw => HWj.out) ?_
       refine zt 26 hS ?_
       refine zh 27 hS (fun w hw => (HAt.out w hw).all) ?_
       refine zh 28 hS (fun w hw => HBx.out w hw) ?_
       refine zk 29 (fun K hK => ?_)
       go_simp
       refine Calls.mono (HCm.out _) ?_
       rintro e we ⟨rfl, hue⟩
       go_wp2_with (fail)
       refine hK.out _ _ ((hS.next hue)) (fun hS => ?_)
       clear hK K
       try simp only [Act.put, zA, zB, zC]
       refine zt 30 hS ?_
       refine zt 31 hS ?_
       refine zt 32 hS ?_
       refine wpAnyH_done (by kernel_rfl) ?_ _
       have HE := hid ((HDa.out.quiet hS).upd)
       clear hS
       go_wp2
       go_ret2
       exact .none_ hout.out ⟨rfl, HE.out⟩
     have HG := hid (HG0.out hls)
     have hcz : ¬ 0 ≤ cz := fun h => by
       have := HLt.out.1 h
       rw [hls] at this
       cases this
     clear hls HG0 HG1
     refine wp_region_held_drew (S := fun W => Upd No wa W) (by kernel_rfl) (Upd.refl No wa).drew (fun hS => ?_)
     refine zt 0 hS ?_
     refine zk 1 (fun K hK => ?_)
     go_simp
     refine Calls.mono (HBad.out _ hS) ?_
     rintro e wb ⟨rfl, rfl⟩
     go_wp2_with (fail)
     refine hK.out _ _ ((by exact hS)) (fun hS => ?_)
     clear hK K
     try simp only [Act.put, zA, zB, zC]
     refine zt 2 hS ?_
     refine zh 3 hS (fun w hw => HBx.out w hw) ?_
     refine zk 4 (fun K hK => ?_)
     go_simp
     refine Calls.mono (HWr.out _) ?_
     rintro e wc ⟨rfl, huc⟩
     go_wp2_with (fail)
     refine hK.out _ _ ((hS.next huc)) (fun hS => ?_)
     clear hK K
     try simp only [Act.put, zA, zB, zC]
     refine zt 5 hS ?_
     refine zt 6 hS ?_
     refine zt 7 hS ?_
     refine zt 8 hS ?_
     refine zt 9 hS ?_
     refine zh 10 hS (fun w hw => (HBx.out w hw).1) ?_
     refine zt 11 hS ?_
     refine zh 12 hS (fun w hw => (HBx.out w hw).2.1) ?_
     refine zk 13 (fun K hK => ?_)
     go_simp
     refine Calls.mono (HFi.out _ hS) ?_
     rintro e wd ⟨ri, rfl, hix, hud⟩
     have hri := hix.one hh
     subst hri
     go_wp2_with (fail)
     refine hK.out _ _ ((hS.next hud)) (fun hS => ?_)
     clear hK K
     try simp only [Act.put, zA, zB, zC]
     refine zt 14 hS ?_
     refine zt 15 hS ?_
     refine zt 16 hS ?_
     refine zt 17 hS ?_
     refine zt 18 hS ?_
     refine zt 19 hS ?_
     refine zt 20 hS ?_
     refine zt 21 hS ?_
     refine zt 22 hS ?_
     refine zh 23 hS (fun w hw => (HCq.out w hw).1) ?_
     refine zt 24 hS ?_
     refine zh 25 hS (fun w hw => HWj.out) ?_
     refine zt 26 hS ?_
     refine zh 27 hS (fun w hw => (HAt.out w hw).all) ?_
     refine zh 28 hS (fun w hw => HBx.out w hw) ?_
     refine zk 29 (fun K hK => ?_)
     go_simp
     refine Calls.mono (HCm.out _) ?_
     rintro e wz ⟨rfl, hue⟩
     go_wp2_with (fail)
     refine hK.out _ _ ((hS.next hue)) (fun hS => ?_)
     clear hK K
     try simp only [Act.put, zA, zB, zC]
     refine zt 30 hS ?_
     refine zt 31 hS ?_
     refine zt 32 hS ?_
     refine wpAnyH_done (by kernel_rfl) ?_ _
     have HZ := hid hS
     clear hS hix hud huc hue hi1 hi2
   all_goals
     have hout : Hid (decQ l = fin (rdQ (N - (j + 1)) (x ++ [⟨ra, rn, rd, rpp, rk⟩]) l5)) := hid (HSome.out (by first | rfl | trivial) HG.out)
     have hdz := HDa.out.quiet HZ.out
     obtain ⟨Az, kz, hbz, hoz, hFz, hkz1, hkz2⟩ := hdz.wd.parts
     simp only [maxLen] at hkz2
     have hbx := HBa.out.upd HZ.out (no_ _)
     obtain ⟨y0, y1, y2, y3, y4⟩ := box5 hbx
     have hal : Upd No wz (wz.drew.alloc (.cells (rc ⟨ra, rn, rd, rpp, rk⟩).toArray 71)) := ((Upd.refl No wz).drew).alloc _
     have HAp := hid (own_upd hoz hal fun _ _ => no_ _)
     have HBz := hid (And.intro hbz (And.intro hoz (And.intro hFz hal)))
     have c0 := hbz.cell 0
     simp at c0
     have z0 : ∀ o, (wz.alloc o).cell? ⟨p, 0, none⟩ = some (.slice Az x.length kz) := fun o => by
       have := (hbz.alloc o).cell 0
       simpa using this
     have hzs : wz.drew.heap.size = wz.heap.size := rfl
     have HDz := hid hdz
     have HIs := hid (HDa.out.ok.snoc HG.out (HRng.out (by first | rfl | trivial)) (by have := HXl.out; omega))
     clear hbx hbz hoz hFz hal hdz hkz1
     go_wp2_with (fail)
     refine wp_region_held_drew (S := fun _ => True) (by kernel_rfl) trivial (fun hS => ?_)
     refine zt 0 hS ?_
     refine zt 1 hS ?_
     refine zt 2 hS ?_
     refine zt 3 hS ?_
     refine rg_two 4 5 (by kernel_rfl) ?_ ?_
     · refine zs 4 (fun K hK => ?_)
       go_simp
       refine hK.out _ _ (trivial) (fun hS => ?_)
       clear hK K
       try simp only [Act.put, zA, zB, zC]
       refine zk 5 (fun K hK => ?_)
       go_simp
       refine hK.out _ _ (trivial) (fun hS => ?_)
       clear hK K
       try simp only [Act.put, zA, zB, zC]
       refine zk 6 (fun K hK => ?_)
       go_simp
       refine hK.out _ _ (trivial) (fun hS => ?_)
       clear hK K
       try simp only [Act.put, zA, zB, zC]
       refine zk 7 (fun K hK => ?_)
       refine wp_ap_row 0 (.tmp 69) (.tmp 71) 80 71 (.agg #[.string ⟨#[]⟩, .string ⟨#[]⟩, .int .i64 0, .int .i64 0, .int .i64 0]) 5 56 (by rfl) Tryz.underlying80 rm_info rfl (by omega) (.slice Az x.length kz) x.length (x.flatMap rc) (some ⟨wz.drew.heap.size, 0, none⟩) 1 1 (rc ⟨ra, rn, rd, rpp, rk⟩) (by rfl) (by rfl) HAp.out (Rd_lit wz.drew _ 5 1 (rc ⟨ra, rn, rd, rpp, rk⟩) rfl) (rc_ones _) (by omega) (by omega) (Nat.zero_le _) ?_
       intro A5 c5 w5 ho5 hg5 hat5
       have hu5 : Upd (fun k => (Value.slice Az x.length kz).ownBlock = some k) wz w5 := (((Upd.refl _ wz).drew).alloc _).grown hg5 (fun kk hk => .inl hk)
       have p5 := HBz.out.1.upd hu5 (own_blk_ne HBz.out.2.1 HBz.out.1 (by decide))
       have f5 := p5.free 0
       have x5 := p5.cell 0
       simp at x5
       refine hK.out _ _ (trivial) (fun hS => ?_)
       clear hK K
       try simp only [Act.put, zA, zB, zC]
       refine zt 8 hS ?_
       refine zt 9 hS ?_
       refine zk 10 (fun K hK => ?_)
       go_simp
       refine hK.out _ _ (trivial) (fun hS => ?_)
       clear hK K
       try simp only [Act.put, zA, zB, zC]
       refine wpAnyH_done (by kernel_rfl) ?_ _
       have HQ5 := hid (Qo.stored (l' := x ++ [⟨ra, rn, rd, rpp, rk⟩]) HBz.out.1 HBz.out.2.1 HBz.out.2.2.1 hu5 (v' := .slice A5 (x.length + 1) c5) (by rw [List.flatMap_append, List.length_append]; simpa using ho5) (fun k hk => (hat5 k hk).imp id fun h => by simp at h; omega) rfl)
       clear ho5 hg5 hat5 hu5 p5 f5 x5 hS z0 c0 y0 y1 y2 y3 y4
       obtain ⟨F5, hq5, hm5⟩ := HQ5.out
       have HDn := hid (HDz.out.added hq5 hm5 HIs.out)
       clear hq5 hm5 HQ5
       go_wp2
       go_roundw
       case rel => exact ⟨j + 1, F5, _, l5, by omega, by go_num, hid ⟨HDn.out, by have := HXl.out; simp; omega, fun _ => hout.out⟩⟩
       case measure => simp [intOf]; omega
     · refine zs 5 (fun K hK => ?_)
       go_simp
       refine hK.out _ _ (trivial) (fun hS => ?_)
       clear hK K
       try simp only [Act.put, zA, zB, zC]
       refine rg_two 4 6 (by kernel_rfl) ?_ ?_
       · refine zs 4 (fun K hK => ?_)
         go_simp
         refine hK.out _ _ (trivial) (fun hS => ?_)
         clear hK K
         try simp only [Act.put, zA, zB, zC]
         refine zk 6 (fun K hK => ?_)
         go_simp
         refine hK.out _ _ (trivial) (fun hS => ?_)
         clear hK K
         try simp only [Act.put, zA, zB, zC]
         refine zk 7 (fun K hK => ?_)
         refine wp_ap_row 0 (.tmp 69) (.tmp 71) 80 71 (.agg #[.string ⟨#[]⟩, .string ⟨#[]⟩, .int .i64 0, .int .i64 0, .int .i64 0]) 5 56 (by rfl) Tryz.underlying80 rm_info rfl (by omega) (.slice Az x.length kz) x.length (x.flatMap rc) (some ⟨wz.drew.heap.size, 0, none⟩) 1 1 (rc ⟨ra, rn, rd, rpp, rk⟩) (by rfl) (by rfl) HAp.out (Rd_lit wz.drew _ 5 1 (rc ⟨ra, rn, rd, rpp, rk⟩) rfl) (rc_ones _) (by omega) (by omega) (Nat.zero_le _) ?_
         intro A5 c5 w5 ho5 hg5 hat5
         have hu5 : Upd (fun k => (Value.slice Az x.length kz).ownBlock = some k) wz w5 := (((Upd.refl _ wz).drew).alloc _).grown hg5 (fun kk hk => .inl hk)
         have p5 := HBz.out.1.upd hu5 (own_blk_ne HBz.out.2.1 HBz.out.1 (by decide))
         have f5 := p5.free 0
         have x5 := p5.cell 0
         simp at x5
         refine hK.out _ _ (trivial) (fun hS => ?_)
         clear hK K
         try simp only [Act.put, zA, zB, zC]
         refine zt 8 hS ?_
         refine zt 9 hS ?_
         refine zk 10 (fun K hK => ?_)
         go_simp
         refine hK.out _ _ (trivial) (fun hS => ?_)
         clear hK K
         try simp only [Act.put, zA, zB, zC]
         refine wpAnyH_done (by kernel_rfl) ?_ _
         have HQ5 := hid (Qo.stored (l' := x ++ [⟨ra, rn, rd, rpp, rk⟩]) HBz.out.1 HBz.out.2.1 HBz.out.2.2.1 hu5 (v' := .slice A5 (x.length + 1) c5) (by rw [List.flatMap_append, List.length_append]; simpa using ho5) (fun k hk => (hat5 k hk).imp id fun h => by simp at h; omega) rfl)
         clear ho5 hg5 hat5 hu5 p5 f5 x5 hS z0 c0 y0 y1 y2 y3 y4
         obtain ⟨F5, hq5, hm5⟩ := HQ5.out
         have HDn := hid (HDz.out.added hq5 hm5 HIs.out)
         clear hq5 hm5 HQ5
         go_wp2
         go_roundw
         case rel => exact ⟨j + 1, F5, _, l5, by omega, by go_num, hid ⟨HDn.out, by have := HXl.out; simp; omega, fun _ => hout.out⟩⟩
         case measure => simp [intOf]; omega
       · refine zs 6 (fun K hK => ?_)
         go_simp
         refine hK.out _ _ (trivial) (fun hS => ?_)
         clear hK K
         try simp only [Act.put, zA, zB, zC]
         refine zk 4 (fun K hK => ?_)
         go_simp
         refine hK.out _ _ (trivial) (fun hS => ?_)
         clear hK K
         try simp only [Act.put, zA, zB, zC]
         refine zk 7 (fun K hK => ?_)
         refine wp_ap_row 0 (.tmp 69) (.tmp 71) 80 71 (.agg #[.string ⟨#[]⟩, .string ⟨#[]⟩, .int .i64 0, .int .i64 0, .int .i64 0]) 5 56 (by rfl) Tryz.underlying80 rm_info rfl (by omega) (.slice Az x.length kz) x.length (x.flatMap rc) (some ⟨wz.drew.heap.size, 0, none⟩) 1 1 (rc ⟨ra, rn, rd, rpp, rk⟩) (by rfl) (by rfl) HAp.out (Rd_lit wz.drew _ 5 1 (rc ⟨ra, rn, rd, rpp, rk⟩) rfl) (rc_ones _) (by omega) (by omega) (Nat.zero_le _) ?_
         intro A5 c5 w5 ho5 hg5 hat5
         have hu5 : Upd (fun k => (Value.slice Az x.length kz).ownBlock = some k) wz w5 := (((Upd.refl _ wz).drew).alloc _).grown hg5 (fun kk hk => .inl hk)
         have p5 := HBz.out.1.upd hu5 (own_blk_ne HBz.out.2.1 HBz.out.1 (by decide))
         have f5 := p5.free 0
         have x5 := p5.cell 0
         simp at x5
         refine hK.out _ _ (trivial) (fun hS => ?_)
         clear hK K
         try simp only [Act.put, zA, zB, zC]
         refine zt 8 hS ?_
         refine zt 9 hS ?_
         refine zk 10 (fun K hK => ?_)
         go_simp
         refine hK.out _ _ (trivial) (fun hS => ?_)
         clear hK K
         try simp only [Act.put, zA, zB, zC]
         refine wpAnyH_done (by kernel_rfl) ?_ _
         have HQ5 := hid (Qo.stored (l' := x ++ [⟨ra, rn, rd, rpp, rk⟩]) HBz.out.1 HBz.out.2.1 HBz.out.2.2.1 hu5 (v' := .slice A5 (x.length + 1) c5) (by rw [List.flatMap_append, List.length_append]; simpa using ho5) (fun k hk => (hat5 k hk).imp id fun h => by simp at h; omega) rfl)
         clear ho5 hg5 hat5 hu5 p5 f5 x5 hS z0 c0 y0 y1 y2 y3 y4
         obtain ⟨F5, hq5, hm5⟩ := HQ5.out
         have HDn := hid (HDz.out.added hq5 hm5 HIs.out)
         clear hq5 hm5 HQ5
         go_wp2
         go_roundw
         case rel => exact ⟨j + 1, F5, _, l5, by omega, by go_num, hid ⟨HDn.out, by have := HXl.out; simp; omega, fun _ => hout.out⟩⟩
         case measure => simp [intOf]; omega
end Go.Proofs.YtclfmpieapbfnaaGreatDoor.Nd
end
