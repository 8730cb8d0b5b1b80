/- Part 20: lemmas, no conditions. -/
import Derived.Test.YtclfmpieapbfnaaGreatDoorZ19
set_option maxHeartbeats 4000000
set_option linter.unusedVariables false
set_option linter.unusedSimpArgs false
section
namespace Go.Proofs.YtclfmpieapbfnaaGreatDoor.Gl
open Go.RowKit B Cm Sm Dk Gp
theorem etake_step {a b:List Int} {j:Nat} (ha:j < a.length) (hb:j < b.length) (h:a.take j = b.take j) (he:gi a j = gi b j):a.take (j + 1) = b.take (j + 1):=by
 rw [List.take_succ_eq_append_getElem ha,List.take_succ_eq_append_getElem hb,h]
 have e1:gi a j = a[j]:=by simp [gi,List.getD_eq_getElem?_getD,List.getElem?_eq_getElem ha]
 have e2:gi b j = b[j]:=by simp [gi,List.getD_eq_getElem?_getD,List.getElem?_eq_getElem hb]
 rw [e1,e2] at he
 rw [he]
theorem equal8 (A B:Option Addr) (c d:Nat) (a b:List Int) (w:World) (hr:Rn w .u8 A a) (hs:Rn w .u8 B b) (ha:a.length ≤ 9223372036854775807) (hb:b.length ≤ 9223372036854775807) :
 Calls Tryz.prog 156 #[.slice A a.length c,.slice B b.length d] w fun e w' => e = .returned (.bool (decide (a = b))) ∧ Upd No w w':=by
 by_cases hl:a.length = b.length
 · go_enter Tryz.func156,Tryz.ntmps156
   have hl':(a.length:Int) = (b.length:Int):=by omega
   rw [← hl]
   have HL:=hid hl
   clear hl hl'
   go_wp2_with (fail)
   go_loopw [13] (fun v13 W => ∃ j:Nat,j ≤ a.length ∧ v13 = .int .i64 j ∧ Hid (a.take j = b.take j ∧ Upd No w W)) (fun v13 _ => a.length - (intOf v13).toNat)
   case atStart => exact ⟨0,by omega,rfl,hid ⟨by simp,Upd.refl _ _⟩⟩
   case round =>
    obtain ⟨j,hj,rfl,hH⟩:=hrel
    by_cases hlt:j < a.length
    · have hlb:j < b.length:=by have:=HL.out; omega
      have hra:Rn wr .u8 A a:=Rd.upd hr (by omega) hH.out.2 (fun _ _ => no_ _)
      have hrb:Rn wr .u8 B b:=Rd.upd hs (by omega) hH.out.2 (fun _ _ => no_ _)
      obtain ⟨ad,rfl,hx⟩:=hra.at_ hlt
      obtain ⟨bd,rfl,hy⟩:=hrb.at_ hlb
      have hj1:(0:Int) ≤ (j:Int):=by omega
      have hj2:(j:Int) < (a.length:Int):=by omega
      obtain ⟨x,hxe⟩:∃ x,x = gi a j:=⟨_,rfl⟩
      obtain ⟨y,hye⟩:∃ y,y = gi b j:=⟨_,rfl⟩
      rw [← hxe] at hx
      rw [← hye] at hy
      have HX:=hid hxe
      have HY:=hid hye
      clear hxe hye
      by_cases hxy:x = y
      · have b1:(x == y) = true:=by simp [hxy]
        have b2:(x != y) = false:=by simp [hxy]
        have HN:=hid (And.intro (etake_step hlt hlb hH.out.1 (by rw [← HX.out,← HY.out,hxy])) hH.out.2.drew)
        clear hxy
        go_wp2
        go_region
        all_goals
         go_wp2
         go_roundw
         case rel => exact ⟨j + 1,by omega,by go_num,hid HN.out⟩
         case measure => simp [intOf]; omega
      · have b1:(x == y) = false:=by simp [hxy]
        have b2:(x != y) = true:=by simp [hxy]
        have hne:Hid (a ≠ b):=hid (by
         rintro rfl
         exact hxy (HX.out.trans HY.out.symm))
        have HN:=hid hH.out.2.drew
        clear hxy
        go_wp2
        go_region
        all_goals
         go_wp2
         go_ret
         exact ⟨by rw [decide_eq_false hne.out]; rfl,HN.out⟩
    · obtain rfl:j = a.length:=by omega
      have hab:a = b:=by
       have:=hH.out.1
       rw [List.take_length] at this
       rw [this,HL.out,List.take_length]
      have hab':=hid hab
      clear hab
      go_wp2
      go_ret
      exact ⟨by rw [decide_eq_true hab'.out]; rfl,hH.out.2⟩
 · have hl':¬ (a.length:Int) = (b.length:Int):=by omega
   have hab:Hid (a ≠ b):=hid (by rintro rfl; exact hl rfl)
   go_enter Tryz.func156,Tryz.ntmps156
   go_wp2
   go_ret
   exact ⟨by rw [decide_eq_false hab.out]; rfl,Upd.refl _ _⟩
def bsOf (d:Dm) (fr:Nat):Nat → List Int:=fun k => (last d.log (fr + k)).getD (List.replicate 256 0)
def Fit (d:Dm):Prop:=∀ x ∈ d.log,x.2.length = 256 ∧ Byte x.2
theorem last_acc:∀ (l:List (Nat × List Int)) (i:Nat) (o:Option (List Int)),l.foldl (fun o r => if r.1 = i then some r.2 else o) o = o ∨ ∃ x ∈ l,l.foldl (fun o r => if r.1 = i then some r.2 else o) o = some x.2:=by
 intro l i
 induction l with
 | nil => intro o; exact .inl rfl
 | cons r t ih =>
  intro o
  rw [List.foldl_cons]
  by_cases h:r.1 = i
  · rw [if_pos h]
    rcases ih (some r.2) with e | ⟨x,hx,e⟩
    · exact .inr ⟨r,by simp,e⟩
    · exact .inr ⟨x,by simp [hx],e⟩
  · rw [if_neg h]
    rcases ih o with e | ⟨x,hx,e⟩
    · exact .inl e
    · exact .inr ⟨x,by simp [hx],e⟩
theorem last_mem (l:List (Nat × List Int)) (i:Nat):last l i = none ∨ ∃ x ∈ l,last l i = some x.2:=last_acc l i none
theorem bsOf_ok {d:Dm} (h:Fit d) (fr k:Nat):(bsOf d fr k).length = 256 ∧ Byte (bsOf d fr k):=by
 unfold bsOf
 rcases last_mem d.log (fr + k) with e | ⟨x,hx,e⟩
 · rw [e]
   refine ⟨List.length_replicate,fun c hc => ?_⟩
   have:=List.eq_of_mem_replicate (show c ∈ List.replicate 256 (0:Int) from hc)
   omega
 · rw [e]
   exact h x hx
def opL (d:Dm) (fr count ep:Int):Int × Option Lm:=
 if areaB d.nb fr count = false then (1,none) else if d.down = true then (9,none)
 else (0,some ⟨fr.toNat,count.toNat,ep,(scan ep (bsOf d fr.toNat) count.toNat 0 [] 0).1,(scan ep (bsOf d fr.toNat) count.toNat 0 [] 0).2,false⟩)
def OpOut (w:World) (p:Nat) (r:Int × Option Lm) (e:Ending) (w':World):Prop:=
 match r.2 with
 | none => e = .returned (.tuple #[.pointer none,.int .i64 r.1]) ∧ Upd No w w'
 | some m => ∃ q F,e = .returned (.tuple #[.pointer (some ⟨q,0,none⟩),.int .i64 r.1]) ∧ Lg w' F q p m ∧ m.ok ∧ (∀ k,F k → w.heap.size ≤ k) ∧ Upd No w w'
theorem OpOut.none_ {w:World} {p:Nat} {r:Int × Option Lm} {c:Int} {e:Ending} {w':World} (hr:r = (c,none)) (h:e = .returned (.tuple #[.pointer none,.int .i64 c]) ∧ Upd No w w'):OpOut w p r e w':=by
 subst hr
 exact h
theorem OpOut.some_ {w:World} {p:Nat} {r:Int × Option Lm} {m:Lm} {e:Ending} {w':World} (hr:r = (0,some m)) (h:∃ q F,e = .returned (.tuple #[.pointer (some ⟨q,0,none⟩),.int .i64 0]) ∧ Lg w' F q p m ∧ m.ok ∧ (∀ k,F k → w.heap.size ≤ k) ∧ Upd No w w'):OpOut w p r e w':=by
 subst hr
 exact h
structure Og (w W:World) (F:Nat → Prop) (q p:Nat) (m:Lm) (v:Value) (u:List Int) (k:Nat):Prop where
 lg:Lg W F q p m
 row:W.ownsRow 0 5 1 v u.length (nums .u8 u)
 vo:∀ g,v.ownBlock = some g → w.heap.size ≤ g ∧ ¬ F g
 fo:∀ k,F k → w.heap.size ≤ k
 upd:Upd No w W
 many:m.us.length ≤ k
 long:∀ x ∈ m.us,x.length ≤ 20000000
 ul:u.length ≤ 233 * k
 le:m.used ≤ k
section
variable {w W W':World} {F:Nat → Prop} {q p k:Nat} {m:Lm} {v:Value} {u:List Int}
theorem Og.quiet (h:Og w W F q p m v u k) (hu:Upd No W W'):Og w W' F q p m v u k:=
 ⟨h.lg.upd hu fun _ _ => no_ _,own_upd h.row hu fun _ _ => no_ _,h.vo,h.fo,h.upd.next hu,h.many,h.long,h.ul,h.le⟩
end
theorem Og.more {w W W1:World} {F:Nat → Prop} {q p k:Nat} {m:Lm} {v:Value} {u x:List Int} {A1:Option Addr} {c1:Nat} (h:Og w W F q p m v u k) (hx:x.length ≤ 233)
 (ho:W1.ownsRow 0 5 1 (.slice A1 (u.length + x.length) c1) (u.length + x.length) (nums .u8 u ++ nums .u8 x)) (hg:W.grownBy W1 v.ownBlock)
 (hat:∀ g,(Value.slice A1 (u.length + x.length) c1).ownBlock = some g → v.ownBlock = some g ∨ W.heap.size ≤ g):Og w W1 F q p m (.slice A1 (u.length + x.length) c1) (u ++ x) (k + 1):=by
 have hu:Upd (fun i => v.ownBlock = some i) W W1:=(Upd.refl _ _).grown hg fun i hi => .inl hi
 refine ⟨h.lg.upd hu fun i hi e => (h.vo i e).2 hi,by rw [List.length_append,nums_append]; exact ho,fun g hgg => ?_,h.fo,h.upd.trans hu fun i hi e => ?_,by have:=h.many; omega,h.long,by have:=h.ul; rw [List.length_append]; omega,by have:=h.le; omega⟩
 · rcases hat g hgg with e | e
   · exact h.vo g e
   · exact ⟨Nat.le_trans h.upd.size e,fun hf => by have:=h.lg.lt g hf; omega⟩
 · have:=(h.vo i e).1
   omega
theorem Og.ended {w W W2 W3:World} {F:Nat → Prop} {q p k fr count used:Nat} {ep:Int} {us:List (List Int)} {v vu:Value} {vs:List Un} {u:List Int} {A3:Option Addr} {c3:Nat}
 (h:Og w W F q p ⟨fr,count,ep,us,used,false⟩ v u (k + 1)) (hal:Upd No W W2) (hk:k + 1 ≤ 65536)
 (hb:Blk W q 312 #[.pointer (some ⟨p,0,none⟩),.int .i64 fr,.int .i64 count,.int .u64 ep,vu,.int .i64 used,.bool false])
 (hvs:vs.map (·.1) = us) (hF:∀ x ∈ vs,Uok W2 F x) (hrow:W2.ownsRow 0 22 1 vu vs.length (vs.map (·.2))) (hv:∀ k,vu.ownBlock = some k → F k) (hx:W2.ownsRow 0 5 1 v u.length (nums .u8 u)) (hlen:us.length ≤ k)
 (ho3:W3.ownsRow 0 22 1 (.slice A3 (vs.length + 1) c3) (vs.length + 1) (vs.map (·.2) ++ [v])) (hg:W2.grownBy W3 vu.ownBlock)
 (hat:∀ g,(Value.slice A3 (vs.length + 1) c3).ownBlock = some g → vu.ownBlock = some g ∨ W2.heap.size ≤ g) :
 ∃ F',Og w ((W3.setCell ⟨q,4,none⟩ (.slice A3 (vs.length + 1) c3)).setCell ⟨q,5,none⟩ (.int .i64 ((k + 1:Nat):Int))) F' q p ⟨fr,count,ep,us ++ [u],k + 1,false⟩ (.slice none 0 0) [] (k + 1):=by
 have hFq:=h.lg.here
 have hgu:Upd (fun i => vu.ownBlock = some i) W2 W3:=(Upd.refl _ _).grown hg fun i hi => .inl hi
 have hqo:vu.ownBlock ≠ some q:=own_blk_ne hrow (hb.upd hal (no_ _)) (by decide)
 have hb3:Blk W3 q 312 #[.pointer (some ⟨p,0,none⟩),.int .i64 fr,.int .i64 count,.int .u64 ep,vu,.int .i64 used,.bool false]:=(hb.upd hal (no_ _)).upd hgu hqo
 have hp:=push_uns hF hrow hv hx ho3 hg
 rw [hvs] at hp
 have hu4:Upd (fun i => i = q) W3 ((W3.setCell ⟨q,4,none⟩ (.slice A3 (vs.length + 1) c3)).setCell ⟨q,5,none⟩ (.int .i64 ((k + 1:Nat):Int))):=((Upd.refl _ _).set1 _ _).set1 _ _
 have hblk:=(hb3.put 4 (.slice A3 (vs.length + 1) c3)).put 5 (.int .i64 ((k + 1:Nat):Int))
 have hs2:=hal.size
 have hs3:=hg.size
 have hs0:=h.upd.size
 have hz:((W3.setCell ⟨q,4,none⟩ (.slice A3 (vs.length + 1) c3)).setCell ⟨q,5,none⟩ (.int .i64 ((k + 1:Nat):Int))).heap.size = W3.heap.size:=by simp [World.setCell]
 refine ⟨_,⟨⟨_,by simpa using hblk,hp.far hb3 (by decide) (by decide) hu4,.inl hFq,fun i hi => ?_⟩,World.ownsRow_nil _ _ _ _,fun g hg => by simp [Value.ownBlock] at hg,fun i hi => ?_,?_,by simp; omega,fun x hxm => ?_,by simp,Nat.le_refl _⟩⟩
 · rw [hz]
   rcases hi with hi | hi | hi
   · have:=h.lg.lt i hi; omega
   · have:=(h.row.lt i hi).2; omega
   · exact (ho3.lt i hi).2
 · rcases hi with hi | hi | hi
   · exact h.fo i hi
   · exact (h.vo i hi).1
   · rcases hat i hi with e | e
     · exact h.fo i (hv i e)
     · omega
 · have h1:=(h.upd.next hal).trans hgu fun i hi e => by have:=h.fo i (hv i e); omega
   exact h1.trans hu4 fun i hi e => by have:=h.fo q hFq; omega
 · rcases List.mem_append.1 hxm with hxm | hxm
   · exact h.long x hxm
   · obtain rfl:=List.mem_singleton.1 hxm
     have:=h.ul
     omega
set_option maxRecDepth 100000 in
theorem open_ (p:Nat) (d:Dm) (D:Nat → Prop) (fr count ep:Int) (w:World) (h:Dk w D p d) (hok:d.ok) (hfit:Fit d) (hep:0 ≤ ep ∧ ep ≤ 18446744073709551615) :
 Calls Tryz.prog 84 #[.pointer (some ⟨p,0,none⟩),.int .i64 fr,.int .i64 count,.int .u64 ep] w fun e w' => OpOut w p (opL d fr count ep) e w':=by
 have HA:=hid (area p d D fr count w h hok)
 have HD:=hid fun W (hu:Upd No w W) => h.upd hu fun _ _ => no_ _
 have HOk:=hid (And.intro hok hfit)
 have hnb:=hok.2.2
 have hR:Hid (opL d fr count ep = if areaB d.nb fr count = false then (1,none) else if d.down = true then (9,none)
  else (0,some ⟨fr.toNat,count.toNat,ep,(scan ep (bsOf d fr.toNat) count.toNat 0 [] 0).1,(scan ep (bsOf d fr.toNat) count.toNat 0 [] 0).2,false⟩)):=hid rfl
 clear h hok hfit
 go_enter Tryz.func84,Tryz.ntmps84
 go_wp2_with (fail)
 refine HA.out.mono ?_
 rintro e w1 ⟨rfl,rfl⟩
 rcases har:areaB d.nb fr count with _ | _
 · have hout:Hid (opL d fr count ep = (1,none)):=hid (by rw [hR.out,har,if_pos rfl])
   clear har
   go_wp2
   go_ret2
   exact .none_ hout.out ⟨rfl,Upd.refl _ _⟩
 have har':=har
 simp only [areaB,decide_eq_true_eq] at har'
 obtain ⟨a1,a2,a3,a4⟩:=har'
 obtain ⟨f,rfl⟩:∃ f:Nat,fr = f:=⟨fr.toNat,by omega⟩
 obtain ⟨n,rfl⟩:∃ n:Nat,count = n:=⟨count.toNat,by omega⟩
 have hfn:f + n ≤ d.nb:=by omega
 have HNb:=hid hnb
 have hn6:f + n ≤ 65536:=by omega
 have HRd:Hid (∀ k,k < n → d.down = false → d.rd ((f + k:Nat):Int) = (bsOf d f k,0)):=hid fun k hk hd => by
  unfold Dm.rd
  rw [hd,if_neg (by simp),if_neg (by omega),Int.toNat_natCast]
  rfl
 rw [har,if_neg (by simp)] at hR
 clear har a2 a3 a4 HA
 have HW0:Hid (∃ w2 q,w2 = w.alloc (.cells #[.pointer (some ⟨p,0,none⟩),.int .i64 f,.int .i64 n,.int .u64 ep,.slice none 0 0,.int .i64 0,.bool false] 312) ∧ q = w.heap.size ∧ Og w w2 (fun k => k = q) q p ⟨f,n,ep,[],0,false⟩ (.slice none 0 0) [] 0):=hid
  ⟨_,_,rfl,rfl,⟨⟨_,Blk.fresh _ _ _,Uns.nil _ _,rfl,fun k hk => by subst hk; simp⟩,World.ownsRow_nil _ _ _ _,fun g hg => by simp [Value.ownBlock] at hg,fun k hk => by omega,(Upd.refl _ _).alloc _,by simp,fun x hx => (by cases hx),by simp,by simp⟩⟩
 go_wp2_with (fail)
 obtain ⟨w2,q,hw2,hq,hO⟩:=HW0.out
 rw [← hw2,← hq]
 have HO:=hid hO
 clear hw2 hq hO HW0
 rcases hdn:d.down with _ | _
 case' true =>
  have hout:Hid (opL d f n ep = (9,none)):=hid (by rw [hR.out,if_pos hdn])
  have HR9:Hid (∀ W,Upd No w W → Calls Tryz.prog 144 #[.pointer (some ⟨p,0,none⟩),.int .i64 f] W fun e w' => RdOw W ([],9) e w'):=hid fun W hu => by
   have h1:=read_ p d D f W (HD.out W hu) HOk.out.1
   have h2:d.rd f = ([],9):=by unfold Dm.rd; rw [hdn,if_pos rfl]
   rwa [h2] at h1
  unfold RdOw at HR9
  have hn1:(0:Int) < (n:Int):=by omega
  have hU2:=hid HO.out.upd
  clear hdn hR HO
  go_loopw [12] (fun v12 W => v12 = .int .i64 0 ∧ Hid (Upd No w W)) (fun v12 _ => 0)
  case atStart => exact ⟨rfl,hU2⟩
  case round =>
   clear hU2
   obtain ⟨rfl,HU⟩:=hrel
   go_wp2_with (fail)
   refine (HR9.out _ HU.out).mono ?_
   rintro e w3 ⟨A3,c3,rfl,_,hu3,_,_⟩
   have HU3:=hid (Upd.next HU.out hu3)
   clear hu3
   go_wp2
   go_ret2
   exact .none_ hout.out ⟨rfl,HU3.out⟩
 rw [hdn,if_neg (by simp),Int.toNat_natCast,Int.toNat_natCast] at hR
 have HDn:=hid hdn
 clear hdn
 go_loopw [11,12] (fun v11 v12 W => ∃ (k:Nat) (F:Nat → Prop) (us:List (List Int)) (used:Nat) (u:List Int),k ≤ n ∧ v12 = .int .i64 k ∧ Hid (Og w W F q p ⟨f,n,ep,us,used,false⟩ v11 u k ∧
  scan ep (bsOf d f) n 0 [] 0 = (us ++ (scan ep (bsOf d f) (n - k) k u used).1,(scan ep (bsOf d f) (n - k) k u used).2))) (fun _ v12 _ => n - (intOf v12).toNat)
 case atStart => exact ⟨0,_,[],0,[],by omega,rfl,hid ⟨HO.out,by simp⟩⟩
 case round =>
  clear HO
  obtain ⟨k,F,us,used,u,hk,rfl,HW⟩:=hrel
  have HFin:Hid (∀ (W:World) F' us' used' v u' k',k' ≤ n → Og w W F' q p ⟨f,n,ep,us',used',false⟩ v u' k' → scan ep (bsOf d f) n 0 [] 0 = (us',used') → ∃ q' F2,Ending.returned (.tuple #[.pointer (some ⟨q,0,none⟩),.int .i64 0]) = .returned (.tuple #[.pointer (some ⟨q',0,none⟩),.int .i64 0]) ∧ Lg W F2 q' p ⟨f,n,ep,(scan ep (bsOf d f) n 0 [] 0).1,(scan ep (bsOf d f) n 0 [] 0).2,false⟩ ∧ Lm.ok ⟨f,n,ep,(scan ep (bsOf d f) n 0 [] 0).1,(scan ep (bsOf d f) n 0 [] 0).2,false⟩ ∧ (∀ k,F2 k → w.heap.size ≤ k) ∧ Upd No w W):=hid fun W F' us' used' v u' k' hk' ho he => by
   rw [he]
   exact ⟨q,F',rfl,ho.lg,⟨by have:=ho.le; simp only at this ⊢; omega,hn6,hep,by have:=ho.many; simp only at this ⊢; omega,ho.long⟩,ho.fo,ho.upd⟩
  by_cases hlt:k < n
  · obtain ⟨b,hb⟩:∃ b,b = bsOf d f k:=⟨_,rfl⟩
    have hbok:=bsOf_ok HOk.out.2 f k
    have hRr:=read_ p d D ((f + k:Nat):Int) wr (HD.out _ HW.out.1.upd) HOk.out.1
    rw [HRd.out k hlt HDn.out,← hb] at hRr
    rw [← hb] at hbok
    have HB:=hid hb
    have HBok:=hid hbok
    unfold RdOw at hRr
    have HRr:=hid hRr
    have HFk:=hid (show (f:Int) + (k:Int) = ((f + k:Nat):Int) by omega)
    have hk2:(k:Int) < (n:Int):=by omega
    have hnk:n - k = n - (k + 1) + 1:=by omega
    have HNk:=hid hnk
    clear hb hbok hRr hnk
    go_wp2_with (fail)
    rw [HFk.out]
    refine HRr.out.mono ?_
    rintro e w3 ⟨A3,c3,rfl,hr3,hu3,hc31,hc32⟩
    try simp only at hr3 hc31
    have HW3:=hid (HW.out.1.quiet hu3)
    have hw32:IntKind.u32.wrap (k:Int) = (k:Int):=by
     rw [IntKind.wrap_u32]
     omega
    have HOp:=hid (Sw.open_ A3 c3 b 76 (k:Int) w3 hr3 hc31 hc32 HBok.out.2 (by omega) (by omega))
    have HPc:Hid (piece ep k b = if okOf 76 k b = true ∧ ¬ (outOf 76 k b).length < 10 ∧ (outOf 76 k b).take 9 = hdr ep (decide (gi (outOf 76 k b) 8 = 1)) then some ((outOf 76 k b).drop 9,decide (gi (outOf 76 k b) 8 = 1)) else none):=hid rfl
    have HPb:Hid (Byte (outOf 76 k b) ∧ (outOf 76 k b).length ≤ 242):=hid (by
     unfold outOf
     split
     · rename_i hokk
       refine ⟨pay_bytes b HBok.out.2,?_⟩
       unfold okOf at hokk
       simp only [Bool.and_eq_true,decide_eq_true_eq] at hokk
       rw [pay_length b hokk.1 hokk.2.1]
       omega
     · exact ⟨fun c hc => (by cases hc),by simp⟩)
    unfold Sw.OpenPost at HOp
    generalize okOf 76 (k:Int) b = ok at *
    generalize outOf 76 (k:Int) b = pp at *
    clear hr3 hu3 hc31 hc32 HRr
    go_wp2_with (fail)
    refine HOp.out.mono ?_
    rintro e w4 ⟨A4,c4,rfl,ho4,hu4⟩
    have HW4:=hid (HW3.out.quiet hu4)
    obtain ⟨_,_,hsv,hc41,hc42⟩:=own_shape ho4
    simp only [Value.slice.injEq,true_and] at hsv
    obtain ⟨rfl,rfl⟩:=hsv
    have HP4:Hid (∀ W,Upd No w4 W → Rn W .u8 A4 pp):=hid fun W hu => Rd.upd (Rd.of_own ho4) (by omega) hu fun _ _ => no_ _
    have hpl:pp.length ≤ 242:=HPb.out.2
    simp only [maxLen] at hc42
    clear ho4 hu4 HW3 HOp hw32
    rcases ok with _ | _
    · have hstop:Hid (scan ep (bsOf d f) n 0 [] 0 = (us,used)):=hid (by
       rw [HW.out.2,HNk.out,scan,← HB.out,HPc.out,if_neg (by simp)]
       simp)
      go_wp2
      go_ret2
      exact .some_ hR.out (HFin.out _ _ _ _ _ _ _ hk HW4.out hstop.out)
    by_cases hp10:pp.length < 10
    · have hp10':(pp.length:Int) < 10:=by omega
      have hstop:Hid (scan ep (bsOf d f) n 0 [] 0 = (us,used)):=hid (by
       rw [HW.out.2,HNk.out,scan,← HB.out,HPc.out,if_neg (fun h => h.2.1 hp10)]
       simp)
      go_wp2
      go_ret2
      exact .some_ hR.out (HFin.out _ _ _ _ _ _ _ hk HW4.out hstop.out)
    have hp10':¬ (pp.length:Int) < 10:=by omega
    obtain ⟨ad,rfl,hx8⟩:=(HP4.out w4 (Upd.refl _ _)).at_ (i:=8) (by omega)
    have hx8':w4.cell? ⟨ad.block,ad.off + 8,none⟩ = some (.int .u8 (gi pp 8)):=hx8
    have hcut:=cut_to (P:=Tryz.prog) 22 5 .i64 Tryz.underlying22 (by kernel_rfl) (some ad) pp.length c4 9 9 rfl (by omega)
    obtain ⟨A5,hA5,hcut2⟩:=cut_from (P:=Tryz.prog) 22 5 .i64 Tryz.underlying22 (by kernel_rfl) (some ad) pp.length c4 9 9 rfl (by omega)
    have HP5:Hid (∀ W,Upd No w4 W → Rn W .u8 A5 (pp.drop 9)):=hid fun W hu => by
     rw [hA5]
     exact Rn.drop (HP4.out W hu) (by omega) (by omega)
    have HP9:Hid (∀ W,Upd No w4 W → Rn W .u8 (some ad) (pp.take 9)):=hid fun W hu => Rn.take (HP4.out W hu) (by omega)
    have HLn:Hid ((pp.take 9).length = 9 ∧ (pp.drop 9).length = pp.length - 9):=hid ⟨by rw [List.length_take]; omega,by rw [List.length_drop]⟩
    obtain ⟨vu,hbl,⟨vs,hvs,hrow,hxs,hv⟩,_,_⟩:=HW4.out.lg
    simp only at hbl hvs
    have hvl:vs.length = us.length:=by rw [← hvs]; simp
    have hml:=HW.out.1.many
    simp only at hml
    have hvl2:vs.length + 1 ≤ 9223372036854775807:=by omega
    have hvl3:(vs.length + 1) * 24 ≤ 140737488355328:=by omega
    have HVl:=hid hvl
    obtain ⟨Av,cv,hvu,_,_⟩:=own_shape hrow
    subst hvu
    have HBl:=hid hbl
    have HU4:=hid (And.intro hvs (And.intro hrow (And.intro hxs hv)))
    have HEp:=hid hep
    obtain ⟨y,hy⟩:∃ y,y = gi pp 8:=⟨_,rfl⟩
    rw [← hy] at hx8' HPc
    obtain ⟨lst,hlst⟩:∃ lst,lst = decide (y = 1):=⟨_,rfl⟩
    rw [← hlst] at HPc
    have hyb:(y == 1) = lst:=by rw [hlst]; rfl
    have hHd:=fun W (hu:Upd No w4 W) => header q _ _ _ (.slice Av vs.length cv) _ _ ep lst W (HBl.out.upd hu (no_ _)) HEp.out
    have HHd:=hid hHd
    have hEq:∀ W g,Nb W 5 g (hdr ep lst) → Upd No w4 W → Calls Tryz.prog 156 #[.slice (some ad) 9 c4,.slice (some ⟨g,0,none⟩) 9 9] W fun e w' => e = .returned (.bool (decide (pp.take 9 = hdr ep lst))) ∧ Upd No W w':=fun W g hn hu => by
     have h1:=equal8 (some ad) (some ⟨g,0,none⟩) c4 9 (pp.take 9) (hdr ep lst) W (HP9.out W hu) hn.rn (by rw [HLn.out.1]; omega) (by rw [hdr_length]; omega)
     rwa [HLn.out.1,hdr_length] at h1
    have HEq:=hid hEq
    clear hA5 hx8 hbl hvs hrow hxs hv hvl hHd hEq hep hy hlst
    go_wp2_with (fail)
    try rw [hyb]
    clear hx8' hyb
    refine wp_region_held_drew (S:=fun W => Upd No w4 W) (by kernel_rfl) (Upd.drew (Upd.refl _ _)) (fun hS => ?_)
    refine zt 0 hS ?_
    refine zh 1 hS (fun w hw => hcut w) ?_
    refine zt 2 hS ?_
    refine zt 3 hS ?_
    refine zk 4 (fun K hK => ?_)
    go_simp
    refine Calls.mono (HHd.out _ hS) ?_
    rintro e w5 ⟨g5,rfl,hn5,hg5,hu5⟩
    go_wp2_with (fail)
    refine hK.out _ _ ((Upd.next hS hu5)) (fun hS => ?_)
    clear hK K
    try simp only [Act.put,zA,zB,zC]
    refine zk 5 (fun K hK => ?_)
    go_simp
    refine Calls.mono (HEq.out _ _ hn5 hS) ?_
    rintro e w6 ⟨rfl,hu6⟩
    go_wp2_with (fail)
    refine hK.out _ _ ((Upd.next hS hu6)) (fun hS => ?_)
    clear hK K
    try simp only [Act.put,zA,zB,zC]
    refine zt 6 hS ?_
    refine wpAnyH_done (by kernel_rfl) ?_ _
    have HS:=hid hS
    have HW6:=hid (HW4.out.quiet HS.out)
    clear hn5 hu5 hu6 hS HHd HEq
    rcases heq:decide (pp.take 9 = hdr ep lst) with _ | _
    · have hstop:Hid (scan ep (bsOf d f) n 0 [] 0 = (us,used)):=hid (by
       rw [HW.out.2,HNk.out,scan,← HB.out,HPc.out,if_neg (fun h => of_decide_eq_false heq h.2.2)]
       simp)
      clear heq
      go_wp2
      go_ret2
      exact .some_ hR.out (HFin.out _ _ _ _ _ _ _ hk HW6.out hstop.out)
    have HSc:Hid (scan ep (bsOf d f) n 0 [] 0 = (us ++ (match lst with
     | false => scan ep (bsOf d f) (n - (k + 1)) (k + 1) (u ++ pp.drop 9) used
     | true => ((u ++ pp.drop 9) :: (scan ep (bsOf d f) (n - (k + 1)) (k + 1) [] (k + 1)).1,(scan ep (bsOf d f) (n - (k + 1)) (k + 1) [] (k + 1)).2)).1,(match lst with
     | false => scan ep (bsOf d f) (n - (k + 1)) (k + 1) (u ++ pp.drop 9) used
     | true => ((u ++ pp.drop 9) :: (scan ep (bsOf d f) (n - (k + 1)) (k + 1) [] (k + 1)).1,(scan ep (bsOf d f) (n - (k + 1)) (k + 1) [] (k + 1)).2)).2)):=hid (by
     rw [HW.out.2,HNk.out,scan,← HB.out,HPc.out,if_pos ⟨by simp,hp10,of_decide_eq_true heq⟩]
     rcases lst with _ | _ <;> rfl)
    clear heq HPc
    obtain ⟨Au,cu,hvu,_,_⟩:=own_shape HW6.out.row
    subst hvu
    have hul:=HW6.out.ul
    obtain ⟨x,hx⟩:∃ x,x = pp.drop 9:=⟨_,rfl⟩
    rw [← hx] at HSc HP5 HLn
    have hxl:x.length = pp.length - 9:=HLn.out.2
    have HX5:=hid (HP5.out _ HS.out)
    rw [← hxl] at hcut2
    have hx233:x.length ≤ 233:=by omega
    clear hx HLn HP9 HP5 HP4 hxl
    have HB6:Hid (Blk w6 q 312 #[.pointer (some ⟨p,0,none⟩),.int .i64 f,.int .i64 n,.int .u64 ep,.slice Av vs.length cv,.int .i64 used,.bool false] ∧ (Value.slice Au u.length cu).ownBlock ≠ some q):=hid ⟨HBl.out.upd HS.out (no_ _),own_blk_ne HW6.out.row (HBl.out.upd HS.out (no_ _)) (by decide)⟩
    rcases lst with _ | _
    · go_wp2_with (at_builtin; refine ap_row 0 rfl (.tmp 69) (.tmp 71) 22 5 (.int .u8 0) 1 1 rfl Tryz.underlying22 Sw.u8_info rfl (by omega) (.slice Au u.length cu) u.length (nums .u8 u) A5 x.length (c4 - 9) (nums .u8 x) rfl rfl HW6.out.row HX5.out (nums_one _ _) (by omega) (by omega) (Nat.zero_le _) ?_; intro A7 c7 w7 ho7 hg7 hat7; have hb7:=HB6.out.1.grown hg7 HB6.out.2.symm; obtain ⟨_,_,_,_,c47,_,_⟩:=Lg.cells hb7)
      have HW7:=hid (HW6.out.more (x:=x) (by omega) ho7 hg7 hat7)
      have HB7:=hid hb7
      have HUp:Hid (Upd (fun i => (Value.slice Au u.length cu).ownBlock = some i) w4 w7 ∧ ∀ g,(Value.slice Au u.length cu).ownBlock = some g → ¬ F g):=hid ⟨(HS.out.mono fun _ _ h => h.elim).grown hg7 fun i hi => .inl hi,fun g hgg => (HW6.out.vo g hgg).2⟩
      have HLe:=hid (show (u ++ x).length = u.length + x.length from List.length_append ..)
      rw [← HLe.out] at HW7 ⊢
      clear ho7 hg7 hat7 HX5 HW6 hcut hcut2 hb7
      generalize u ++ x = u2 at *
      clear HLe
      have HN:=hid (And.intro HW7.out HSc.out)
      simp only at HN
      clear HW7 HSc
      go_wp2
      go_roundw
      case rel => exact ⟨k + 1,F,us,used,u2,by omega,by go_num,HN⟩
      case measure => simp [intOf]; omega
    · go_wp2_with (at_builtin; first
       | (refine ap_row 0 rfl (.tmp 69) (.tmp 71) 22 5 (.int .u8 0) 1 1 rfl Tryz.underlying22 Sw.u8_info rfl (by omega) (.slice Au u.length cu) u.length (nums .u8 u) A5 x.length (c4 - 9) (nums .u8 x) rfl rfl HW6.out.row HX5.out (nums_one _ _) (by omega) (by omega) (Nat.zero_le _) ?_; intro A7 c7 w7 ho7 hg7 hat7; have hb7:=HB6.out.1.grown hg7 HB6.out.2.symm; obtain ⟨_,_,_,_,c47,_,_⟩:=Lg.cells hb7)
       | (have HW7:=hid (HW6.out.more (x:=x) (by omega) ho7 hg7 hat7); have HB7:=hid hb7; have HUp:Hid (Upd (fun i => (Value.slice Au u.length cu).ownBlock = some i) w4 w7 ∧ ∀ g,(Value.slice Au u.length cu).ownBlock = some g → ¬ F g):=hid ⟨(HS.out.mono fun _ _ h => h.elim).grown hg7 fun i hi => .inl hi,fun g hgg => (HW6.out.vo g hgg).2⟩; have HLe:=hid (show (u ++ x).length = u.length + x.length from List.length_append ..); rw [← HLe.out] at HW7 ⊢; clear ho7 hg7 hat7 HX5 HW6 hcut hcut2 hb7; generalize u ++ x = u2 at *; clear HLe; have hF7:∀ k,F k → ¬ (Value.slice Au u.length cu).ownBlock = some k:=fun k hk e => HUp.out.2 k e hk; have hrow:=own_upd HU4.out.2.1 HUp.out.1 fun g hg => hF7 g (HU4.out.2.2.2 g hg); have hxs:∀ x ∈ vs,Uok w7 F x:=fun x hx => (HU4.out.2.2.1 x hx).upd HUp.out.1 hF7; have hal:Upd No w7 (w7.alloc (.cells #[.slice A7 u2.length c7] 22)):=(Upd.refl _ _).alloc _; have HO:=hid (And.intro HU4.out.1 (And.intro (own_upd hrow hal fun _ _ => no_ _) (And.intro (fun x hx => (hxs x hx).upd hal fun _ _ => no_ _) (And.intro HU4.out.2.2.2 (own_upd HW7.out.row hal fun _ _ => no_ _))))); have HNo:=hid (own_blk_ne hrow HB7.out (by decide)); clear hrow hxs hF7; refine ap_row 0 rfl (.tmp 78) (.tmp 80) 119 22 (.slice none 0 0) 1 24 rfl Tryz.underlying119 sl_info rfl (by omega) (.slice Av vs.length cv) vs.length (vs.map (·.2)) (some ⟨w7.heap.size,0,none⟩) 1 1 [.slice A7 u2.length c7] rfl rfl HO.out.2.1 (Rd_lit w7 _ 1 1 _ rfl) (by intro u hu; obtain rfl:=List.mem_singleton.1 hu; rfl) hvl2 hvl3 (Nat.zero_le _) ?_; intro A8 c8 w8 ho8 hg8 hat8; have hb8:=((HB7.out.alloc _).grown hg8 HNo.out.symm); have f48:=hb8.free 4; have f58:=hb8.free 5; obtain ⟨_,_,_,_,c48,c58,_⟩:=Lg.cells hb8))
      have HF:=hid (HW7.out.ended hal (by omega) HB7.out HO.out.1 HO.out.2.2.1 HO.out.2.1 HO.out.2.2.2.1 HO.out.2.2.2.2 (by omega) ho8 hg8 hat8)
      have HN:Hid (scan ep (bsOf d f) n 0 [] 0 = (us ++ [u2] ++ (scan ep (bsOf d f) (n - (k + 1)) (k + 1) [] (k + 1)).1,(scan ep (bsOf d f) (n - (k + 1)) (k + 1) [] (k + 1)).2)):=hid (by
       rw [HSc.out]
       simp)
      obtain ⟨F',hO'⟩:=HF.out
      have HF':=hid hO'
      rw [show ((k + 1:Nat):Int) = (k:Int) + 1 from by omega] at HF'
      clear ho8 hg8 hat8 hal hb8 HF hO'
      go_roundw
      case rel => exact ⟨k + 1,F',us ++ [u2],k + 1,[],by omega,by go_num,hid ⟨HF'.out,HN.out⟩⟩
      case measure => simp [intOf]; omega
  · obtain rfl:k = n:=by omega
    have hstop:Hid (scan ep (bsOf d f) k 0 [] 0 = (us,used)):=hid (by
     rw [HW.out.2,Nat.sub_self,scan]
     simp)
    go_wp2
    go_ret2
    exact .some_ hR.out (HFin.out _ _ _ _ _ _ _ hk HW.out.1 hstop.out)
end Go.Proofs.YtclfmpieapbfnaaGreatDoor.Gl
end
