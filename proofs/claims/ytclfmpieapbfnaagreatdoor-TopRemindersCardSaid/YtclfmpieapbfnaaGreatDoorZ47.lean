/-
  Part 47 of the proof of the statement that the last part ends in: lemmas, no conditions of their own.
-/
import Derived.Test.YtclfmpieapbfnaaGreatDoorZ46
import Derived.Test.YtclfmpieapbfnaaGreatDoorZ43
import Derived.Test.YtclfmpieapbfnaaGreatDoorZ25
import Derived.Test.YtclfmpieapbfnaaGreatDoorZ29
set_option linter.unusedVariables false
set_option linter.unusedSimpArgs false
section
namespace Go.Proofs.YtclfmpieapbfnaaGreatDoor.Eg
open Go.RowKit B Cm Cr Cw Ou Lt Lc Pk
open Ac (Am fresh fresh_ok encA encA_le encA_byte freshB Fit)
open Bo (Bp Bm Cg bst La Vb Cl ccells bare encL sizeC)
open Nd (Rm Inv rv setR serveR)
def Only (k:ByteArray) (a:Am):Prop:=∃ X,Fit X ∧ a = { fresh k with inb:=X }
theorem only_fresh (k:ByteArray):Only k (fresh k):=⟨[],⟨by simp,by simp⟩,rfl⟩
theorem only_reminded {k:ByteArray} {a:Am} {r:Rm} (h:Only k a) (hr:Nd.Okr r) (hl:a.inb.length < 8):Only k (reminded a r):=by
 obtain ⟨X,hX,rfl⟩:=h
 have h2:=remL_ok hr
 refine ⟨X ++ [remL r],⟨?_,fun x hx => ?_⟩,rfl⟩
 · simp only at hl
   simp only [List.length_append,List.length_singleton]; omega
 · rcases List.mem_append.1 hx with hx | hx
   · exact hX.2 x hx
   · rw [List.mem_singleton.1 hx]; exact h2
theorem only_enc {k:ByteArray} {a:Am} (hk:Kk k) (h:Only k a):(encA a).length ≤ 1300:=by
 obtain ⟨X,hX,rfl⟩:=h
 have h1:=(num_length ((0:Nat):Int)).2
 have h2:=txl_le (Jn.encJ Jn.s0)
 have h3:=txl_le (packL X)
 have h4:=txl_le (encO (newO k))
 have h5:=txl_le (packL [])
 have h6:=Jn.encJ_le Jn.s0 rfl
 have h7:=Ac.pack_le hX
 have h8:(encO (newO k)).length ≤ 80:=by
  have g1:=txt_le k
  have g2:=(num_length (((newO k).ser.length:Nat):Int)).2
  have g3:=(num_length (((newO k).lst.length:Nat):Int)).2
  have g4:(serb (newO k).ser).length = 0:=rfl
  have g5:(outb (newO k).lst).length = 0:=rfl
  have g6:(newO k).own = k:=rfl
  have g7:=hk.2
  unfold encO
  simp only [List.length_append,g6] at *
  omega
 have h9:(packL []).length ≤ 9:=by decide
 have h10:Jn.s0.2.1.length = 0:=rfl
 have e:encA { fresh k with inb:=X } = num ((0:Nat):Int) ++ (txl (Jn.encJ Jn.s0) ++ (txl (packL X) ++ (txl (encO (newO k)) ++ txl (packL [])))):=rfl
 rw [e]
 simp only [List.length_append]
 rw [h10] at h6
 omega
theorem encRs_le:∀ {l:List Rm},(∀ r ∈ l,Nd.Okr r) → (l.flatMap Nd.encR).length ≤ 125 * l.length
 | [],_ => by simp
 | r :: t,h => by
  have h1:=Nd.encR_le (h r List.mem_cons_self)
  have h2:=encRs_le fun x hx => h x (List.mem_cons_of_mem _ hx)
  simp only [List.flatMap_cons,List.length_append,List.length_cons]
  omega
theorem encQ_few {l:List Rm} (h:Inv l) (hl:l.length ≤ 10):(Nd.encQ l).length ≤ 1300:=by
 have h1:=encRs_le h.ok
 have h3:=(num_length (l.length:Int)).2
 unfold Nd.encQ
 simp only [List.length_append]
 omega
theorem room_q {l:List Rm} (h:Inv l) (hl:l.length ≤ 10):Gp.nbl (encL (chQ l)) ≤ 12:=by
 have h1:=Bo.encL_le (chQ l)
 have h2:=encQ_few h hl
 have e:sizeC (chQ l) = kr.size + (Nd.encQ l).length:=by simp [sizeC,chQ]
 have e2:kr.size = 1:=rfl
 have e3:(chQ l).length = 1:=rfl
 unfold Gp.nbl
 omega
theorem room_k (c:Int):Gp.nbl (encL [chK c]) ≤ 12:=by
 have h1:=Bo.encL_le [chK c]
 have h:=(num_length (zz c)).2
 have e:sizeC [chK c] = kc.size + (num (zz c)).length:=by simp [sizeC,chK]
 have e2:kc.size = 1:=rfl
 have e3:[chK c].length = 1:=rfl
 unfold Gp.nbl
 omega
theorem room_s {l:List Rm} {k:ByteArray} {a:Am} (h:Inv l) (hl:l.length ≤ 10) (hk:Kk k) (ha:Only k a) (hown:a.out.own = k) (q p:Nat):Gp.nbl (encL (chs [(p,a)] (some (q,l)) none)) ≤ 12:=by
 have h1:=Bo.encL_le (chs [(p,a)] (some (q,l)) none)
 have h2:=encQ_few h hl
 have h3:=only_enc hk ha
 have e:chs [(p,a)] (some (q,l)) none = [(akey a.out.own,encA a,freshB a),(kr,Nd.encQ l,false)]:=rfl
 have e1:sizeC (chs [(p,a)] (some (q,l)) none) = (akey a.out.own).size + (encA a).length + (kr.size + (Nd.encQ l).length):=by rw [e]; simp [sizeC]
 have e2:kr.size = 1:=rfl
 have e3:(chs [(p,a)] (some (q,l)) none).length = 2:=rfl
 have e4:=akey_size a.out.own
 rw [hown] at e4 e1
 have e5:=hk.2
 unfold Gp.nbl
 omega
theorem ins_length (l:List Rm) (r:Rm):(Nd.ins l r).length = l.length + 1:=by
 have h:=congrArg List.length (List.takeWhile_append_dropWhile (p:=fun x => Nd.less x r) (l:=l))
 unfold Nd.ins
 simp only [List.length_append,List.length_cons] at h ⊢
 omega
theorem set_length (l:List Rm) (r:Rm):(setR l r).2.length ≤ l.length + 1:=by
 unfold setR
 split
 · simp
 · split
   · simp
   · have:=Nd.del_le l r.actor r.name
     simp only [ins_length]
     omega
theorem serve_length (l:List Rm) (c:Int):(serveR l c).2.length ≤ l.length:=by
 unfold serveR
 cases hd:Nd.dueR l c with
 | none => simp
 | some r =>
  obtain ⟨t,rfl,_⟩:=Nd.due_mem hd
  have h1:Nd.has r.actor r.name (r :: t) = true:=List.any_eq_true.2 ⟨r,List.mem_cons_self,Nd.ke_iff.2 ⟨rfl,rfl⟩⟩
  have h2:=Nd.del_lt h1
  show (Nd.nextR (r :: t) r).length ≤ _
  unfold Nd.nextR
  split
  · rw [ins_length]; omega
  · omega
structure Sm (m:Em) (s c:Nat):Prop where
 ok:m.ok
 tidy:m.tidy
 n:m.n ≤ 1000 + 200 * s
 cnt:m.bk.lg.count = 2000
 used:m.bk.lg.used ≤ 12 * c
 len:m.q.length ≤ 10
 act:∀ k,Kk k → Only k (m.act k)
theorem Sm.loaded {m:Em} {s c:Nat} (h:Sm m s c) {k:ByteArray} (hok:(m.loaded k).ok):Sm (m.loaded k) (s + 1) c:=by
 refine ⟨hok,loaded_tidy _ _,?_,h.cnt,h.used,h.len,h.act⟩
 have:=h.n
 show m.n + 1 ≤ _
 omega
theorem Sm.queued {m:Em} {s c:Nat} (h:Sm m s c) {l:List Rm} (hi:Inv l) (hl:l.length ≤ 10) (hok:(m.queued l).ok):Sm (m.queued l) (s + 1) (c + 1):=by
 have h1:=room_q hi hl
 refine ⟨hok,commit_tidy _ _ _ _,?_,h.cnt,?_,hl,fun k hk => ?_⟩
 · have:=h.n
   show m.n + 150 ≤ _
   omega
 · have:=h.used
   show m.bk.lg.used + Gp.nbl (encL (chQ l)) ≤ _
   omega
 · exact h.act k hk
theorem Sm.ticked {m:Em} {s c:Nat} (h:Sm m s c) (k:Int) (hok:(m.one (chK k) k).ok):Sm (m.one (chK k) k) (s + 1) (c + 1):=by
 have h1:=room_k k
 refine ⟨hok,h.tidy,?_,h.cnt,?_,h.len,fun k hk => h.act k hk⟩
 · have:=h.n
   show m.n + 100 ≤ _
   omega
 · have:=h.used
   show m.bk.lg.used + Gp.nbl (encL [chK k]) ≤ _
   omega
theorem Sm.served {m:Em} {s c:Nat} (h:Sm m s c) (hok:m.served.2.2.ok):Sm m.served.2.2 (s + 1) (c + 1):=by
 unfold Em.served at hok ⊢
 have hn:=h.n
 have hu:=h.used
 rcases hs:serveR m.q m.clock with ⟨o,l⟩
 rw [hs] at hok
 cases o with
 | none => exact ⟨h.ok,h.tidy,by show m.n ≤ _; omega,h.cnt,by show m.bk.lg.used ≤ _; omega,h.len,h.act⟩
 | some r =>
  have hl:=serve_length m.q m.clock
  have hi:=h.ok.inv.serve m.clock
  have hr:Nd.Okr r:=by
   unfold serveR at hs
   cases hd:Nd.dueR m.q m.clock with
   | none => rw [hd] at hs; cases hs
   | some x =>
    rw [hd] at hs
    obtain ⟨t,ht,_⟩:=Nd.due_mem hd
    injection hs with h1 h2
    injection h1 with h1
    subst h1
    exact h.ok.inv.ok _ (by rw [ht]; exact List.mem_cons_self)
  have hk:Kk r.actor:=⟨hr.r.2.2.1,hr.r.2.2.2.1⟩
  rw [hs] at hl hi
  simp only at hl hi hok ⊢
  by_cases h8:(m.act r.actor).inb.length < 8
  · rw [if_pos h8] at hok ⊢
    have ho:=only_reminded (h.act _ hk) hr h8
    have hown:(reminded (m.act r.actor) r).out.own = r.actor:=h.ok.own _ hk
    have h1:=room_s hi (Nat.le_trans hl h.len) hk ho hown 0 0
    refine ⟨hok,commit_tidy _ _ _ _,?_,h.cnt,?_,Nat.le_trans hl h.len,fun k hk' => ?_⟩
    · show m.n + 1 + 150 ≤ _
      omega
    · show m.bk.lg.used + Gp.nbl (encL (chs [(0,reminded (m.act r.actor) r)] (some (0,l)) none)) ≤ _
      omega
    · show Only k (actN m.act [(0,reminded (m.act r.actor) r)] k)
      by_cases e:r.actor = k
      · subst e
        have:=actN_at m.act (ac:=[(0,reminded (m.act r.actor) r)]) (by simp) (List.mem_singleton.2 rfl)
        simp only [hown] at this
        rw [this]
        exact ho
      · rw [actN_away _ _ (by simp only [List.map_cons,List.map_nil,List.mem_singleton,hown]; exact fun h => e h.symm)]
        exact h.act k hk'
  · rw [if_neg h8] at hok ⊢
    exact ⟨hok,loaded_tidy _ _,by show m.n + 1 ≤ _; omega,h.cnt,by show m.bk.lg.used ≤ _; omega,h.len,h.act⟩
theorem cell_lt {w:World} {a:Addr} {v:Value} (h:w.cell? a = some v):a.block < w.heap.size:=by
 rcases Nat.lt_or_ge a.block w.heap.size with h1 | h1
 · exact h1
 · unfold World.cell? at h
   rw [Array.getElem?_eq_none h1] at h
   cases h
theorem cell_keep {F:Nat → Prop} {w w':World} {a:Addr} {v:Value} (h:w.cell? a = some v) (hu:Upd F w w') (hn:¬ F a.block):w'.cell? a = some v:=by
 have e:=hu.block a.block (cell_lt h) hn
 unfold World.cell? at h ⊢
 rw [e]
 exact h
end Go.Proofs.YtclfmpieapbfnaaGreatDoor.Eg
end
section
namespace Go.Proofs.YtclfmpieapbfnaaGreatDoor.Eg
open Go.RowKit B Cm Cr Ou
open Ac (Am fresh fresh_ok encA encA_le encA_byte freshB)
open Bo (Bp Bm bst bcs tbO chO dkO lgO)
open Nd (Rm Inv rv setR)
open Dk (Dm)
open Fr (d0 bm0)
set_option maxHeartbeats 2000000 in
set_option maxRecDepth 100000 in
theorem bkeys_ {w:World} {F:Nat → Prop} {b:Bp} {m:Bm} {R:Ob} {n1 n2:Nat} (h:Star (bst b m n1 n2 R) w F) (hn:n1 ≤ 1000000) (ht:m.tab = fun _ => none) (x y:ByteArray) :
 Calls Tryz.prog 98 #[.pointer (some ⟨b.q,0,none⟩),.string x,.string y] w fun e w' => e = .returned (.slice none 0 0) ∧ Upd No w w':=by
 obtain ⟨B,hb,_⟩:=Star.own h 0 rfl
 have c6:=(Bo.bcells hb.1).2.2.1
 obtain ⟨T,⟨mm,G,hms,hmt,_⟩,_⟩:=Star.own h 1 (o:=tbO b.b1 n1 m.tab) rfl
 have HSo:=hid (Tj.sortedB hms hn (ks:=[]) (by simp) (fun s hs => by
  have:=hmt s hs
  rw [ht] at this
  simp only at this
  simp [this]) (by simp))
 clear h hb hms hmt ht
 go_enter Tryz.func98,Tryz.ntmps98
 go_wp2_with (fail)
 refine Calls.mono (Tj.keysB b.b1 w) ?_
 rintro e w4 ⟨rfl,rfl⟩
 go_wp2_with (fail)
 refine Calls.mono HSo.out ?_
 rintro e w5 ⟨A5,c5,rfl,_,hu5⟩
 rw [List.length_nil]
 have HU:=hid (((Upd.refl No w).alloc (.cells #[.map (some b.b1)] 179)).next hu5)
 clear hu5 HSo c6
 go_wp2_with (fail)
 go_loopw [7,19] (fun v7 v19 W => v7 = .slice none 0 0 ∧ v19 = .int .i64 0 ∧ Hid (W = w5)) (fun _ _ _ => 0)
 case atStart => exact ⟨rfl,rfl,hid rfl⟩
 case round =>
  obtain ⟨rfl,rfl,hW⟩:=hrel
  obtain rfl:=hW.out
  go_wp2
  go_ret
  exact ⟨rfl,HU.out⟩
set_option maxHeartbeats 2000000 in
set_option maxRecDepth 100000 in
theorem ekeys_ {w:World} {F:Nat → Prop} {p:Nat} {e:Ep} {m:Em} (h:Star (est p e m) w F) (hn:m.n ≤ 1000000) (ht:m.bk.tab = fun _ => none) :
 Calls Tryz.prog 37 #[.pointer (some ⟨p,0,none⟩)] w fun e w' => e = .returned (.slice none 0 0) ∧ Upd No w w':=by
 obtain ⟨B,hb,_⟩:=Star.own h 0 rfl
 have c0:=(ecells hb.1).1.1
 obtain ⟨T,⟨n1,n2,hn1,hn2,hbs⟩,_⟩:=Star.own h 1 (o:=bkO e.b m.bk m.n (m.R e.b)) rfl
 have HK:=hid (bkeys_ hbs (by omega) ht ⟨#[97]⟩ ⟨#[98]⟩)
 clear h hb hbs ht
 go_enter Tryz.func37,Tryz.ntmps37
 go_wp2_with (fail)
 refine Calls.mono HK.out ?_
 rintro e w5 ⟨rfl,hu5⟩
 have HU:=hid hu5
 clear hu5 HK c0
 go_wp2_with (fail)
 go_loopw [3,14] (fun v3 v14 W => v3 = .slice none 0 0 ∧ v14 = .int .i64 0 ∧ Hid (W = w5)) (fun _ _ _ => 0)
 case atStart => exact ⟨rfl,rfl,hid rfl⟩
 case round =>
  obtain ⟨rfl,rfl,hW⟩:=hrel
  obtain rfl:=hW.out
  go_wp2
  go_ret
  exact ⟨rfl,HU.out⟩
def em0 (p nb:Nat) (res:Int):Em:=⟨bm0 nb,1000,At.clip res,[],fresh,⟨[],[]⟩,[],[],0,fun b => Ob.and (b.pd = p) (Ob.star []),fun _ _ => Ob.star []⟩
theorem em0_ok {p nb:Nat} {res:Int} (h:24 ≤ nb ∧ nb ≤ 65536):(em0 p nb res).ok:=by
 have hc:=At.clip_le res
 refine ⟨Fr.bm0_ok h,by show 1000 ≤ 400000; omega,?_,⟨by simp [em0],by simp [em0]⟩,fun k hk => .inr ⟨rfl,rfl⟩,fun k hk => rfl,⟨by simp [em0],by simp [em0],by simp [em0],by simp [em0]⟩,fun k hk _ => rfl,⟨Nat.zero_le _,Nat.zero_le _⟩,Wp.Ok.nil⟩
 show At.mst (At.clip res) ≤ 10000
 rw [At.mst_clip]
 exact hc.2
def EoOut (w:World) (D:Nat → Prop) (p nb:Nat) (res:Int) (e:Ending) (w':World):Prop:=∃ q F,e = .returned (.tuple #[.pointer (some ⟨q,0,none⟩),.int .i64 0]) ∧ En w' F q (em0 p nb res) ∧ (∀ k,F k → D k ∨ w.heap.size ≤ k) ∧ Upd No w w'
theorem EoOut.of {w:World} {D:Nat → Prop} {p nb:Nat} {res:Int} {e:Ending} {w':World} (h:∃ q F,e = .returned (.tuple #[.pointer (some ⟨q,0,none⟩),.int .i64 0]) ∧ En w' F q (em0 p nb res) ∧ (∀ k,F k → D k ∨ w.heap.size ≤ k) ∧ Upd No w w'):EoOut w D p nb res e w':=h
structure Ox (w W:World) (D:Nat → Prop) (l:List Ob):Prop where
 ex:∃ F,Star l W F ∧ ∀ k,F k → D k ∨ w.heap.size ≤ k
 upd:Upd No w W
theorem Ox.quiet {w W W':World} {D:Nat → Prop} {l:List Ob} (h:Ox w W D l) (hu:Upd No W W'):Ox w W' D l:=by
 obtain ⟨F,h1,h2⟩:=h.ex
 exact ⟨⟨F,h1.quiet hu,h2⟩,h.upd.next hu⟩
theorem Ox.push {w W W':World} {D G:Nat → Prop} {l:List Ob} {o:Ob} (h:Ox w W D l) (hu:Upd No W W') (ho:o.is W' G) (hG:∀ k,G k → W.heap.size ≤ k):Ox w W' D (o :: l):=by
 obtain ⟨F,h1,h2⟩:=h.ex
 obtain ⟨F',h3,h4⟩:=h1.push hu ho hG
 have hs:=h.upd.size
 exact ⟨⟨F',h3,fun k hk => (h4.sub k hk).elim (h2 k) fun h9 => .inr (by omega)⟩,h.upd.next hu⟩
theorem est_perm (p:Nat) (e:Ep) (m:Em):[Ob.blk p 104 (ecs e m),m.po e.v6 e.v7,Cn.ctO e.pc,wdO e.pw m.win m.n,qoO e.pq m.q,rsO e.ba m.n m.act m.wh,taO e.pt m.room m.tx,bkO e.b m.bk m.n (m.R e.b)].Perm (est p e m):=
 List.Perm.cons _ (List.reverse_perm _).symm
set_option maxHeartbeats 8000000 in
set_option maxRecDepth 100000 in
theorem open_ {w:World} {D:Nat → Prop} {p nb:Nat} (h:Dk.Dk w D p (d0 nb)) (hnb:24 ≤ nb ∧ nb ≤ 65536) (res:Int) (hres:-9223372036854775808 ≤ res ∧ res ≤ 9223372036854775807) :
 Calls Tryz.prog 6 #[.pointer (some ⟨p,0,none⟩),.int .i64 res] w fun e w' => EoOut w D p nb res e w':=by
 have HN:=hid hnb
 have HB:=hid (Fr.open_ h hnb)
 have hmk:=@run_makeMap Tryz.prog
 clear h hnb
 go_enter Tryz.func6,Tryz.ntmps6
 go_wp2_with (fail)
 refine Calls.mono HB.out ?_
 rintro e w1 ⟨b,F1,rfl,hpd,hst1,hF1,hu1⟩
 have HX1:Hid (Ox w w1 D [bkO b (bm0 nb) 1000 (Ob.and (b.pd = p) (Ob.star []))]):=hid ⟨⟨F1,⟨F1,No,⟨0,0,Nat.zero_le _,Nat.zero_le _,hst1⟩,(fun k hk => hk.elim),fun _ _ h => h,fun _ h => h,fun _ h => h.elim,hst1.lt⟩,hF1⟩,hu1⟩
 clear hst1 hF1 hu1 HB hpd
 go_wp2_with (fail)
 refine Calls.mono (At.new_ res w1) ?_
 rintro e w2 ⟨rfl,hta,hu2⟩
 have HX2:=hid (HX1.out.push (G:=fun k => k = w1.heap.size) hu2 (o:=taO w1.heap.size (At.clip res) []) hta (fun k hk => by rw [hk]; exact Nat.le_refl _))
 have HX3:=hid (HX2.out.push (G:=fun k => k = w2.heap.size) ((Upd.refl No w2).alloc (.map #[] 0)) (o:=rsO w2.heap.size 1000 fresh ⟨[],[]⟩) (Rs.made w2 fresh 1000 ⟨[],[]⟩) (fun k hk => by rw [hk]; exact Nat.le_refl _))
 obtain ⟨w3,hw3⟩:∃ w3,w3 = w2.alloc (.map #[] 0):=⟨_,rfl⟩
 clear hta hu2 HX1 HX2
 go_wp2_with (fail)
 rw [← hw3] at HX3 ⊢
 clear hw3
 refine Calls.mono (Nd.new_ w3) ?_
 rintro e w4 ⟨rfl,hw4⟩
 have HX4:=hid (HX3.out.push (G:=fun k => k = w3.heap.size) (W':=w4) (by rw [← hw4]; exact (Upd.refl _ _).alloc _) (o:=qoO w3.heap.size []) (by rw [← hw4]; exact Nd.Qo.new w3) (fun k hk => by rw [hk]; exact Nat.le_refl _))
 clear hw4 HX3
 go_wp2_with (fail)
 refine Calls.mono (Ww.new_ w4) ?_
 rintro e w5 ⟨rfl,hw5⟩
 have HX5:=hid (HX4.out.push (G:=fun k => k = w4.heap.size) (W':=w5) (by rw [hw5]; exact (Upd.refl _ _).alloc _) (o:=wdO w4.heap.size [] 1000) (by rw [hw5]; exact ⟨_,_,_,_,(Ww.Wx.new rfl).mono (Nat.zero_le _)⟩) (fun k hk => by rw [hk]; exact Nat.le_refl _))
 clear hw5 HX4
 go_wp2_with (fail)
 refine Calls.mono (Cn.new_ w5) ?_
 rintro e w6 ⟨rfl,hu6,hct⟩
 have HX6:=hid ((HX5.out.push (G:=fun k => k = w5.heap.size) hu6 (o:=Cn.ctO w5.heap.size) hct (fun k hk => by rw [hk]; exact Nat.le_refl _)).push (Upd.refl No w6) (o:=Ob.star []) (G:=No) (fun k hk => hk.elim) (fun k hk => hk.elim))
 clear hu6 hct HX5
 have HE:Hid (∃ w7 q e,w7 = w6.alloc (.cells #[.pointer (some ⟨b.q,0,none⟩),.pointer (some ⟨w1.heap.size,0,none⟩),.map (some w2.heap.size),.pointer (some ⟨w3.heap.size,0,none⟩),.pointer (some ⟨w4.heap.size,0,none⟩),.int .i64 0,.slice none 0 0,.slice none 0 0,.pointer (some ⟨w5.heap.size,0,none⟩),.bool false] 104) ∧ q = w6.heap.size ∧
  e.b = b ∧ Ox w w7 D (est q e (em0 p nb res))):=hid (by
  refine ⟨_,_,⟨b,w1.heap.size,w2.heap.size,w3.heap.size,w4.heap.size,w5.heap.size,.slice none 0 0,.slice none 0 0⟩,rfl,rfl,rfl,?_⟩
  have h7:=HX6.out.push ((Upd.refl No w6).alloc _) (Ob.blk_is (Blk.fresh w6 104 (ecs ⟨b,w1.heap.size,w2.heap.size,w3.heap.size,w4.heap.size,w5.heap.size,.slice none 0 0,.slice none 0 0⟩ (em0 p nb res)))) (fun k hk => by rw [hk]; exact Nat.le_refl _)
  obtain ⟨F7,g1,g2⟩:=h7.ex
  exact ⟨⟨F7,g1.perm (est_perm _ _ _),g2⟩,h7.upd⟩)
 clear HX6
 go_wp2_with (fail)
 obtain ⟨w7,q,e,hw7,hq,heb,hX7⟩:=HE.out
 rw [← hw7,← hq]
 subst heb
 have HX7:=hid hX7
 have HGt:Hid (∀ W k,Upd No w7 W → Ms.Ks k → Calls Tryz.prog 30 #[.pointer (some ⟨e.b.q,0,none⟩),.string k] W fun e w' => (∃ A c,e = .returned (.tuple #[.slice A 0 c,.bool false])) ∧ Upd No W w'):=hid fun W k hu hk => by
  obtain ⟨F7,g1,_⟩:=(hX7.quiet hu).ex
  obtain ⟨T,⟨n1,n2,hn1,hn2,hbs⟩,_⟩:=Star.own g1 1 (o:=bkO e.b (bm0 nb) 1000 (Ob.and (e.b.pd = p) (Ob.star []))) rfl
  refine (Bo.get hbs (by omega) hk (by simp [bm0])).mono ?_
  rintro e' w' ⟨A,c,rfl,_,_,hu'⟩
  exact ⟨⟨A,c,rfl⟩,hu'⟩
 have HKs:Hid (∀ W,Upd No w7 W → Calls Tryz.prog 37 #[.pointer (some ⟨q,0,none⟩)] W fun e w' => e = .returned (.slice none 0 0) ∧ Upd No W w'):=hid fun W hu => by
  obtain ⟨F7,g1,_⟩:=(hX7.quiet hu).ex
  exact ekeys_ g1 (by show 1000 ≤ 1000000; omega) rfl
 clear hw7 hq hX7 HE
 refine Calls.mono (HGt.out w7 _ (Upd.refl _ _) (by simp [Ms.Ks,maxLen]; decide)) ?_
 rintro e1 w8 ⟨⟨A8,c8,rfl⟩,hu8⟩
 go_wp2_with (fail)
 refine Calls.mono (HGt.out w8 _ hu8 (by simp [Ms.Ks,maxLen]; decide)) ?_
 rintro e1 w9 ⟨⟨A9,c9,rfl⟩,hu9⟩
 have hu9:=hu8.next hu9
 go_wp2_with (fail)
 refine Calls.mono (HGt.out w9 _ hu9 (by simp [Ms.Ks,maxLen]; decide)) ?_
 rintro e1 w10 ⟨⟨A10,c10,rfl⟩,hu10⟩
 have hu10:=hu9.next hu10
 go_wp2_with (fail)
 refine Calls.mono (HGt.out w10 _ hu10 (by simp [Ms.Ks,maxLen]; decide)) ?_
 rintro e1 w11 ⟨⟨A11,c11,rfl⟩,hu11⟩
 have hu11:=hu10.next hu11
 go_wp2_with (fail)
 refine Calls.mono (HKs.out w11 hu11) ?_
 rintro e1 w12 ⟨rfl,hu12⟩
 have HU12:=hid (hu11.next hu12)
 clear hu8 hu9 hu10 hu11 hu12 HGt HKs
 go_wp2_with (fail)
 go_loopw [9,127] (fun v9 v127 W => v9 = .bool true ∧ v127 = .int .i64 0 ∧ Hid (W = w12)) (fun _ _ _ => 0)
 case atStart => exact ⟨rfl,rfl,hid rfl⟩
 case round =>
  obtain ⟨rfl,rfl,hW⟩:=hrel
  obtain rfl:=hW.out
  go_wp2
  go_ret2
  obtain ⟨F,g1,g2⟩:=(HX7.out.quiet HU12.out).ex
  exact .of ⟨q,F,rfl,⟨⟨e,g1⟩,em0_ok HN.out⟩,g2,HX7.out.upd.next HU12.out⟩
end Go.Proofs.YtclfmpieapbfnaaGreatDoor.Eg
end
section
namespace Go.Proofs.YtclfmpieapbfnaaGreatDoor.Eg
open Go.RowKit B Cm Cr Ou
open Dk (Dm)
open Fr (d0 bm0)
theorem disk_ (nb:Nat) (w:World) (hn:nb ≤ 65536):Calls Tryz.prog 7 #[.int .i64 nb] w fun e w' => ∃ p D,e = .returned (.pointer (some ⟨p,0,none⟩)) ∧ Dk.Dk w' D p (d0 nb) ∧ (∀ k,D k → w.heap.size ≤ k) ∧ Upd No w w':=by
 have h:=Dk.new_ nb w
 rw [show (min (max (nb:Int) 0) 65536).toNat = nb from by omega] at h
 refine h.mono ?_
 rintro e w' ⟨p,D,rfl,h1,h2,h3⟩
 exact ⟨p,D,rfl,h1,h3,Upd.of_below No h2⟩
structure Wl (w W:World) (F:Nat → Prop) (q pe p:Nat) (m:Em):Prop where
 blk:Blk W q 168 #[.pointer (some ⟨p,0,none⟩),.pointer (some ⟨pe,0,none⟩),.int .i64 2]
 en:En W F pe m
 own:¬ F q ∧ w.heap.size ≤ q ∧ ∀ k,F k → w.heap.size ≤ k
 upd:Upd No w W
def WnOut (w:World) (e:Ending) (w':World):Prop:=∃ q pe p F,e = .returned (.tuple #[.pointer (some ⟨q,0,none⟩),.int .i64 0]) ∧ Wl w w' F q pe p (em0 p 200 2)
theorem WnOut.of {w:World} {e:Ending} {w':World} (h:∃ q pe p F,e = .returned (.tuple #[.pointer (some ⟨q,0,none⟩),.int .i64 0]) ∧ Wl w w' F q pe p (em0 p 200 2)):WnOut w e w':=h
set_option maxHeartbeats 2000000 in
set_option maxRecDepth 100000 in
theorem wnew_ (w:World):Calls Tryz.prog 23 #[.int .i64 200,.int .i64 2] w fun e w' => WnOut w e w':=by
 have HD:=hid (show Calls Tryz.prog 7 #[.int .i64 200] w _ from disk_ 200 w (by omega))
 go_enter Tryz.func23,Tryz.ntmps23
 go_wp2_with (fail)
 refine Calls.mono HD.out ?_
 rintro e w1 ⟨p,D,rfl,hdk,hD,hu1⟩
 have HB:Hid (∃ w2 q,w2 = w1.alloc (.cells #[.pointer (some ⟨p,0,none⟩),.pointer none,.int .i64 2] 168) ∧ q = w1.heap.size ∧ Blk w2 q 168 #[.pointer (some ⟨p,0,none⟩),.pointer none,.int .i64 2] ∧ Dk.Dk w2 D p (d0 200) ∧ ¬ D q ∧ (∀ k,D k → w.heap.size ≤ k) ∧ w.heap.size ≤ q ∧ Upd No w w2):=
  hid ⟨_,_,rfl,rfl,Blk.fresh _ _ _,hdk.upd ((Upd.refl No _).alloc _) fun _ _ => no_ _,fun hd => by have:=hdk.lt _ hd; omega,hD,hu1.size,hu1.alloc _⟩
 obtain ⟨w2,q,hw2,hq,hb2,hdk2,hn2,hD2,hlo,hu2⟩:=HB.out
 have c0:w2.cell? ⟨q,0,none⟩ = some (.pointer (some ⟨p,0,none⟩)):=by simpa using hb2.cell 0
 have HO:=hid (open_ hdk2 (by omega) 2 (by omega))
 have HX:=hid (And.intro hb2 (And.intro hn2 (And.intro hD2 (And.intro hlo hu2))))
 rw [hw2] at c0
 rw [hq] at c0
 clear hdk hD hu1 hb2 hdk2 hn2 hD2 hlo hu2 HD
 go_wp2_with (fail)
 rw [← hw2]
 try rw [← hq]
 clear c0 hw2 hq HB
 refine Calls.mono HO.out ?_
 rintro e w3 ⟨pe,F,rfl,hen,hF,hu3⟩
 obtain ⟨hb2,hn2,hD2,hlo,hu2⟩:=HX.out
 have hb3:=hb2.upd hu3 (no_ _)
 have f1:=hb3.free 1
 have o1:w3.cell? ⟨q,1,none⟩ = some (.pointer none):=by simpa using hb3.cell 1
 have hl2:=hb2.lt
 have hu4:Upd (fun k => k = q) w3 (w3.setCell ⟨q,1,none⟩ (.pointer (some ⟨pe,0,none⟩))):=Upd.set1 (Upd.refl _ _) _ _
 have hFq:¬ F q:=fun hf => (hF q hf).elim hn2 fun h9 => by omega
 have HW:Hid (Wl w (w3.setCell ⟨q,1,none⟩ (.pointer (some ⟨pe,0,none⟩))) F q pe p (em0 p 200 2)):=hid ⟨hb3.put 1 _,hen.upd hu4 fun k hk e => hFq (e ▸ hk),⟨hFq,hlo,fun k hk => (hF k hk).elim (hD2 k) fun h9 => by have:=hu2.size; omega⟩,(hu2.next hu3).trans hu4 fun i hi e => by omega⟩
 clear hb2 hn2 hD2 hlo hu2 hb3 hl2 hu4 hFq hen hF hu3 HX HO
 go_wp2
 go_ret2
 exact .of ⟨q,pe,p,F,rfl,HW.out⟩
end Go.Proofs.YtclfmpieapbfnaaGreatDoor.Eg
end
section
namespace Go.Proofs.YtclfmpieapbfnaaGreatDoor.Eg
open Go.RowKit B Cm Cr Ou Lt Lc
open Ac (Am fresh fresh_ok encA encA_le encA_byte freshB)
open Bo (Bp Bm Cg bst La Vb Cl ccells bare encL sizeC)
open Nd (Rm Inv rv setR serveR)
def got (a:Am) (x:L):Am:={ a with inb:=a.inb ++ [x] }
theorem got_ok {a:Am} {x:L} {B:Int} (h:a.ok B) (hx:formed x = true ∧ Wf x) (hl:a.inb.length < 8):(got a x).ok B:=by
 refine ⟨h.jo,h.jr,h.j16,h.jv,h.jt,⟨?_,fun y hy => ?_⟩,h.out,⟨h.tr.1,fun _ => by simp [got]⟩,h.poi⟩
 · simp only [got,List.length_append,List.length_singleton]; omega
 · rcases List.mem_append.1 hy with hy | hy
   · exact h.inb.2 y hy
   · rw [List.mem_singleton.1 hy]; exact hx
def Em.offered (m:Em) (c s:Int) (to:ByteArray) (x:L):Bool × Int × Em:=
 if s ∈ Wp.sr m.win c then (false,0,m)
 else if (m.act to).inb.length < 8 then (true,0,(m.loaded to).commit [(0,got (m.act to) x)] none (some (0,(Wp.addX m.win c s).2)))
 else (false,7,m.loaded to)
def OfOut (w:World) (F:Nat → Prop) (p:Nat) (m:Em) (r:Bool × Int × Em) (e:Ending) (w':World):Prop:=e = .returned (.tuple #[.bool r.1,.int .i64 r.2.1]) ∧ Kept w F p r.2.2 w'
def inO (x:L) (u:Value):Ob:=⟨fun w F => In w x u ∧ (∀ k,u.ownBlock = some k → F k) ∧ ∀ k,F k → k < w.heap.size,fun h hu hn => ⟨h.1.upd hu fun g hg => hn g (h.2.1 g hg),h.2.1,fun k hk => Nat.lt_of_lt_of_le (h.2.2 k hk) hu.size⟩,fun h => h.2.2⟩
def lbk (pb:Nat) (x:L) (u:Value):Ob:=Ob.blk pb 60 #[.string x.1,.int .u64 x.2.1,.int .i64 x.2.2.1,u]
section
variable {w W W':World} {F F5 V:Nat → Prop} {p:Nat} {m m':Em} {T:List Ob} {pa pb:Nat} {a:Am} {x:L} {u:Value}
theorem sy_of2 {W5 W6:World} {G:Nat → Prop} (hF:∀ k,F k → k < w.heap.size) (hu0:Upd No w W) (hx:In W x u) (hxf:∀ k,u.ownBlock = some k → w.heap.size ≤ k ∧ k < W.heap.size ∧ k ≠ pb) (hb:Blk W pb 60 #[.string x.1,.int .u64 x.2.1,.int .i64 x.2.2.1,u]) (hbw:w.heap.size ≤ pb)
 (hen:En W5 F5 p m') (hm:Mv F F5 W W5) (hat:Ac.At W6 G pa a) (hfr:∀ k,G k → W5.heap.size ≤ k) (hu:Upd No W5 W6):∃ V,Sy w W6 F F5 V p m' [acO (pa,a),inO x u,lbk pb x u]:=by
 have hs0:=hu0.size
 have hs5:=hm.upd.size
 have hs6:=hu.size
 have hbl:=hb.lt
 have hu6:Upd F W W6:=hm.upd.trans hu fun _ _ h => h.elim
 have hnF:∀ k,w.heap.size ≤ k → ¬ F k:=fun k hk hf => by have:=hF k hf; omega
 have st:Star [acO (pa,a),inO x u,lbk pb x u] W6 (fun k => G k ∨ u.ownBlock = some k ∨ k = pb):=by
  refine ⟨G,fun k => u.ownBlock = some k ∨ k = pb,hat,⟨fun k => u.ownBlock = some k,fun k => k = pb,⟨hx.upd hu6 fun g hg => hnF g (hxf g hg).1,fun k hk => hk,fun k hk => by have:=hxf k hk; omega⟩,⟨fun k => k = pb,No,Ob.blk_is (hb.upd hu6 (hnF _ hbw)),fun _ h => h.elim,fun _ _ h => h,fun _ h => h,fun _ h => h.elim,?_⟩,?_,?_,?_,?_⟩,?_,?_,?_,?_⟩
  · intro k hk; subst hk; omega
  · intro k hk e; exact (hxf k hk).2.2 e
  · intro k hk; exact .inl hk
  · intro k hk; exact .inr hk
  · rintro k (hk | hk)
    · have:=hxf k hk; omega
    · subst hk; omega
  · rintro k hk (e | e)
    · have:=hfr k hk; have:=hxf k e; omega
    · have:=hfr k hk; subst e; omega
  · intro k hk; exact .inl hk
  · intro k hk; exact .inr hk
  · rintro k (hk | hk | hk)
    · exact hat.lt k hk
    · have:=hxf k hk; omega
    · subst hk; omega
 have h5:=hen.lt
 have hn5:∀ k,w.heap.size ≤ k → k < W.heap.size → ¬ F5 k:=fun k hk hk2 hf5 => (hm.sub k hf5).elim (hnF k hk) fun h9 => by omega
 refine ⟨_,hen.quiet hu,st,?_,fun k hk => (hm.sub k hk).imp id fun h9 => by omega,(hu0.mono fun _ _ h => h.elim).next hu6⟩
 rintro k (hk | hk | hk)
 · have:=hfr k hk
   exact ⟨fun hf => by have:=h5 k hf; omega,by omega⟩
 · have:=hxf k hk
   exact ⟨hn5 k (by omega) (by omega),by omega⟩
 · subst hk
   exact ⟨hn5 _ hbw hbl,hbw⟩
theorem sy_in {L:List Ob} (h:Sy w W F F5 V p m L) (i:Nat) (hi:L[i]? = some (inO x u)):In W x u:=by
 obtain ⟨_,h1,_⟩:=Star.own h.st i hi
 exact h1.1
theorem sy_lb {L:List Ob} (h:Sy w W F F5 V p m L) (i:Nat) (hi:L[i]? = some (lbk pb x u)):Blk W pb 60 #[.string x.1,.int .u64 x.2.1,.int .i64 x.2.2.1,u]:=by
 obtain ⟨_,h1,_⟩:=Star.own h.st i hi
 exact h1.1
theorem Sy.fin {L:List Ob} (h:Sy w W F F5 V p m L):Kept w F p m W:=⟨F5,h.en,h.upd,h.sub⟩
theorem Sy.push {L:List Ob} {o:Ob} {G:Nat → Prop} (h:Sy w W F F5 V p m L) (hu:Upd No W W') (ho:o.is W' G) (hG:∀ k,G k → W.heap.size ≤ k):∃ V',Sy w W' F F5 V' p m (o :: L):=by
 obtain ⟨V',h1,h2⟩:=h.st.push hu ho hG
 have hl:=h.en.lt
 have hs:=h.upd.size
 exact ⟨V',h.en.quiet hu,h1,fun k hk => (h2.sub k hk).elim (h.vf k) fun h9 => ⟨fun hf => by have:=hl k hf; omega,by omega⟩,h.sub,h.upd.trans hu fun _ _ h => h.elim⟩
theorem Sy.swap {L:List Ob} {o o':Ob} (h:Sy w W F F5 V p m (o :: o' :: L)):Sy w W F F5 V p m (o' :: o :: L):=⟨h.en,h.st.swap,h.vf,h.sub,h.upd⟩
theorem Sy.turn {L:List Ob} {o o':Ob} (h:Sy w W F F5 V p m (o :: L)):∃ G,o.is W G ∧ ∀ W' G',Mv G G' W W' → o'.is W' G' → ∃ V',Sy w W' F F5 V' p m (o' :: L):=by
 obtain ⟨G,h1,hGV,hput⟩:=h.st.at_ 0 (o:=o) rfl
 refine ⟨G,h1,fun W' G' hm ho => ?_⟩
 obtain ⟨V',h2,h3⟩:=hput W' G' o' hm ho
 have hl:=h.en.lt
 have hs:=h.upd.size
 exact ⟨V',h.en.upd hm.upd fun k hk hA => (h.vf k (hGV k hA)).1 hk,h2,fun k hk => (h3.sub k hk).elim (h.vf k) fun h9 => ⟨fun hf => by have:=hl k hf; omega,by omega⟩,h.sub,h.upd.trans hm.upd fun i hi hA => by have:=(h.vf i (hGV i hA)).2; omega⟩
theorem sy_commitw {pw:Nat} {xw:Wp.St} (h:Sy w W F F5 V p m (acO (pa,a) :: wdO pw xw m.n :: T)) (htd:m.tidy) {A:Option Addr} {c:Nat} (hrow:Rd W 1 A 1 [.pointer (some ⟨pa,0,none⟩)]) (hg:∀ ad,A = some ad → ¬ F5 ad.block) (hc:1 ≤ c ∧ c ≤ maxLen) (hok:a.ok BB ∧ (a.jn.2.2 = 0 → a.jn = Jn.s0)) (hl:Wp.Ok xw)
 (hn:m.n + 200 ≤ 400000) (hroom:Gp.nbl (encL (chs [(0,a)] none (some (0,xw)))) ≤ m.bk.lg.count - m.bk.lg.used) :
 Calls Tryz.prog 54 #[.pointer (some ⟨p,0,none⟩),.agg #[.slice A 1 c,.pointer none,.pointer (some ⟨pw,0,none⟩),.slice none 0 0]] W fun e w' => e = .returned (.int .i64 0) ∧ ∃ F6 V',Sy w w' F F6 V' p (m.commit [(0,a)] none (some (0,xw))) T:=by
 obtain ⟨V1,V2,h1,h2,h3,h4,h5⟩:=Star.split (l1:=[acO (pa,a),wdO pw xw m.n]) (l2:=T) h.st
 have hs:=h.upd.size
 have hlt:=h.en.lt
 have hsz:sizeC (chs [(0,a)] none (some (0,xw))) ≤ 40000:=by
  have g1:=encA_le hok.1
  have g2:=encX_le hl
  have g3:=akey_size a.out.own
  have g4:=hok.1.out.key.2
  have e:chs [(0,a)] none (some (0,xw)) = [(akey a.out.own,encA a,freshB a),(kw,We.encX xw,false)]:=rfl
  rw [e]
  have e2:kw.size = 1:=rfl
  simp [sizeC]
  omega
 refine (commit_ (F:=F5) (V:=V1) (ac:=[(pa,a)]) (qv:=none) (wv:=some (pw,xw)) (A:=A) (c:=c) ⟨h.en,htd,h1,fun k hk => (h.vf k (h4 k hk)).1,hrow,fun _ => hg,hc,fun x hx => by rw [List.mem_singleton.1 hx]; exact hok,by simp,fun x hx => (by cases hx),fun x hx => (by injection hx with hx; subst hx; exact hl),by simp,by simp [chs,wC],hsz,hroom,hn,.inl rfl⟩).mono ?_
 rintro e w' ⟨rfl,F6,hen,hu,hsub⟩
 rw [commit_onew m pa 0 pw 0 a xw] at hen
 have hs2:=hu.size
 have hlt2:=h2.lt
 refine ⟨rfl,F6,V2,hen,h2.keep hu fun k hk hf => (h.vf k (h5 k hk)).1 hf,fun k hk => ⟨fun hf => ?_,(h.vf k (h5 k hk)).2⟩,fun k hk => ?_,h.upd.trans hu fun i hi hf => (h.sub i hf).elim id fun h9 => by omega⟩
 · rcases hsub k hf with h9 | h9 | h9
   · exact (h.vf k (h5 k hk)).1 h9
   · exact h3 k h9 hk
   · have:=hlt2 k hk; omega
 · rcases hsub k hk with h9 | h9 | h9
   · exact h.sub k h9
   · exact .inr (h.vf k (h4 k h9)).2
   · exact .inr (by omega)
end
def PsOut (w:World) (F F5:Nat → Prop) (p:Nat) (m:Em) (L:List Ob) (S:World → Prop) (c:Int) (e:Ending) (w':World):Prop:=
 e = .returned (.int .i64 c) ∧ S w' ∧ ∃ V',Sy w w' F F5 V' p m L
theorem sy_sent {w W:World} {F F5 V:Nat → Prop} {p pa pb:Nat} {m':Em} {a:Am} {s k:Int} {l:List Int} {u:Value} (h:Sy w W F F5 V p m' [acO (pa,a),inO (⟨#[]⟩,s,k,l) u,lbk pb (⟨#[]⟩,s,k,l) u]) (hf:formed (⟨#[]⟩,s,k,l) = true) {cd:Int} {a':Am} (hcd:(a.inb.length < 8 ∧ cd = 0 ∧ a' = got a (⟨#[]⟩,s,k,l)) ∨ (¬ a.inb.length < 8 ∧ cd = 7 ∧ a' = a)):∃ pi,∀ W8,Upd No W W8 →
 (W8.cell? ⟨pa,1,none⟩ = some (.pointer (some ⟨pi,0,none⟩)) ∧ W8.cell? ⟨pb,0,none⟩ = some (.string ⟨#[]⟩) ∧ W8.cell? ⟨pb,1,none⟩ = some (.int .u64 s) ∧ W8.cell? ⟨pb,2,none⟩ = some (.int .i64 k) ∧ W8.cell? ⟨pb,3,none⟩ = some u) ∧
  Calls Tryz.prog 51 #[.pointer (some ⟨pi,0,none⟩),.agg #[.string ⟨#[]⟩,.int .u64 s,.int .i64 k,u]] W8 fun e w' => PsOut w F F5 p m' [acO (pa,a'),inO (⟨#[]⟩,s,k,l) u,lbk pb (⟨#[]⟩,s,k,l) u] (fun W => W.cell? ⟨pa,1,none⟩ = some (.pointer (some ⟨pi,0,none⟩)) ∧ W.cell? ⟨pb,0,none⟩ = some (.string ⟨#[]⟩) ∧ W.cell? ⟨pb,1,none⟩ = some (.int .u64 s) ∧ W.cell? ⟨pb,2,none⟩ = some (.int .i64 k) ∧ W.cell? ⟨pb,3,none⟩ = some u) cd e w':=by
 obtain ⟨pi,_,h2⟩:=sy_push (T:=[inO (⟨#[]⟩,s,k,l) u,lbk pb (⟨#[]⟩,s,k,l) u]) h
 refine ⟨pi,fun W8 hu => ⟨⟨(h2 W8 hu).1,box (sy_lb (h.quiet hu) 2 rfl)⟩,((h2 W8 hu).2 (⟨#[]⟩,s,k,l) u (sy_in (h.quiet hu) 1 rfl)).mono ?_⟩⟩
 rintro e w' ⟨rfl,h3,V',h4⟩
 have h5:=box (sy_lb h4 2 rfl)
 have hp:Ib.pushL a.inb (⟨#[]⟩,s,k,l) = if a.inb.length < 8 then (0,a.inb ++ [(⟨#[]⟩,s,k,l)]) else (7,a.inb):=by
  unfold Ib.pushL
  rw [if_pos hf]
 rw [hp] at h4 ⊢
 rcases hcd with ⟨h8,rfl,rfl⟩ | ⟨h8,rfl,rfl⟩
 · rw [if_pos h8] at h4 ⊢
   exact ⟨rfl,⟨h3,h5⟩,V',h4⟩
 · rw [if_neg h8] at h4 ⊢
   exact ⟨rfl,⟨h3,h5⟩,V',h4⟩
theorem OfOut.of {w:World} {F:Nat → Prop} {p:Nat} {m:Em} {r:Bool × Int × Em} {e:Ending} {w':World} (h:e = .returned (.tuple #[.bool r.1,.int .i64 r.2.1]) ∧ Kept w F p r.2.2 w'):OfOut w F p m r e w':=h
set_option maxHeartbeats 8000000 in
set_option maxRecDepth 100000 in
theorem offer_ {w:World} {F:Nat → Prop} {p:Nat} {m:Em} (h:En w F p m) (htd:m.tidy) (hsn:We.SerNd m.win) (hn:301 ≤ m.n ∧ m.n + 210 ≤ 400000) {to:ByteArray} (hk:Kk to) {c s k:Int} {l:List Int} {u:Value} (hx:formed (⟨#[]⟩,s,k,l) = true ∧ Wf (⟨#[]⟩,s,k,l)) (hin:In w (⟨#[]⟩,s,k,l) u) (hc:Wp.Key c) (hs:Wp.Key s)
 (hroom:s ∉ Wp.sr m.win c → Gp.nbl (encL (chs [(0,got (m.act to) (⟨#[]⟩,s,k,l))] none (some (0,(Wp.addX m.win c s).2)))) ≤ m.bk.lg.count - m.bk.lg.used) :
 Calls Tryz.prog 9 #[.pointer (some ⟨p,0,none⟩),.int .u64 c,.int .u64 s,.string to,.int .i64 k,u] w fun e w' => OfOut w F p m (m.offered c s to (⟨#[]⟩,s,k,l)) e w':=by
 have HH:=hid (And.intro h (And.intro htd (And.intro hn (And.intro hroom (And.intro hk (And.intro hx (And.intro hc (And.intro hs hsn))))))))
 have hll:=(formed_le hx.1).2
 have HK:=hid (fun W => Nd.key_ to W)
 have hkb:=kk_key hk
 rw [hkb] at HK
 have HCp:=hid (copy_ (⟨#[]⟩,s,k,l) u w hin (by simp only at hll; show l.length ≤ 1000000; omega))
 obtain ⟨A0,c0,rfl,_,_,_⟩:=hin
 clear h htd hsn hn hroom hk hx hc hs hkb
 unfold Lt.val at HCp
 go_enter Tryz.func9,Tryz.ntmps9
 go_wp2_with (fail)
 refine Calls.mono (gone_ HH.out.1) ?_
 rintro e w1 ⟨rfl,rfl⟩
 go_wp2_with (fail)
 refine Calls.mono HCp.out ?_
 rintro e w2 ⟨u2,rfl,hin2,hu2,hf2⟩
 obtain ⟨A2,c2,rfl,hr2,hc2,hm2⟩:=hin2
 unfold Lt.val
 simp only at hr2 hc2 hm2 ⊢
 have HB:Hid (∃ w3 pb,w3 = w2.alloc (.cells #[.string ⟨#[]⟩,.int .u64 s,.int .i64 k,.slice A2 l.length c2] 60) ∧ pb = w2.heap.size ∧ Blk w3 pb 60 #[.string ⟨#[]⟩,.int .u64 s,.int .i64 k,.slice A2 l.length c2] ∧ In w3 (⟨#[]⟩,s,k,l) (.slice A2 l.length c2) ∧
  (∀ g,(Value.slice A2 l.length c2).ownBlock = some g → w.heap.size ≤ g ∧ g < w3.heap.size ∧ g ≠ pb) ∧ w.heap.size ≤ pb ∧ Upd No w w3):=hid (by
  have hi:In w2 (⟨#[]⟩,s,k,l) (.slice A2 l.length c2):=⟨A2,c2,rfl,hr2,hc2,hm2⟩
  have hal:Upd No w2 (w2.alloc (.cells #[.string ⟨#[]⟩,.int .u64 s,.int .i64 k,.slice A2 l.length c2] 60)):=(Upd.refl _ _).alloc _
  refine ⟨_,_,rfl,rfl,Blk.fresh _ _ _,hi.upd hal fun _ _ => no_ _,fun g hg => ?_,hu2.size,hu2.next hal⟩
  obtain ⟨h1,cs,h2⟩:=hf2 g hg
  have:=h2.lt
  simp
  omega)
 obtain ⟨w3,pb,hw3,hpb,hb3,hi3,hf3,hlo3,hu3⟩:=HB.out
 have HX3:=hid (And.intro hb3 (And.intro hi3 (And.intro hf3 (And.intro hlo3 hu3))))
 clear hr2 hc2 hm2 hu2 hf2 hb3 hi3 hf3 hlo3 hu3 HCp
 go_wp2_with (fail)
 rw [← hw3]
 try rw [← hpb]
 clear hw3 hpb HB
 refine Calls.mono (HK.out w3) ?_
 rintro e w4 ⟨rfl,rfl⟩
 obtain ⟨k0,k1,k2,k3⟩:=box HX3.out.1
 have HFm:=hid (formed_ (⟨#[]⟩,s,k,l) _ w3 HX3.out.2.1)
 rw [HH.out.2.2.2.2.2.1.1] at HFm
 unfold Lt.val at HFm
 go_wp2_with (fail)
 refine Calls.mono HFm.out ?_
 rintro e w4 ⟨rfl,hu4⟩
 have HX4:Hid (Blk w4 pb 60 #[.string ⟨#[]⟩,.int .u64 s,.int .i64 k,.slice A2 l.length c2] ∧ In w4 (⟨#[]⟩,s,k,l) (.slice A2 l.length c2) ∧ (∀ g,(Value.slice A2 l.length c2).ownBlock = some g → w.heap.size ≤ g ∧ g < w4.heap.size ∧ g ≠ pb) ∧ w.heap.size ≤ pb ∧ Upd No w w4):=hid (by
  obtain ⟨h1,h2,h3,h4,h5⟩:=HX3.out
  exact ⟨h1.upd hu4 (no_ _),h2.upd hu4 fun _ _ => no_ _,fun g hg => ⟨(h3 g hg).1,Nat.lt_of_lt_of_le (h3 g hg).2.1 hu4.size,(h3 g hg).2.2⟩,h4,h5.next hu4⟩)
 clear k0 k1 k2 k3 hu4 HX3 HFm HK
 have HE4:=hid (HH.out.1.quiet HX4.out.2.2.2.2)
 obtain ⟨e4,hs4⟩:=HE4.out.ex
 obtain ⟨B4,hb4,_⟩:=Star.own hs4 0 rfl
 obtain ⟨⟨_,_,_,_,p4⟩,_⟩:=ecells hb4.1
 obtain ⟨Q4,hq4,_⟩:=Star.own hs4 5 (o:=wdO e4.pw m.win m.n) rfl
 have HSe:=hid (Ww.seen c s hq4 HH.out.2.2.2.2.2.2.1)
 clear hs4 hb4 hq4
 by_cases hse:s ∈ Wp.sr m.win c
 · rw [decide_eq_true hse] at HSe
   have HR:Hid (m.offered c s to (⟨#[]⟩,s,k,l) = (false,0,m)):=hid (by unfold Em.offered; rw [if_pos hse])
   clear hse
   go_wp2_with (fail)
   refine Calls.mono HSe.out ?_
   rintro e w5 ⟨rfl,rfl⟩
   go_wp2
   go_ret2
   refine .of ?_
   rw [HR.out]
   exact ⟨rfl,F,HE4.out,HX4.out.2.2.2.2.mono fun _ _ h => h.elim,fun _ h => .inl h⟩
 · rw [decide_eq_false hse] at HSe
   have HNs:=hid hse
   clear hse
   go_wp2_with (fail)
   refine Calls.mono HSe.out ?_
   rintro e w5 ⟨rfl,rfl⟩
   have HL:=hid (load_ HE4.out HH.out.2.1 HH.out.2.2.2.2.1 (by have:=HH.out.2.2.1; omega))
   clear p4 HSe
   go_wp2_with (fail)
   refine Calls.mono HL.out ?_
   rintro e w5 ⟨qa,G5,F5,rfl,hat5,hen5,hm5⟩
   have HC:=hid (Ac.copied hat5 (HH.out.1.ok.act HH.out.2.2.2.2.1) (by unfold BB; omega))
   have HX5:=hid (And.intro hen5 hm5)
   clear hat5 hen5 hm5 HL HE4
   go_wp2_with (fail)
   refine Calls.mono HC.out ?_
   rintro e w6 ⟨pa,G6,rfl,hat6,hf6,hu6⟩
   obtain ⟨V6,hSy⟩:=sy_of2 HH.out.1.lt HX4.out.2.2.2.2 HX4.out.2.1 HX4.out.2.2.1 HX4.out.1 HX4.out.2.2.2.1 HX5.out.1 HX5.out.2 hat6 hf6 hu6
   have HSy:=hid hSy
   clear hat6 hf6 hu6 hSy HX5 HC HX4
   by_cases h8:(m.act to).inb.length < 8
   case' pos =>
    obtain ⟨pi,hpu⟩:=sy_sent HSy.out HH.out.2.2.2.2.2.1.1 (.inl ⟨h8,rfl,rfl⟩)
   case' neg =>
    obtain ⟨pi,hpu⟩:=sy_sent HSy.out HH.out.2.2.2.2.2.1.1 (.inr ⟨h8,rfl,rfl⟩)
   all_goals
    have HPu:=hid hpu
    have H8:=hid h8
    clear hpu h8
    go_wp2_with (fail)
    have HPc:=hid (HPu.out _ ((Upd.refl _ _).drew)).2
    refine wp_region_held_drew (S:=fun W => W.cell? ⟨pa,1,none⟩ = some (.pointer (some ⟨pi,0,none⟩)) ∧ W.cell? ⟨pb,0,none⟩ = some (.string ⟨#[]⟩) ∧ W.cell? ⟨pb,1,none⟩ = some (.int .u64 s) ∧ W.cell? ⟨pb,2,none⟩ = some (.int .i64 k) ∧ W.cell? ⟨pb,3,none⟩ = some (.slice A2 l.length c2)) (by kernel_rfl) (HPu.out _ ((Upd.refl _ _).drew)).1 (fun hS => ?_)
    refine zt 0 hS ?_
    refine zt 1 hS ?_
    refine zt 2 hS ?_
    refine zh 3 hS (fun w hw => hw.1) ?_
    refine zh 4 hS (fun w hw => hw.2) ?_
    refine zk 5 (fun K hK => ?_)
    go_simp
    refine Calls.mono HPc.out ?_
    rintro e9 w9 ⟨rfl,hS9,V9,hsy9⟩
    go_wp2_with (fail)
    refine hK.out _ _ (hS9) (fun hS => ?_)
    clear hK K
    try simp only [Act.put,zA,zB,zC]
    refine zt 6 hS ?_
    refine wpAnyH_done (by kernel_rfl) ?_ _
    have HS9:=hid hsy9
    clear hsy9 hS9 hS HPc HPu
   · go_wp2_with (fail)
     refine Calls.mono (end_ HS9.out.en 7 (by decide) (by decide)) ?_
     rintro e w10 ⟨rfl,hk10⟩
     obtain ⟨F10,hs10⟩:=HS9.out.kept hk10
     have HF:=hid hs10.fin
     clear hs10 hk10
     go_wp2
     go_ret2
     have e7:m.offered c s to (⟨#[]⟩,s,k,l) = (false,7,m.loaded to):=by
      unfold Em.offered
      rw [if_neg HNs.out,if_neg H8.out]
     refine .of ?_
     rw [e7]
     exact ⟨rfl,HF.out⟩
   · have HF9:Hid (∃ e9:Ep,w9.cell? ⟨p,4,none⟩ = some (.pointer (some ⟨e9.pw,0,none⟩)) ∧ Calls Tryz.prog 52 #[.pointer (some ⟨e9.pw,0,none⟩)] w9 fun e w' => We.EnOut w9 (We.encX m.win) e w'):=hid (by
      obtain ⟨e9,hs9⟩:=HS9.out.en.ex
      obtain ⟨B9,hb9,_⟩:=Star.own hs9 0 rfl
      obtain ⟨⟨_,_,_,_,p9⟩,_⟩:=ecells hb9.1
      obtain ⟨Q9,hq9,_⟩:=Star.own hs9 5 (o:=wdO e9.pw m.win (m.n + 1)) rfl
      exact ⟨e9,p9,We.encode hq9 HH.out.1.ok.wok⟩)
     obtain ⟨e9,p9,hen9⟩:=HF9.out
     have HEn:=hid hen9
     clear hen9 HF9
     go_wp2_with (fail)
     refine Calls.mono HEn.out ?_
     rintro e w10 ⟨A10,c10,rfl,hc10,hm10,hr10,hu10,hf10⟩
     have HS10:=hid (HS9.out.quiet hu10)
     have hle:=encX_le HH.out.1.ok.wok
     have hdc:=We.decode (c:=c10) hr10 hc10 (by omega) hm10 (We.encX_byte HH.out.1.ok.wok)
     rw [We.dec_enc HH.out.1.ok.wok HH.out.2.2.2.2.2.2.2.2] at hdc
     have HDc:=hid hdc
     clear hc10 hm10 hr10 hu10 hf10 hdc HS9 HEn p9 hle
     go_wp2_with (fail)
     refine Calls.mono HDc.out ?_
     rintro e w11 ⟨pw,G11,n11,rfl,hwd11,hn11,hG11,hu11⟩
     obtain ⟨V11,hs11⟩:=HS10.out.push (o:=wdO pw m.win n11) hu11 hwd11 hG11
     obtain ⟨G12,hw12,hturn⟩:=hs11.turn (o':=wdO pw (Wp.addX m.win c s).2 (m.n + 1))
     have HAd:=hid (Ww.add c s hw12 HH.out.2.2.2.2.2.2.1 HH.out.2.2.2.2.2.2.2.1 HH.out.1.ok.wok (by omega))
     have HTu:=hid hturn
     have HN11:=hid hn11
     clear hwd11 hn11 hG11 hu11 hs11 hw12 hturn HDc HS10
     go_wp2_with (fail)
     refine Calls.mono HAd.out ?_
     rintro e w12 ⟨rfl,G13,hwd12,hm12⟩
     obtain ⟨V12,hs12⟩:=HTu.out w12 G13 hm12 (by
      obtain ⟨mo,v,mm,G,hx⟩:=hwd12
      exact ⟨mo,v,mm,G,hx.mono (by have:=HN11.out; have:=HH.out.2.2.1; omega)⟩)
     have hs13:=hs12.swap.quiet ((Upd.refl No w12).alloc (.cells #[.pointer (some ⟨pa,0,none⟩)] 49))
     have hlt12:=hs12.en.lt
     have HCm:=hid (sy_commitw (m:=m.loaded to) (pw:=pw) (xw:=(Wp.addX m.win c s).2) hs13 (loaded_tidy _ _) (A:=some ⟨w12.heap.size,0,none⟩) (c:=1) (Rd_lit w12 _ 1 1 _ rfl) (fun ad e hf => by injection e with e; subst e; exact absurd (hlt12 _ hf) (Nat.lt_irrefl _)) ⟨Nat.le_refl _,by simp [maxLen]⟩ ⟨got_ok (HH.out.1.ok.act HH.out.2.2.2.2.1) HH.out.2.2.2.2.2.1 H8.out,HH.out.1.ok.zer _ HH.out.2.2.2.2.1⟩ (Wp.Ok.add HH.out.1.ok.wok HH.out.2.2.2.2.2.2.1 HH.out.2.2.2.2.2.2.2.1) (by have:=HH.out.2.2.1; show m.n + 1 + 200 ≤ 400000; omega) (HH.out.2.2.2.1 HNs.out))
     clear hwd12 hm12 hs12 hs13 hlt12 HAd HTu HN11
     go_wp2_with (fail)
     refine Calls.mono HCm.out ?_
     rintro e w14 ⟨rfl,F6,V6,hs14⟩
     obtain ⟨e14,hst14,hc14⟩:=count_ hs14.en
     obtain ⟨B14,hb14,_⟩:=Star.own hst14 0 rfl
     obtain ⟨_,_,_,_,c8,_⟩:=ecells hb14.1
     have HC0:=hid (show Calls Tryz.prog 55 #[.pointer (some ⟨e14.pc,0,none⟩),.int .i64 0,.int .u64 1] w14 _ from hc14 0 (by omega))
     have HS14:=hid hs14
     clear hs14 hst14 hc14 hb14 HCm
     go_wp2_with (fail)
     refine Calls.mono HC0.out ?_
     rintro e w15 ⟨n15,rfl,hk15⟩
     obtain ⟨F10,hs15⟩:=HS14.out.kept hk15
     have HS15:=hid hs15
     clear hs15 hk15 HC0 c8 HS14
     go_wp2_with (fail)
     refine Calls.mono (end_ok HS15.out.en) ?_
     rintro e w16 ⟨rfl,rfl⟩
     go_wp2
     go_ret2
     have e7:m.offered c s to (⟨#[]⟩,s,k,l) = (true,0,(m.loaded to).commit [(0,got (m.act to) (⟨#[]⟩,s,k,l))] none (some (0,(Wp.addX m.win c s).2))):=by
      unfold Em.offered
      rw [if_neg HNs.out,if_pos H8.out]
     refine .of ?_
     rw [e7]
     exact ⟨rfl,HS15.out.fin⟩
end Go.Proofs.YtclfmpieapbfnaaGreatDoor.Eg
end
