/- Part 15: lemmas, no conditions. -/
import Derived.Test.YtclfmpieapbfnaaGreatDoorZ13
import Derived.Test.YtclfmpieapbfnaaGreatDoorZ08
import Derived.Test.YtclfmpieapbfnaaGreatDoorZ07
import Derived.Test.YtclfmpieapbfnaaGreatDoorZ09
import Derived.Test.YtclfmpieapbfnaaGreatDoorProg
import Derived.Lib.SliceRun
import Derived.WalkSpells
import Derived.Deep.RegionHeld3
import Derived.Deep.RegionLaw
import Derived.Deep.DrawnRows
set_option maxHeartbeats 2000000
namespace Go.Proofs.YtclfmpieapbfnaaGreatDoor
set_option linter.unusedVariables false
set_option linter.unusedSimpArgs false
section
namespace Ww
open Go.RowKit B Df Ws Go.Proofs.YtclfmpieapbfnaaGreatDoor.Mp Wp
theorem clone_info:(Tryz.prog.info? 23).map (fun i => (i.zero,i.size,i.bytes)) = some (some (.int .u64 0),1,8):=by kernel_rfl
theorem clone (A:Option Addr) (n c:Nat) (xs:List Value) (w:World) (hr:Rd w 1 A n xs) (h1:∀ u ∈ xs,u.oneCell' = true) (hn:n * 8 ≤ 140737488355328) :
 Calls Tryz.prog 120 #[.slice A n c] w fun e w' => ∃ A' c',e = .returned (.slice A' n c') ∧ w'.ownsRow w.heap.size 23 1 (.slice A' n c') n xs ∧ Upd No w w' ∧ (A = none → A' = none):=by
 have q:∀ (w:World) (a:Option Addr) (n c n' c':Nat),(binOp .eql 210 (.slice a n c) (.slice none n' c')).run Tryz.prog w = .ok (.bool a.isNone) w:=fun w a n c n' c' => Go.Lib.run_eql_slice_nil w _ _ a n c n' c' Tryz.underlying210
 rcases A with _ | ad
 · obtain rfl:n = 0:=by
    rcases Nat.eq_zero_or_pos n with h0 | h0
    · exact h0
    · obtain ⟨ad,h,_⟩:=hr.2 h0
      cases h
   obtain rfl:xs = []:=List.eq_nil_of_length_eq_zero (by simpa using hr.1)
   go_enter Tryz.func120,Tryz.ntmps120
   go_wp2
   go_ret
   exact ⟨none,0,rfl,⟨by simp,.inl ⟨rfl,rfl⟩⟩,Upd.refl _ _,fun _ => rfl⟩
 · go_enter Tryz.func120,Tryz.ntmps120
   go_wp2_with (at_builtin; refine ap_row w.heap.size rfl _ _ 210 23 (.int .u64 0) 1 8 rfl Tryz.underlying210 clone_info rfl (by omega) (.slice (some ⟨w.heap.size,0,none⟩) 0 0) 0 [] (some ad) n c xs rfl rfl (World.ownsRow_made w #[] 0 (Nat.le_refl _) (Nat.zero_le _) rfl) (Rd.alloc hr (by omega) _) h1 (by omega) (by omega) (by simp) ?_; intro A1 c1 w1 ho hg hat; rw [Nat.zero_add,List.nil_append] at ho; rw [Nat.zero_add])
   go_wp2
   go_ret
   refine ⟨A1,c1,rfl,ho,?_,fun h => by cases h⟩
   have h5:Upd No w (w.alloc (.cells #[] 23)):=(Upd.refl _ _).alloc _
   exact h5.grown hg fun k hk => by
    have:w.heap.size = k:=by simpa [Value.ownBlock] using hk
    exact .inr (by omega)
def ks (x:St):List Int:=x.map (·.1)
theorem ks_length (x:St):(ks x).length = x.length:=by simp [ks]
def Vl (w:World) (G:Nat → Prop) (v:Value) (l:List Int):Prop:=∃ A c,v = .slice A l.length c ∧ l.length ≤ c ∧ c ≤ maxLen ∧ Rn w .u64 A l ∧ ∀ ad,A = some ad → G ad.block
structure Wx (w:World) (F:Nat → Prop) (p:Nat) (x:St) (n:Nat) (mo:Option Nat) (v:Value) (m:Int → Value) (G:Nat → Prop):Prop where
 blk:Blk w p 212 #[.map mo,v]
 ord:Sl w 0 23 1 v (ks x).length (nums .u64 (ks x))
 map:∀ b,mo = some b → Mp.Mp Tryz.prog w 23 b n m
 non:mo = none → x = [] ∧ ∀ c,m c = nl
 val:∀ c,Wp.Key c → Vl w G (m c) (sr x c)
 fp:F p
 fb:∀ b,mo = some b → F b ∧ b ≠ p
 fv:∀ k,v.ownBlock = some k → F k ∧ k ≠ p ∧ mo ≠ some k
 fg:∀ k,G k → F k ∧ k ≠ p ∧ v.ownBlock ≠ some k ∧ mo ≠ some k
 lt:∀ k,F k → k < w.heap.size
def Wd (w:World) (F:Nat → Prop) (p:Nat) (x:St) (n:Nat):Prop:=∃ mo v m G,Wx w F p x n mo v m G
section
variable {w w':World} {F H G:Nat → Prop} {p n:Nat} {x:St} {mo:Option Nat} {v:Value} {m:Int → Value}
theorem Vl.upd {l:List Int} (h:Vl w G v l) (hu:Upd H w w') (hn:∀ k,G k → ¬ H k):Vl w' G v l:=by
 obtain ⟨A,c,h1,h2,h3,h4,h5⟩:=h
 exact ⟨A,c,h1,h2,h3,h4.upd (by omega) hu fun ad e => hn _ (h5 ad e),h5⟩
theorem Wx.upd (h:Wx w F p x n mo v m G) (hu:Upd H w w') (hn:∀ k,F k → ¬ H k):Wx w' F p x n mo v m G where
 blk:=h.blk.upd hu (hn _ h.fp)
 ord:=h.ord.upd hu fun g hg => hn _ (h.fv g hg).1
 map:=fun b hb => (h.map b hb).upd hu (hn _ (h.fb b hb).1)
 non:=h.non
 val:=fun c hc => (h.val c hc).upd hu fun k hk => hn _ (h.fg k hk).1
 fp:=h.fp
 fb:=h.fb
 fv:=h.fv
 fg:=h.fg
 lt:=fun k hk => Nat.lt_of_lt_of_le (h.lt k hk) hu.size
theorem Wd.upd (h:Wd w F p x n) (hu:Upd H w w') (hn:∀ k,F k → ¬ H k):Wd w' F p x n:=by
 obtain ⟨mo,v,m,G,h⟩:=h
 exact ⟨mo,v,m,G,h.upd hu hn⟩
theorem Wd.lt (h:Wd w F p x n):∀ k,F k → k < w.heap.size:=by
 obtain ⟨mo,v,m,G,h⟩:=h
 exact h.lt
theorem u_zeroS (w:World):(zeroValue 210).run Tryz.prog w = .ok nl w:=by kernel_rfl
theorem Wx.look (h:Wx w F p x n mo v m G) {c:Int} (hc:Wp.Key c):(Instr.lookup 209 (.map mo) (.int .u64 c) false).run Tryz.prog w = .ok (m c) w:=by
 rcases mo with _ | b
 · rw [look_none Tryz.underlying23 Tryz.underlying209 u_zeroS hc,(h.non rfl).2]
 · exact (h.map b rfl).look Tryz.underlying23 Tryz.underlying209 u_zeroS hc
end
theorem new_ (w:World):Calls Tryz.prog 28 #[] w fun e w' => e = .returned (.pointer (some ⟨w.heap.size,0,none⟩)) ∧ w' = w.alloc (.cells #[.map none,.slice none 0 0] 212):=by
 go_enter Tryz.func28,Tryz.ntmps28
 go_wp2
 go_ret
 exact ⟨rfl,rfl⟩
theorem Wx.new {w:World} {o:Obj} (ho:o = .cells #[.map none,.slice none 0 0] 212):Wx (w.alloc o) (fun k => k = w.heap.size) w.heap.size [] 0 none (.slice none 0 0) (fun _ => nl) No:=by
 subst ho
 refine ⟨Blk.fresh _ _ _,Sl.nil _ _ _ _,fun b hb => (by cases hb),fun _ => ⟨rfl,fun _ => rfl⟩,fun c _ => ⟨none,0,rfl,by simp [sr],by simp,Rd.nil_ _ _ _,fun ad h => (by cases h)⟩,rfl,fun b hb => (by cases hb),fun k hk => by simp [Value.ownBlock] at hk,fun k hk => hk.elim,fun k hk => by subst hk; simp⟩
theorem seen {w:World} {F:Nat → Prop} {p n:Nat} {x:St} (c s:Int) (h:Wd w F p x n) (hc:Wp.Key c) :
 Calls Tryz.prog 48 #[.pointer (some ⟨p,0,none⟩),.int .u64 c,.int .u64 s] w fun e w' => e = .returned (.bool (decide (s ∈ sr x c))) ∧ w = w':=by
 obtain ⟨mo,v,m,G,h⟩:=h
 have hL:=h.look hc
 obtain ⟨A,k,hv,hk1,hk2,hR,_⟩:=h.val c hc
 rw [hv] at hL
 simp only [maxLen] at hk2
 have HC:=hid (u_has (c:=k) s hR (by omega))
 have c0:=h.blk.cell 0
 simp at c0
 clear hv hR
 generalize sr x c = l at *
 go_enter Tryz.func48,Tryz.ntmps48
 go_wp2_with (fail)
 refine Calls.mono HC.out ?_
 rintro e w' ⟨rfl,rfl⟩
 go_wp2
 go_ret
 exact ⟨rfl,rfl⟩
def RowOut (w:World) (l:List Int) (e:Ending) (w':World):Prop:=∃ A c,e = .returned (.slice A l.length c) ∧ w'.ownsRow w.heap.size 23 1 (.slice A l.length c) l.length (nums .u64 l) ∧ Upd No w w'
theorem RowOut.of {w:World} {l:List Int} {e:Ending} {w':World} (h:∃ A c,e = .returned (.slice A l.length c) ∧ w'.ownsRow w.heap.size 23 1 (.slice A l.length c) l.length (nums .u64 l) ∧ Upd No w w'):RowOut w l e w':=h
theorem serials {w:World} {F:Nat → Prop} {p n:Nat} {x:St} (c:Int) (h:Wd w F p x n) (hc:Wp.Key c) (hl:(sr x c).length ≤ 4) :
 Calls Tryz.prog 117 #[.pointer (some ⟨p,0,none⟩),.int .u64 c] w fun e w' => RowOut w (sr x c) e w':=by
 obtain ⟨mo,v,m,G,h⟩:=h
 have hL:=h.look hc
 obtain ⟨A,k,hv,hk1,hk2,hR,_⟩:=h.val c hc
 rw [hv] at hL
 have HC:=hid (clone A _ k _ w hR (nums_one _ _) (by omega))
 have c0:=h.blk.cell 0
 simp at c0
 clear hv hR
 generalize sr x c = l at *
 go_enter Tryz.func117,Tryz.ntmps117
 go_wp2_with (fail)
 refine Calls.mono HC.out ?_
 rintro e w' ⟨A',c',rfl,ho,hu,_⟩
 have HO:=hid (And.intro ho hu)
 clear ho hu
 go_wp2
 go_ret
 exact .of ⟨A',c',rfl,HO.out.1,HO.out.2⟩
theorem add1 (b:Nat) (c y:Int) (w:World) (hb:w.cell? ⟨b,0,none⟩ = some (.int .u64 c)) :
 Calls Tryz.prog 119 #[.int .u64 y,.pointer (some ⟨b,0,none⟩)] w fun e w' => e = .returned (.bool (decide (y = c))) ∧ w = w':=by
 by_cases h:y = c
 · subst h
   have hT:Hid (decide (y = y) = true):=hid (by simp)
   go_enter Tryz.func119,Tryz.ntmps119
   go_wp2
   go_ret
   exact ⟨congrArg (fun z => Ending.returned (.bool z)) (by simp),rfl⟩
 · have hT:Hid (decide (y = c) = false):=hid (by simpa using h)
   have hE:(y == c) = false:=by simp [h]
   clear h
   go_enter Tryz.func119,Tryz.ntmps119
   go_wp2
   go_ret
   exact ⟨congrArg (fun z => Ending.returned (.bool z)) hT.out.symm,rfl⟩
end Ww
end
section
namespace Ww
open Go.RowKit B Df Ws Go.Proofs.YtclfmpieapbfnaaGreatDoor.Mp Wp
theorem box1 {w:World} {g:Nat} {t:TypeId} {a:Value} (h:Blk w g t #[a]):w.cell? ⟨g,0,none⟩ = some a:=by simpa using h.cell 0
theorem box2 {w:World} {g:Nat} {t:TypeId} {a b:Value} (h:Blk w g t #[a,b]):w.cell? ⟨g,0,none⟩ = some a ∧ w.cell? ⟨g,1,none⟩ = some b:=⟨by simpa using h.cell 0,by simpa using h.cell 1⟩
theorem boxed {W8 W:World} {e:TypeId} {u:Value} (h:W8 = W.alloc (.cells #[u] e)):Rd W8 1 (some ⟨W.heap.size,0,none⟩) 1 [u]:=by
 rw [h]
 exact Rd_lit W e 1 1 [u] rfl
theorem boxed_drew {W8 W:World} {e:TypeId} {u:Value} (h:W8 = (W.alloc (.cells #[u] e)).drew):Rd W8 1 (some ⟨W.heap.size,0,none⟩) 1 [u]:=by
 rw [h]
 exact Rd_lit W e 1 1 [u] rfl
theorem ownb (A:Option Addr) (n c n' c':Nat):(Value.slice A n c).ownBlock = (Value.slice A n' c').ownBlock:=by cases A <;> rfl
theorem val_of {w6:World} {base g6 N c6 D:Nat} {l5:List Int} {s:Int} {A7:Option Addr} (ho6:w6.ownsRow base 23 1 (.slice (some ⟨g6,0,none⟩) N c6) N (nums .u64 l5 ++ [.int .u64 s])) (hN:N = l5.length + 1) (hD:D = N - 4)
 (hA7:A7 = if c6 = D then some ⟨g6,0,none⟩ else Option.map (fun x:Addr => x.add D) (some ⟨g6,0,none⟩)):Vl w6 (fun k => k = g6) (.slice A7 (N - D) (c6 - D)) (cut4 (l5 ++ [s])):=by
 have hl:(l5 ++ [s]).length = N:=by rw [hN]; simp
 obtain ⟨_,_,hv,h1,h2⟩:=own_shape ho6
 simp only [Value.slice.injEq,true_and] at hv
 obtain ⟨_,rfl⟩:=hv
 have hR:Rn w6 .u64 (some ⟨g6,0,none⟩) (l5 ++ [s]):=by
  have:=Rd.of_own ho6
  unfold Rn
  rw [hl,nums_append]
  exact this
 have hcut:cut4 (l5 ++ [s]) = (l5 ++ [s]).drop D:=by rw [cut4,hl,hD]
 refine ⟨A7,c6 - D,by rw [hcut,List.length_drop,hl],by rw [hcut,List.length_drop,hl]; omega,by omega,?_,fun ad h => ?_⟩
 · rw [hcut,hA7]
   exact Rn.drop (i:=D) (c:=c6) hR (by omega) (by omega)
 · rw [hA7] at h
   obtain ⟨ad',h1,h2⟩:=cut_block h
   injection h1 with h1
   rw [h2,← h1]
theorem Vl.nil (w:World) (G:Nat → Prop):Vl w G nl []:=⟨none,0,rfl,Nat.le_refl _,by simp,Rd.nil_ _ _ _,fun ad h => by cases h⟩
theorem first_cell {w:World} {t:TypeId} {A:Option Addr} {n c:Nat} {u:Value} {r:List Value} (h:Sl w 0 t 1 (.slice A (n + 1) c) (n + 1) (u :: r)):∃ g off,A = some ⟨g,off,none⟩ ∧ w.cell? ⟨g,off,none⟩ = some u ∧ g < w.heap.size:=by
 rcases h.2 with ⟨_,h⟩ | ⟨g,off,cap,cur,hv,_,hh,_,_,_,hc⟩
 · omega
 · simp only [Value.slice.injEq,true_and] at hv
   obtain ⟨rfl,rfl⟩:=hv
   exact ⟨g,off,rfl,by rw [hh.cell]; exact hc 0 u rfl,hh.lt⟩
theorem Wx.fvb {w:World} {F:Nat → Prop} {p n:Nat} {x:St} {b:Nat} {v:Value} {m:Int → Value} {G:Nat → Prop} (h:Wx w F p x n (some b) v m G):∀ k,v.ownBlock = some k → k ≠ b:=fun k hk e => (h.fv k hk).2.2 (by rw [e])
theorem u64_info:(Tryz.prog.info? 23).map (fun i => (i.zero,i.size,i.bytes)) = some (some (.int .u64 0),1,8):=by kernel_rfl
def AddOut (w:World) (F:Nat → Prop) (p n:Nat) (x:St) (r:Bool × St) (e:Ending) (w':World):Prop:=e = .returned (.bool r.1) ∧ ∃ F',Wd w' F' p r.2 (n + 1) ∧ Mv F F' w w'
theorem AddOut.of {w:World} {F:Nat → Prop} {p n:Nat} {x:St} {r:Bool × St} {e:Ending} {w':World} (h:e = .returned (.bool r.1) ∧ ∃ F',Wd w' F' p r.2 (n + 1) ∧ Mv F F' w w'):AddOut w F p n x r e w':=h
theorem Wx.mono {w:World} {F:Nat → Prop} {p n n':Nat} {x:St} {mo:Option Nat} {v:Value} {m:Int → Value} {G:Nat → Prop} (h:Wx w F p x n mo v m G) (hn:n ≤ n'):Wx w F p x n' mo v m G:=
 { h with map:=fun b hb => (h.map b hb).mono hn }
theorem Wx.fin {w w4 wz:World} {F F4 G':Nat → Prop} {p n n' nz b g6:Nat} {x z:St} {v vz:Value} {m' mz:Int → Value} (h:Wx w4 F4 p x n' (some b) v m' G') (hM:Mv F F4 w w4)
 (hB:Blk wz p 212 #[.map (some b),vz]) (hO:Sl wz 0 23 1 vz (ks z).length (nums .u64 (ks z))) (hMp:Mp.Mp Tryz.prog wz 23 b nz mz) (hnz:nz ≤ n + 1)
 (hu:Upd (fun k => k = p ∨ k = b ∨ v.ownBlock = some k) w4 wz)
 (hval:∀ c,Wp.Key c → (mz c = m' c ∧ sr z c = sr x c) ∨ Vl wz (fun k => k = g6) (mz c) (sr z c))
 (hg6:w4.heap.size ≤ g6 ∧ g6 < wz.heap.size) (hvz:∀ k,vz.ownBlock = some k → (v.ownBlock = some k ∨ w4.heap.size ≤ k) ∧ k ≠ g6) :
 ∃ F',Wd wz F' p z (n + 1) ∧ Mv F F' w wz:=by
 have hz:=hu.size
 have hfb:=h.fb b rfl
 have hpl:=h.lt p h.fp
 have hbl:=h.lt b hfb.1
 refine ⟨fun k => F4 k ∨ k = g6 ∨ vz.ownBlock = some k,⟨some b,vz,mz,fun k => G' k ∨ k = g6,hB,hO,fun b' hb' => ?_,fun h => (by cases h),fun c hc => ?_,.inl h.fp,fun b' hb' => ?_,fun k hk => ?_,fun k hk => ?_,fun k hk => ?_⟩,⟨hM.upd.trans hu ?_,fun k hk => ?_⟩⟩
 · injection hb' with hb'
   subst hb'
   exact hMp.mono hnz
 · rcases hval c hc with ⟨h1,h2⟩ | h1
   · rw [h1,h2]
     obtain ⟨A,k,e1,e2,e3,e4,e5⟩:=(h.val c hc).upd hu (fun k hk => by
      obtain ⟨_,h1,h2,h3⟩:=h.fg k hk
      rintro (h4 | h4 | h4)
      · exact h1 h4
      · exact h3 (by rw [h4])
      · exact h2 h4)
     exact ⟨A,k,e1,e2,e3,e4,fun ad e => .inl (e5 ad e)⟩
   · obtain ⟨A,k,e1,e2,e3,e4,e5⟩:=h1
     exact ⟨A,k,e1,e2,e3,e4,fun ad e => .inr (e5 ad e)⟩
 · injection hb' with hb'
   subst hb'
   exact ⟨.inl hfb.1,hfb.2⟩
 · obtain ⟨h1,h2⟩:=hvz k hk
   refine ⟨.inr (.inr hk),?_,fun e => ?_⟩
   · rcases h1 with h1 | h1
     · exact (h.fv k h1).2.1
     · omega
   · injection e with e
     rcases h1 with h1 | h1
     · exact (h.fv k h1).2.2 (by rw [e])
     · omega
 · rcases hk with hk | rfl
   · obtain ⟨h0,h1,h2,h3⟩:=h.fg k hk
     have:=h.lt k h0
     exact ⟨.inl h0,h1,fun e => (hvz k e).1.elim h2 fun h => by omega,h3⟩
   · exact ⟨.inr (.inl rfl),by omega,fun e => (hvz _ e).2 rfl,fun e => by injection e with e; omega⟩
 · rcases hk with hk | rfl | hk
   · have:=h.lt k hk; omega
   · exact hg6.2
   · exact (hO.lt k hk).2
 · rintro i hi (rfl | rfl | hk)
   · exact (hM.sub _ h.fp).elim id fun h => by omega
   · exact (hM.sub _ hfb.1).elim id fun h => by omega
   · exact (hM.sub _ (h.fv i hk).1).elim id fun h => by omega
 · have hs:=hM.upd.size
   rcases hk with hk | rfl | hk
   · exact hM.sub k hk
   · exact .inr (by omega)
   · rcases (hvz k hk).1 with h1 | h1
     · exact hM.sub k (h.fv k h1).1
     · exact .inr (by omega)
theorem add_seen {w:World} {F:Nat → Prop} {p n:Nat} {x:St} (c s:Int) (h:Wd w F p x n) (hc:Wp.Key c) (hs:s ∈ sr x c) :
 Calls Tryz.prog 53 #[.pointer (some ⟨p,0,none⟩),.int .u64 c,.int .u64 s] w fun e w' => AddOut w F p n x (addX x c s) e w':=by
 have hu1:Upd No w (w.alloc (.cells #[.int .u64 c] 23)):=(Upd.refl _ _).alloc _
 have hb1:=(Blk.fresh w 23 #[.int .u64 c]).cell 0
 simp at hb1
 have HS:=hid (seen c s (h.upd hu1 fun _ _ => no_ _) hc)
 have HT:Hid (addX x c s = (false,x) ∧ decide (s ∈ sr x c) = true):=hid ⟨by simp [addX,hs],by simpa using hs⟩
 rw [HT.out.2] at HS
 have HE:Hid (Wd (w.alloc (.cells #[.int .u64 c] 23)) F p x (n + 1) ∧ Mv F F w (w.alloc (.cells #[.int .u64 c] 23))):=by
  obtain ⟨mo,v,m,G,h⟩:=h
  exact hid ⟨⟨mo,v,m,G,(h.upd hu1 fun _ _ => no_ _).mono (by omega)⟩,⟨hu1.mono fun _ _ h => h.elim,fun k hk => .inl hk⟩⟩
 rw [HT.out.1]
 clear hs h HT
 go_enter Tryz.func53,Tryz.ntmps53
 go_wp2_with (fail)
 refine Calls.mono HS.out ?_
 rintro e w' ⟨rfl,rfl⟩
 go_wp2
 go_ret
 exact .of ⟨rfl,F,HE.out⟩
set_option maxRecDepth 100000 in
theorem add_new {w:World} {F:Nat → Prop} {p n:Nat} {x:St} (c s:Int) (h:Wd w F p x n) (hc:Wp.Key c) (hsk:Wp.Key s) (hs:s ∉ sr x c) (hok:Ok x) (hn:n ≤ 1000000) :
 Calls Tryz.prog 53 #[.pointer (some ⟨p,0,none⟩),.int .u64 c,.int .u64 s] w fun e w' => AddOut w F p n x (addX x c s) e w':=by
 have hu1:Upd No w (w.alloc (.cells #[.int .u64 c] 23)):=(Upd.refl _ _).alloc _
 have hb1:=Blk.fresh w 23 #[.int .u64 c]
 have HS:=hid (seen c s (h.upd hu1 fun _ _ => no_ _) hc)
 have hT:decide (s ∈ sr x c) = false:=by simpa using hs
 rw [hT] at HS
 have HA:Hid (addX x c s = (true,cut64 (laid x c s))):=hid (by simp [addX,hs])
 rw [HA.out]
 have qm:=fun (w:World) (r:Option Nat) => run_eql_map_nil (P:=Tryz.prog) w 209 23 210 r Tryz.underlying209
 have hmk:=@run_makeMap Tryz.prog
 obtain ⟨mo,v,m,G,h⟩:=h
 have hX1:=h.upd hu1 fun _ _ => no_ _
 have c0:=hX1.blk.cell 0
 have f0:=hX1.blk.free 0
 have c1:=hX1.blk.cell 1
 simp at c0 c1
 have HX1:=hid hX1
 have hpl:=h.lt p h.fp
 have HL:=hid h.lt
 clear hT hs hX1
 go_enter Tryz.func53,Tryz.ntmps53
 go_wp2_with (fail)
 generalize hw1:w.alloc (.cells #[.int .u64 c] 23) = w1 at *
 refine Calls.mono HS.out ?_
 rintro e w' ⟨rfl,rfl⟩
 have d1:=hb1.cell 0
 simp at d1
 have hs1:w.heap.size < w1.heap.size:=by rw [← hw1]; simp
 clear hw1
 rcases mo with _ | b
 case' none =>
  have hB2:=HX1.out.blk.alloc (.map #[] 0)
  have k0:=hB2.cell 0
  have g0:=hB2.free 0
  simp at k0
  have hD2:=(hb1.alloc (.map #[] 0)).far (p:=⟨p,0,none⟩) (by simp; omega) (.map (some w1.heap.size))
  have hD3:=hD2.cell 0
  simp only [List.getElem?_toArray,List.getElem?_cons_zero] at hD3
  have HW:Hid (∃ (b n':Nat) (m':Int → Value) (F4 G':Nat → Prop),n' ≤ n ∧ b = w1.heap.size ∧ Wx ((w1.alloc (.map #[] 0)).setCell ⟨p,0,none⟩ (.map (some w1.heap.size))) F4 p x n' (some b) v m' G' ∧ Mv F F4 w ((w1.alloc (.map #[] 0)).setCell ⟨p,0,none⟩ (.map (some w1.heap.size))) ∧ (∀ k,F4 k → k ≠ w.heap.size)):=by
   have h:=HX1.out
   have hx0:=(h.non rfl).1
   have hp1:=h.lt p h.fp
   refine hid ⟨_,0,fun _ => nl,fun k => F k ∨ k = w1.heap.size,G,by omega,rfl,⟨?_,?_,fun b' hb' => ?_,fun h => (by cases h),fun c hc => ?_,.inl h.fp,fun b' hb' => ?_,fun k hk => ?_,fun k hk => ?_,fun k hk => ?_⟩,⟨?_,fun k hk => ?_⟩,fun k hk => ?_⟩
   · simpa using (h.blk.alloc (.map #[] 0)).put 0 (.map (some w1.heap.size))
   · exact (h.ord.alloc _).upd ((Upd.refl _ _).set1 0 _) fun g hg => (h.fv g hg).2.1
   · injection hb' with hb'
     subst hb'
     exact (Mp.made Tryz.prog w1 23).upd ((Upd.refl (fun k => k = p) _).set1 0 _) (by omega)
   · rw [hx0]
     exact Vl.nil _ _
   · injection hb' with hb'
     subst hb'
     exact ⟨.inr rfl,by omega⟩
   · obtain ⟨h1,h2,_⟩:=h.fv k hk
     have:=h.lt k h1
     exact ⟨.inl h1,h2,fun e => by injection e with e; omega⟩
   · obtain ⟨h1,h2,h3,_⟩:=h.fg k hk
     have:=h.lt k h1
     exact ⟨.inl h1,h2,h3,fun e => by injection e with e; omega⟩
   · rcases hk with hk | rfl
     · have:=h.lt k hk
       simp [World.setCell]
       omega
     · simp [World.setCell]
   · exact ((hu1.mono fun _ _ h => h.elim).alloc _).set (p:=⟨p,0,none⟩) (.inl h.fp) _
   · rcases hk with hk | rfl
     · exact .inl hk
     · exact .inr (by omega)
   · rcases hk with hk | rfl
     · have:=HL.out k hk; omega
     · omega
  go_wp2_with (fail)
  generalize (w1.alloc (.map #[] 0)).setCell ⟨p,0,none⟩ (.map (some w1.heap.size)) = w4 at *
  obtain ⟨b,n',m',F4,G',hn',hb,hX4,hM4,hF4⟩:=HW.out
  rw [← hb]
  have HD4:=hid hD2
  clear hb hD2 hB2 k0 g0
 case' some b =>
  go_wp2_with (fail)
  obtain ⟨n',m',F4,G',hn',hX4,hM4,hF4⟩:∃ (n':Nat) (m':Int → Value) (F4 G':Nat → Prop),n' ≤ n ∧ Wx w1 F4 p x n' (some b) v m' G' ∧ Mv F F4 w w1 ∧ (∀ k,F4 k → k ≠ w.heap.size):=⟨n,m,F,G,by omega,HX1.out,⟨hu1.mono fun _ _ h => h.elim,fun k hk => .inl hk⟩,fun k hk => by have:=h.lt k hk; omega⟩
  have HD4:=hid hb1
  obtain ⟨w4,rfl⟩:∃ w4,w4 = w1:=⟨_,rfl⟩
 all_goals
  clear HS c0 f0 c1 d1 hs1 HX1 hb1 hu1 h
  have hsrl:=hok.sr_le c
  have HSe:=hid (serials c ⟨some b,v,m',G',hX4⟩ hc hsrl)
  have e4:=box1 HD4.out
  refine Calls.mono HSe.out ?_
  rintro e w5 ⟨A5,c5,rfl,ho5,hu5⟩
  obtain ⟨l5,hl5⟩:∃ l5,l5 = sr x c:=⟨_,rfl⟩
  rw [← hl5] at ho5 hsrl ⊢
  have HL5:=hid hl5
  clear hl5 HSe e4
  go_wp2_with (at_builtin; go_must (refine ap_one rfl (.tmp 27) (.tmp 29) 210 23 (.int .u64 0) 8 rfl Tryz.underlying210 u64_info rfl (.slice A5 l5.length c5) l5.length (nums .u64 l5) (.int .u64 s) rfl rfl (Blk.fresh _ _ _) rfl (ho5.alloc _) (by omega) (by omega) ?_ (by have:=hu5.size; simp; omega)); intro g6 c6 w6 ho6 hg6 hat6)
  have hu46:Upd No w4 w6:=(hu5.alloc _).grown hg6 fun k hk => .inr (ho5.lt k hk).1
  have hg6l:=(ho6.lt g6 rfl)
  have hX6:=hX4.upd hu46 fun _ _ => no_ _
  have HD6:=hid (HD4.out.upd hu46 (no_ _))
  have hfb:=hX4.fb b rfl
  have hFl:=hX4.lt
  have hbF:=hX4.lt b hfb.1
  obtain ⟨N,hN⟩:∃ N,N = l5.length + 1:=⟨_,rfl⟩
  rw [← hN] at ho6
  have hcap:=own_len ho6
  obtain ⟨D,hD⟩:∃ D,D = N - 4:=⟨_,rfl⟩
  obtain ⟨A7,hA7,hcut⟩:=cut_from (P:=Tryz.prog) 210 23 .i64 Tryz.underlying210 (by kernel_rfl) (some ⟨g6,0,none⟩) N c6 D (D:Int) rfl (by omega)
  have hN':((l5.length + 1:Nat):Int) = (N:Int):=by rw [hN]
  have HN:=hid hN
  have HD:=hid hD
  have HA7:=hid hA7
  have HN1:1 ≤ N ∧ N ≤ 5:=by omega
  have hwr:IntKind.i64.wrap ((N:Int) - 4) = (N:Int) - 4:=IntWalk.i64_in _ (by omega)
  have e9:(if IntKind.i64.wrap ((N:Int) - 4) < 0 then 0 else IntKind.i64.wrap ((N:Int) - 4)) = (D:Int):=by
   rw [hwr]
   split <;> omega
  rw [← hN]
  clear hN hD hA7 hN' hwr
  clear hu5 ho5 hg6 hat6
  go_wp2_with (fail)
  refine wp_region_held_drew (S:=fun W => Upd (fun k => k = b) w6 W) (by kernel_rfl) (Upd.refl _ _).drew (fun hS => ?_)
  refine zt 0 hS ?_
  refine zt 1 hS ?_
  refine zt 2 hS ?_
  refine zh 3 hS (fun w hw => (box2 (hX6.blk.upd hw (Ne.symm hfb.2))).1) ?_
  refine zh 4 hS (fun w hw => box1 (HD6.out.upd hw (fun e => hF4 b hfb.1 e.symm))) ?_
  refine zt 5 hS ?_
  refine zt 6 hS ?_
  refine zt 7 hS ?_
  refine zt 8 hS ?_
  refine zt 9 hS ?_
  refine zt 10 hS ?_
  refine zk 11 (fun K hK => ?_)
  refine Mp.wp_store (.tmp 34) (.tmp 35) (.tmp 41) 209 23 210 (by rfl) Tryz.underlying23 Tryz.underlying209 b n' m' c (.slice A7 (N - D) (c6 - D)) (by rfl) (by rfl) (by rfl) (hX6.map b rfl).drew (by simp only [maxLen]; omega) hc ?_
  intro w7 hM7 hu7
  replace hu7:=Upd.of_drew hu7
  refine hK.out _ _ ((by exact hu7)) (fun hS => ?_)
  clear hK K
  try simp only [Act.put,zA,zB,zC]
  refine wpAnyH_done (by kernel_rfl) ?_ _
  have hB7:=hX6.blk.upd hu7 (Ne.symm hfb.2)
  have hO7:=hX6.ord.upd hu7 (fun g hg e => (hX6.fv g hg).2.2 (by rw [e]))
  have hD7:=HD6.out.upd hu7 (fun e => hF4 b hfb.1 e.symm)
  have hfv:=hX4.fv
  have hb0F:∀ k,v.ownBlock = some k → k ≠ w.heap.size ∧ k ≠ p:=fun k hk => ⟨hF4 k (hfv k hk).1,(hfv k hk).2.1⟩
  have hpF:=hF4 p hX4.fp
  obtain ⟨Av,cv,hv,hcv1,hcv2⟩:=hO7.shape
  have HB:=hid (And.intro hX4 (And.intro hX6 hM7))
  have hkl:(ks x).length ≤ 64:=by rw [ks_length]; exact hok.len
  rw [hv] at hO7 hb0F hB7
  have HV:=hid hv
  obtain ⟨fl,hfl⟩:∃ fl,fl = (ks x).filter (fun y => !decide (y = c)):=⟨_,rfl⟩
  have hC7:=fun (W:World) (hu7W:Upd No w7 W) => u_del (q:=fun y => decide (y = c)) (c:=cv) (w:=W) 0 w.heap.size (hO7.upd hu7W fun _ _ => no_ _) (by omega) (hid fun W' hu y hy => add1 _ c y W' (box1 ((hD7.upd hu7W (no_ _)).upd hu (fun e => (hb0F _ e).1 rfl))))
  simp only [← hfl] at hC7
  have HC7:=hid hC7
  have hfll:fl.length ≤ 64:=by
   rw [hfl]
   have:=List.length_filter_le (fun y => !decide (y = c)) (ks x)
   omega
  have HFL:=hid hfl
  have hN:Upd No w7 w7.drew:=(Upd.refl _ _).drew
  have hU:Upd (fun k => (Value.slice Av (ks x).length cv).ownBlock = some k) w7 w7.drew:=(Upd.refl _ _).drew
  have hD:=hD7.drew
  have hB:=hB7.drew
  have hob:∀ k,(Value.slice Av (ks x).length cv).ownBlock = some k → k < w7.heap.size:=fun k hk => (hO7.lt k hk).2
  clear hv hfl hC7 e9 hcut hX6 hX4 hfv hfb hM7 hD7 hB7 hO7
  go_wp2_with (fail)
  refine wp_region_held_drew (S:=fun W => Blk W w.heap.size 23 #[.int .u64 c]) (by kernel_rfl) hD (fun hS => ?_)
  refine zt 0 hS ?_
  refine zt 1 hS ?_
  refine zt 2 hS ?_
  refine zt 3 hS ?_
  refine zt 5 hS ?_
  refine zh 7 hS (fun w hw => box1 hw) ?_
  refine rg_two 4 8 (by kernel_rfl) ?_ ?_
  focus
   refine zs 4 (fun K hK => ?_)
   have k4:=(box2 hB).2
   go_simp
   refine hK.out _ _ (hD) (fun hS => ?_)
   clear hK K
   try simp only [Act.put,zA,zB,zC]
   refine rg_two 6 8 (by kernel_rfl) ?_ ?_
   focus
    refine zs 6 (fun K hK => ?_)
    go_simp
    with_reducible refine Calls.mono (HC7.out _ hN) ?_
    rintro e w8 ⟨rfl,hO8,hu8⟩
    replace hD:=hD.upd hu8 (fun e => (hb0F _ e).1 rfl)
    replace hB:=hB.upd hu8 (fun e => (hb0F _ e).2 rfl)
    replace hU:=hU.next hu8
    try (replace hR:=Rd.upd hR (by omega) hu8 (fun ad had h => by cases had; exact absurd (hob _ h) (Nat.lt_irrefl _)))
    go_wp2_with (fail)
    refine hK.out _ _ (hD) (fun hS => ?_)
    clear hK K
    try simp only [Act.put,zA,zB,zC]
    refine zk 8 (fun K hK => ?_)
    go_simp
    refine hK.out _ _ ((hD.alloc _)) (fun hS => ?_)
    clear hK K
    try simp only [Act.put,zA,zB,zC]
    refine rg_world fun W8 hW8 => ?_
    first | have hR:=boxed hW8 | have hR:=boxed_drew hW8
    replace hD:Blk W8 w.heap.size 23 #[.int .u64 c]:=by rw [hW8]; exact hD.alloc _
    replace hB:Blk W8 p 212 #[.map (some b),.slice Av (ks x).length cv]:=by rw [hW8]; exact hB.alloc _
    replace hU:Upd (fun k => (Value.slice Av (ks x).length cv).ownBlock = some k) w7 W8:=by rw [hW8]; exact hU.alloc _
    try (replace hN:Upd No w7 W8:=by rw [hW8]; exact hN.alloc _)
    try (replace hO8:Sl W8 0 23 1 (.slice Av fl.length cv) fl.length (nums .u64 fl):=by rw [hW8]; exact Sl.alloc hO8 _)
    replace hS:=hD
    clear hW8
    refine zk 9 (fun K hK => ?_)
    refine wp_ap_sl 0 (.tmp 48) (.tmp 50) 210 23 (.int .u64 0) 1 8 (by rfl) Tryz.underlying210 u64_info rfl (by omega) (.slice Av fl.length cv) fl.length (nums .u64 fl) (some ⟨_,0,none⟩) 1 1 [.int .u64 c] (by rfl) (by rfl) hO8 hR (by intro u hu; obtain rfl:=List.mem_singleton.1 hu; rfl) (by omega) (by omega) (Nat.zero_le _) ?_
    intro A9 c9 w9 hO9 hu9 hat9
    have hzz:=hU.size
    simp only [ownb Av fl.length cv (ks x).length cv] at hu9 hat9
    replace hU:=hU.next (hu9.mono fun k _ h => h)
    replace hD:=hD.upd hu9 (fun e => (hb0F _ e).1 rfl)
    replace hB:=hB.upd hu9 (fun e => (hb0F _ e).2 rfl)
    have hat:∀ k,(Value.slice A9 (fl.length + 1) c9).ownBlock = some k → (Value.slice Av (ks x).length cv).ownBlock = some k ∨ w7.heap.size ≤ k:=fun k hk => (hat9 k hk).imp id fun h => Nat.le_trans hzz h
    have k9:=(box2 hB).2
    have g9:=hB.free 1
    refine hK.out _ _ ((by exact hD)) (fun hS => ?_)
    clear hK K
    try simp only [Act.put,zA,zB,zC]
    refine zt 10 hS ?_
    refine zt 11 hS ?_
    refine zk 12 (fun K hK => ?_)
    go_simp
    refine hK.out _ _ ((by exact hD.far (by simp; omega) _)) (fun hS => ?_)
    clear hK K
    try simp only [Act.put,zA,zB,zC]
    refine rg_world fun w10 hw10 => ?_
    have hne:∀ k,(Value.slice A9 (fl.length + 1) c9).ownBlock = some k → k ≠ p:=fun k hk => (hat k hk).elim (fun h => (hb0F k h).2) fun h => by have h1:=hu7.size; have h2:=hM4.upd.size; have h3:=hu46.size; omega
    have hB10:Blk w10 p 212 #[.map (some b),.slice A9 (fl.length + 1) c9]:=by rw [hw10]; simpa using hB.put 1 (.slice A9 (fl.length + 1) c9)
    have hO10:Sl w10 0 23 1 (.slice A9 (fl.length + 1) c9) (fl.length + 1) (nums .u64 fl ++ [.int .u64 c]):=by rw [hw10]; exact hO9.upd ((Upd.refl _ _).set1 1 _) fun g hg e => hne g hg e
    have hu10:Upd (fun k => k = p ∨ (Value.slice Av (ks x).length cv).ownBlock = some k) w7 w10:=by rw [hw10]; exact (hU.mono fun _ _ h => .inr h).set (p:=⟨p,1,none⟩) (.inl (.inl rfl)) _
    replace hS:Blk w10 w.heap.size 23 #[.int .u64 c]:=by rw [hw10]; exact hD.far (by simp; omega) _
    clear hw10 hB hD hU hO9 hu9 hat9 k9 g9
    refine wpAnyH_done (by kernel_rfl) ?_ _
   rotate_left 1
   focus
    refine zs 8 (fun K hK => ?_)
    go_simp
    refine hK.out _ _ ((hD.alloc _)) (fun hS => ?_)
    clear hK K
    try simp only [Act.put,zA,zB,zC]
    refine rg_world fun W8 hW8 => ?_
    first | have hR:=boxed hW8 | have hR:=boxed_drew hW8
    replace hD:Blk W8 w.heap.size 23 #[.int .u64 c]:=by rw [hW8]; exact hD.alloc _
    replace hB:Blk W8 p 212 #[.map (some b),.slice Av (ks x).length cv]:=by rw [hW8]; exact hB.alloc _
    replace hU:Upd (fun k => (Value.slice Av (ks x).length cv).ownBlock = some k) w7 W8:=by rw [hW8]; exact hU.alloc _
    try (replace hN:Upd No w7 W8:=by rw [hW8]; exact hN.alloc _)
    try (replace hO8:Sl W8 0 23 1 (.slice Av fl.length cv) fl.length (nums .u64 fl):=by rw [hW8]; exact Sl.alloc hO8 _)
    replace hS:=hD
    clear hW8
    refine zk 6 (fun K hK => ?_)
    go_simp
    with_reducible refine Calls.mono (HC7.out _ hN) ?_
    rintro e w8 ⟨rfl,hO8,hu8⟩
    replace hD:=hD.upd hu8 (fun e => (hb0F _ e).1 rfl)
    replace hB:=hB.upd hu8 (fun e => (hb0F _ e).2 rfl)
    replace hU:=hU.next hu8
    try (replace hR:=Rd.upd hR (by omega) hu8 (fun ad had h => by cases had; exact absurd (hob _ h) (Nat.lt_irrefl _)))
    go_wp2_with (fail)
    refine hK.out _ _ (hD) (fun hS => ?_)
    clear hK K
    try simp only [Act.put,zA,zB,zC]
    refine zk 9 (fun K hK => ?_)
    refine wp_ap_sl 0 (.tmp 48) (.tmp 50) 210 23 (.int .u64 0) 1 8 (by rfl) Tryz.underlying210 u64_info rfl (by omega) (.slice Av fl.length cv) fl.length (nums .u64 fl) (some ⟨_,0,none⟩) 1 1 [.int .u64 c] (by rfl) (by rfl) hO8 hR (by intro u hu; obtain rfl:=List.mem_singleton.1 hu; rfl) (by omega) (by omega) (Nat.zero_le _) ?_
    intro A9 c9 w9 hO9 hu9 hat9
    have hzz:=hU.size
    simp only [ownb Av fl.length cv (ks x).length cv] at hu9 hat9
    replace hU:=hU.next (hu9.mono fun k _ h => h)
    replace hD:=hD.upd hu9 (fun e => (hb0F _ e).1 rfl)
    replace hB:=hB.upd hu9 (fun e => (hb0F _ e).2 rfl)
    have hat:∀ k,(Value.slice A9 (fl.length + 1) c9).ownBlock = some k → (Value.slice Av (ks x).length cv).ownBlock = some k ∨ w7.heap.size ≤ k:=fun k hk => (hat9 k hk).imp id fun h => Nat.le_trans hzz h
    have k9:=(box2 hB).2
    have g9:=hB.free 1
    refine hK.out _ _ ((by exact hD)) (fun hS => ?_)
    clear hK K
    try simp only [Act.put,zA,zB,zC]
    refine zt 10 hS ?_
    refine zt 11 hS ?_
    refine zk 12 (fun K hK => ?_)
    go_simp
    refine hK.out _ _ ((by exact hD.far (by simp; omega) _)) (fun hS => ?_)
    clear hK K
    try simp only [Act.put,zA,zB,zC]
    refine rg_world fun w10 hw10 => ?_
    have hne:∀ k,(Value.slice A9 (fl.length + 1) c9).ownBlock = some k → k ≠ p:=fun k hk => (hat k hk).elim (fun h => (hb0F k h).2) fun h => by have h1:=hu7.size; have h2:=hM4.upd.size; have h3:=hu46.size; omega
    have hB10:Blk w10 p 212 #[.map (some b),.slice A9 (fl.length + 1) c9]:=by rw [hw10]; simpa using hB.put 1 (.slice A9 (fl.length + 1) c9)
    have hO10:Sl w10 0 23 1 (.slice A9 (fl.length + 1) c9) (fl.length + 1) (nums .u64 fl ++ [.int .u64 c]):=by rw [hw10]; exact hO9.upd ((Upd.refl _ _).set1 1 _) fun g hg e => hne g hg e
    have hu10:Upd (fun k => k = p ∨ (Value.slice Av (ks x).length cv).ownBlock = some k) w7 w10:=by rw [hw10]; exact (hU.mono fun _ _ h => .inr h).set (p:=⟨p,1,none⟩) (.inl (.inl rfl)) _
    replace hS:Blk w10 w.heap.size 23 #[.int .u64 c]:=by rw [hw10]; exact hD.far (by simp; omega) _
    clear hw10 hB hD hU hO9 hu9 hat9 k9 g9
    refine wpAnyH_done (by kernel_rfl) ?_ _
  rotate_left 2
  focus
   refine zs 8 (fun K hK => ?_)
   go_simp
   refine hK.out _ _ ((hD.alloc _)) (fun hS => ?_)
   clear hK K
   try simp only [Act.put,zA,zB,zC]
   refine rg_world fun W8 hW8 => ?_
   first | have hR:=boxed hW8 | have hR:=boxed_drew hW8
   replace hD:Blk W8 w.heap.size 23 #[.int .u64 c]:=by rw [hW8]; exact hD.alloc _
   replace hB:Blk W8 p 212 #[.map (some b),.slice Av (ks x).length cv]:=by rw [hW8]; exact hB.alloc _
   replace hU:Upd (fun k => (Value.slice Av (ks x).length cv).ownBlock = some k) w7 W8:=by rw [hW8]; exact hU.alloc _
   try (replace hN:Upd No w7 W8:=by rw [hW8]; exact hN.alloc _)
   try (replace hO8:Sl W8 0 23 1 (.slice Av fl.length cv) fl.length (nums .u64 fl):=by rw [hW8]; exact Sl.alloc hO8 _)
   replace hS:=hD
   clear hW8
   refine zk 4 (fun K hK => ?_)
   have k4:=(box2 hB).2
   go_simp
   refine hK.out _ _ (hD) (fun hS => ?_)
   clear hK K
   try simp only [Act.put,zA,zB,zC]
   refine zk 6 (fun K hK => ?_)
   go_simp
   with_reducible refine Calls.mono (HC7.out _ hN) ?_
   rintro e w8 ⟨rfl,hO8,hu8⟩
   replace hD:=hD.upd hu8 (fun e => (hb0F _ e).1 rfl)
   replace hB:=hB.upd hu8 (fun e => (hb0F _ e).2 rfl)
   replace hU:=hU.next hu8
   try (replace hR:=Rd.upd hR (by omega) hu8 (fun ad had h => by cases had; exact absurd (hob _ h) (Nat.lt_irrefl _)))
   go_wp2_with (fail)
   refine hK.out _ _ (hD) (fun hS => ?_)
   clear hK K
   try simp only [Act.put,zA,zB,zC]
   refine zk 9 (fun K hK => ?_)
   refine wp_ap_sl 0 (.tmp 48) (.tmp 50) 210 23 (.int .u64 0) 1 8 (by rfl) Tryz.underlying210 u64_info rfl (by omega) (.slice Av fl.length cv) fl.length (nums .u64 fl) (some ⟨_,0,none⟩) 1 1 [.int .u64 c] (by rfl) (by rfl) hO8 hR (by intro u hu; obtain rfl:=List.mem_singleton.1 hu; rfl) (by omega) (by omega) (Nat.zero_le _) ?_
   intro A9 c9 w9 hO9 hu9 hat9
   have hzz:=hU.size
   simp only [ownb Av fl.length cv (ks x).length cv] at hu9 hat9
   replace hU:=hU.next (hu9.mono fun k _ h => h)
   replace hD:=hD.upd hu9 (fun e => (hb0F _ e).1 rfl)
   replace hB:=hB.upd hu9 (fun e => (hb0F _ e).2 rfl)
   have hat:∀ k,(Value.slice A9 (fl.length + 1) c9).ownBlock = some k → (Value.slice Av (ks x).length cv).ownBlock = some k ∨ w7.heap.size ≤ k:=fun k hk => (hat9 k hk).imp id fun h => Nat.le_trans hzz h
   have k9:=(box2 hB).2
   have g9:=hB.free 1
   refine hK.out _ _ ((by exact hD)) (fun hS => ?_)
   clear hK K
   try simp only [Act.put,zA,zB,zC]
   refine zt 10 hS ?_
   refine zt 11 hS ?_
   refine zk 12 (fun K hK => ?_)
   go_simp
   refine hK.out _ _ ((by exact hD.far (by simp; omega) _)) (fun hS => ?_)
   clear hK K
   try simp only [Act.put,zA,zB,zC]
   refine rg_world fun w10 hw10 => ?_
   have hne:∀ k,(Value.slice A9 (fl.length + 1) c9).ownBlock = some k → k ≠ p:=fun k hk => (hat k hk).elim (fun h => (hb0F k h).2) fun h => by have h1:=hu7.size; have h2:=hM4.upd.size; have h3:=hu46.size; omega
   have hB10:Blk w10 p 212 #[.map (some b),.slice A9 (fl.length + 1) c9]:=by rw [hw10]; simpa using hB.put 1 (.slice A9 (fl.length + 1) c9)
   have hO10:Sl w10 0 23 1 (.slice A9 (fl.length + 1) c9) (fl.length + 1) (nums .u64 fl ++ [.int .u64 c]):=by rw [hw10]; exact hO9.upd ((Upd.refl _ _).set1 1 _) fun g hg e => hne g hg e
   have hu10:Upd (fun k => k = p ∨ (Value.slice Av (ks x).length cv).ownBlock = some k) w7 w10:=by rw [hw10]; exact (hU.mono fun _ _ h => .inr h).set (p:=⟨p,1,none⟩) (.inl (.inl rfl)) _
   replace hS:Blk w10 w.heap.size 23 #[.int .u64 c]:=by rw [hw10]; exact hD.far (by simp; omega) _
   clear hw10 hB hD hU hO9 hu9 hat9 k9 g9
   refine wpAnyH_done (by kernel_rfl) ?_ _
  all_goals
   have hL:Hid (ks (laid x c s) = fl ++ [c]):=hid (by rw [HFL.out]; exact laid_keys x c s)
   have hVal:=val_of ho6 HN.out HD.out HA7.out
   rw [HL5.out] at hVal
   obtain ⟨hX4,hX6,hM7⟩:=HB.out
   have hgF:∀ k,k = g6 → ¬ (k = p ∨ k = b ∨ v.ownBlock = some k):=by
    rintro k rfl (h | h | h)
    · have:=hFl p hX4.fp; omega
    · omega
    · have:=hFl k (hX4.fv k h).1; omega
   have hu710:Upd (fun k => k = p ∨ k = b ∨ v.ownBlock = some k) w7 w10:=hu10.mono fun k _ h => h.imp id fun h => .inr (by rw [HV.out]; exact h)
   have hu6:Upd (fun k => k = p ∨ k = b ∨ v.ownBlock = some k) w6 w10:=(hu7.mono fun k _ h => .inr (.inl h)).next hu710
   have hu4:Upd (fun k => k = p ∨ k = b ∨ v.ownBlock = some k) w4 w10:=(hu46.mono fun k _ h => h.elim).next hu6
   have hVal10:=hVal.upd hu6 hgF
   have hM10:=hM7.upd hu10 (by
    rintro (h | h)
    · exact (hX4.fb b rfl).2 h
    · exact hX4.fvb b (by rw [HV.out]; exact h) rfl)
   have hM74:w4.heap.size ≤ w7.heap.size:=Nat.le_trans hu46.size hu7.size
   have hat4:∀ k,(Value.slice A9 (fl.length + 1) c9).ownBlock = some k → (v.ownBlock = some k ∨ w4.heap.size ≤ k) ∧ k ≠ g6:=fun k hk => by
    have h1:=hu7.size
    rcases hat k hk with h | h
    · rw [← HV.out] at h
      refine ⟨.inl h,?_⟩
      have:=hFl k (hX4.fv k h).1
      omega
    · exact ⟨.inr (by omega),by omega⟩
   have hw10s:=hu4.size
   have hg610:w4.heap.size ≤ g6 ∧ g6 < w10.heap.size:=⟨hg6l.1,Nat.lt_of_lt_of_le hg6l.2 hu6.size⟩
   have k10:=box2 hB10
   have e10:=hB10.free 1
   have hv1:∀ c',Wp.Key c' → (put m' c (.slice A7 (N - D) (c6 - D)) c' = m' c' ∧ sr (laid x c s) c' = sr x c') ∨ Vl w10 (fun k => k = g6) (put m' c (.slice A7 (N - D) (c6 - D)) c') (sr (laid x c s) c'):=fun c' hc' => by
    rw [sr_laid]
    unfold put
    by_cases he:c' = c
    · rw [if_pos he,if_pos he]
      exact .inr hVal10
    · rw [if_neg he,if_neg he]
      exact .inl ⟨rfl,rfl⟩
   by_cases h64:64 < (laid x c s).length
   · obtain ⟨e0,r0,hz⟩:∃ e r,laid x c s = e :: r:=by
      rcases hl:laid x c s with _ | ⟨e,r⟩
      · rw [hl] at h64; simp at h64
      · exact ⟨e,r,rfl⟩
     obtain ⟨hlk,hlnd,_⟩:=hok.laid hc hsk
     have hk0:=hlk e0 (by rw [hz]; simp)
     rw [hz] at hlnd
     have hfc:fl ++ [c] = e0.1 :: ks r0:=by rw [← hL.out,hz]; rfl
     have hrl:(ks r0).length = fl.length:=by
      have:=congrArg List.length hfc
      simpa using this.symm
     have h64':decide ((64:Int) < (fl.length:Int) + 1) = true:=by
      have:(laid x c s).length = fl.length + 1:=by rw [← ks_length,hL.out]; simp
      exact decide_eq_true (by omega)
     have hcc:fl.length + 1 ≤ c9 ∧ c9 ≤ maxLen:=by
      obtain ⟨_,_,e,h1,h2⟩:=hO10.shape
      simp only [Value.slice.injEq,true_and] at e
      obtain ⟨_,rfl⟩:=e
      exact ⟨h1,h2⟩
     rw [show nums .u64 fl ++ [Value.int .u64 c] = .int .u64 e0.1 :: nums .u64 (ks r0) from by rw [show nums .u64 fl ++ [Value.int .u64 c] = nums .u64 (fl ++ [c]) from by simp [nums],hfc]; rfl] at hO10
     obtain ⟨g9,o9,rfl,q9,hg9l⟩:=first_cell hO10
     have hg9b:g9 ≠ b:=by
      rcases (hat4 g9 rfl).1 with h | h
      · exact hX4.fvb g9 h
      · omega
     have hpb:=(hX4.fb b rfl).2
     obtain ⟨A11,hA11,hcut1⟩:=cut_from (P:=Tryz.prog) 210 23 .i64 Tryz.underlying210 (by kernel_rfl) (some ⟨g9,o9,none⟩) (fl.length + 1) c9 1 1 rfl (by omega)
     have hr11:Rd w10 1 A11 fl.length (nums .u64 (ks r0)):=by
      rw [hA11]
      exact Rd.drop (k:=1) (Sl.rd hO10) (by omega) hcc.1
     have HA11:=hid (And.intro hA11 (And.intro hrl (And.intro hz hfc)))
     have hg9x:=hat g9 rfl
     have HZ:=hid (And.intro hv1 (And.intro hlnd (And.intro hgF (And.intro hX4 (And.intro hat4 hu4)))))
     clear hA11 hrl hz hfc hv1 hlnd hgF hX4 hat4 hu4 HB hVal hX6 hM7 hu710 hu6 hVal10 hM74 hat hne hb0F hob hlk h64
     go_wp2_with (fail)
     refine wp_region_held_drew (S:=fun W => Upd (fun k => k = b) w10 W) (by kernel_rfl) (Upd.refl _ _).drew (fun hS => ?_)
     refine zt 0 hS ?_
     refine zt 1 hS ?_
     refine zt 2 hS ?_
     refine zh 3 hS (fun w hw => (box2 (hB10.upd hw (Ne.symm hpb))).1) ?_
     refine zt 4 hS ?_
     refine zt 5 hS ?_
     refine zt 6 hS ?_
     refine zh 7 hS (fun w hw => (box2 (hB10.upd hw (Ne.symm hpb))).2) ?_
     refine zt 8 hS ?_
     refine zh 9 hS (fun w hw => (hw.cell (p:=⟨g9,o9,none⟩) hg9l hg9b).trans q9) ?_
     refine zk 10 (fun K hK => ?_)
     refine Mp.wp_drop (.tmp 63) (.tmp 69) 209 23 210 (by rfl) Tryz.underlying23 Tryz.underlying209 b (n' + 1) (put m' c (.slice A7 (N - D) (c6 - D))) e0.1 (by rfl) (by rfl) hM10.drew hk0 ?_
     intro w11 hM11 hu11
     replace hu11:=Upd.of_drew hu11
     refine hK.out _ _ ((by exact hu11)) (fun hS => ?_)
     clear hK K
     try simp only [Act.put,zA,zB,zC]
     refine wpAnyH_done (by kernel_rfl) ?_ _
     have hB11:=hB10.upd hu11 (Ne.symm hpb)
     have k11:=(box2 hB11).2
     have hC11:=clone A11 fl.length (c9 - 1) (nums .u64 (ks r0)) w11 (hr11.upd (by omega) hu11 (fun ad had h => by
      rw [HA11.out.1] at had
      obtain ⟨ad',e1,e2⟩:=cut_block had
      injection e1 with e1
      rw [e2,← e1] at h
      exact hg9b h)) (nums_one _ _) (by omega)
     have HC11:=hid hC11
     clear hC11 hcc k10 e10
     go_wp2_with (fail)
     refine Calls.mono HC11.out ?_
     rintro e w12 ⟨A12,c12,rfl,ho12,hu12,_⟩
     have hB12:=hB11.upd hu12 (no_ _)
     have k12:=(box2 hB12).2
     have e12:=hB12.free 1
     have HE:Hid (∃ F',Wd (w12.setCell ⟨p,1,none⟩ (.slice A12 fl.length c12)) F' p (cut64 (laid x c s)) (n + 1) ∧ Mv F F' w (w12.setCell ⟨p,1,none⟩ (.slice A12 fl.length c12))):=hid (by
      obtain ⟨_,hrl,hz,hfc⟩:=HA11.out
      obtain ⟨hv1,hlnd,hgF,hX4,hat4,hu4⟩:=HZ.out
      have hcz:cut64 (laid x c s) = r0:=by
       unfold cut64
       rw [hz,if_pos (by
        have:=ks_length r0
        have h64:=of_decide_eq_true h64'
        simp
        omega)]
       rfl
      have hu13:Upd (fun k => k = p ∨ k = b ∨ v.ownBlock = some k) w10 (w12.setCell ⟨p,1,none⟩ (.slice A12 fl.length c12)):=
       ((hu11.mono fun k _ h => .inr (.inl h)).next (hu12.mono fun k _ h => h.elim)).set (p:=⟨p,1,none⟩) (.inl (.inl rfl)) _
      have hB13:Blk (w12.setCell ⟨p,1,none⟩ (.slice A12 fl.length c12)) p 212 #[.map (some b),.slice A12 fl.length c12]:=by simpa using hB12.put 1 (.slice A12 fl.length c12)
      have h11s:=hu11.size
      have hown:∀ k,(Value.slice A12 fl.length c12).ownBlock = some k → w11.heap.size ≤ k:=fun k hk => (ho12.lt k hk).1
      rw [hcz]
      refine hX4.fin hM4 (mz:=put (put m' c (.slice A7 (N - D) (c6 - D))) e0.1 nl) hB13 ?_ ((hM11.upd hu12 (no_ _)).upd ((Upd.refl _ _).set1 1 _) hpb) (by omega) (hu4.next hu13) ?_ ⟨hg610.1,Nat.lt_of_lt_of_le hg610.2 hu13.size⟩ ?_
      · rw [hrl]
        refine (Sl.of_own (own_base ho12 (Nat.zero_le _))).upd ((Upd.refl _ _).set1 1 _) fun k hk e => ?_
        subst e
        have:=hown _ hk
        have:=hFl k hX4.fp
        omega
      · intro c' hc'
        have hst:=sr_tail hlnd c'
        rw [hst]
        by_cases he:c' = e0.1
        · rw [if_pos he]
          refine .inr ?_
          rw [show put (put m' c (.slice A7 (N - D) (c6 - D))) e0.1 nl c' = nl from by simp [put,he]]
          exact Vl.nil _ _
        · rw [if_neg he,← hz,show put (put m' c (.slice A7 (N - D) (c6 - D))) e0.1 nl c' = put m' c (.slice A7 (N - D) (c6 - D)) c' from by simp [put,he]]
          exact (hv1 c' hc').imp id fun h => h.upd hu13 hgF
      · intro k hk
        have:=hown k hk
        exact ⟨.inr (by omega),by omega⟩)
     have HO:=hid ho12
     clear ho12 hu12 hM11
     go_wp2
     go_ret
     exact .of ⟨rfl,HE.out⟩
   · have HE:Hid (∃ F',Wd w10 F' p (cut64 (laid x c s)) (n + 1) ∧ Mv F F' w w10):=hid (by
      rw [show cut64 (laid x c s) = laid x c s from if_neg h64]
      refine hX4.fin hM4 hB10 ?_ hM10 (by omega) hu4 hv1 hg610 hat4
      rw [hL.out,show nums .u64 (fl ++ [c]) = nums .u64 fl ++ [.int .u64 c] from by simp [nums],show (fl ++ [c]).length = fl.length + 1 from by simp]
      exact hO10)
     have h64':decide ((64:Int) < (fl.length:Int) + 1) = false:=by
      have:(laid x c s).length = fl.length + 1:=by rw [← ks_length,hL.out]; simp
      exact decide_eq_false (by omega)
     clear HB hVal hX4 hX6 hM7 hgF hu710 hu6 hu4 hVal10 hM10 hM74 hat4 hv1 h64 hat hne hb0F hob
     go_wp2
     go_ret
     exact .of ⟨rfl,HE.out⟩
theorem add {w:World} {F:Nat → Prop} {p n:Nat} {x:St} (c s:Int) (h:Wd w F p x n) (hc:Wp.Key c) (hs:Wp.Key s) (hok:Ok x) (hn:n ≤ 1000000) :
 Calls Tryz.prog 53 #[.pointer (some ⟨p,0,none⟩),.int .u64 c,.int .u64 s] w fun e w' => AddOut w F p n x (addX x c s) e w':=by
 by_cases h1:s ∈ sr x c
 · exact add_seen c s h hc h1
 · exact add_new c s h hc hs h1 hok hn
end Ww
end
section
namespace Lt
open Go.RowKit B
abbrev L:=ByteArray × Int × Int × List Int
def cells (x:L) (v:Value):List Value:=[.string x.1,.int .u64 x.2.1,.int .i64 x.2.2.1,v]
def val (x:L) (v:Value):Value:=.agg #[.string x.1,.int .u64 x.2.1,.int .i64 x.2.2.1,v]
def zero:L:=(⟨#[]⟩,0,0,[])
def In (w:World) (x:L) (v:Value):Prop:=∃ A c,v = .slice A x.2.2.2.length c ∧ Rn w .i64 A x.2.2.2 ∧ x.2.2.2.length ≤ c ∧ c ≤ maxLen
theorem In.upd {F:Nat → Prop} {w w':World} {x:L} {v:Value} (h:In w x v) (hu:Upd F w w') (hn:∀ g,v.ownBlock = some g → ¬ F g):In w' x v:=by
 obtain ⟨A,c,rfl,hr,h1⟩:=h
 exact ⟨A,c,rfl,Rd.upd hr (by omega) hu (fun ad e => hn _ (by rw [e]; rfl)),h1⟩
theorem In.nil (w:World):In w zero (.slice none 0 0):=⟨none,0,rfl,Rd.nil_ _ _ _,Nat.le_refl _,Nat.zero_le _⟩
theorem i64_info:(Tryz.prog.info? 2).map (fun i => (i.zero,i.size,i.bytes)) = some (some (.int .i64 0),1,8):=by kernel_rfl
theorem lt_info:(Tryz.prog.info? 60).map (fun i => (i.zero,i.size,i.bytes)) = some (some (.agg #[.string ⟨#[]⟩,.int .u64 0,.int .i64 0,.slice none 0 0]),4,56):=by kernel_rfl
theorem clone_info:(Tryz.prog.info? 2).map (fun i => (i.zero,i.size,i.bytes)) = some (some (.int .i64 0),1,8):=by kernel_rfl
theorem clone (A:Option Addr) (n c:Nat) (xs:List Value) (w:World) (hr:Rd w 1 A n xs) (h1:∀ u ∈ xs,u.oneCell' = true) (hn:n * 8 ≤ 140737488355328) :
 Calls Tryz.prog 113 #[.slice A n c] w fun e w' => ∃ A' c',e = .returned (.slice A' n c') ∧ w'.ownsRow w.heap.size 2 1 (.slice A' n c') n xs ∧ Upd No w w' ∧ (A = none → A' = none):=by
 have q:∀ (w:World) (a:Option Addr) (n c n' c':Nat),(binOp .eql 40 (.slice a n c) (.slice none n' c')).run Tryz.prog w = .ok (.bool a.isNone) w:=fun w a n c n' c' => Go.Lib.run_eql_slice_nil w _ _ a n c n' c' Tryz.underlying40
 rcases A with _ | ad
 · obtain rfl:n = 0:=by
    rcases Nat.eq_zero_or_pos n with h0 | h0
    · exact h0
    · obtain ⟨ad,h,_⟩:=hr.2 h0
      cases h
   obtain rfl:xs = []:=List.eq_nil_of_length_eq_zero (by simpa using hr.1)
   go_enter Tryz.func113,Tryz.ntmps113
   go_wp2
   go_ret
   exact ⟨none,0,rfl,⟨by simp,.inl ⟨rfl,rfl⟩⟩,Upd.refl _ _,fun _ => rfl⟩
 · go_enter Tryz.func113,Tryz.ntmps113
   go_wp2_with (at_builtin; refine ap_row w.heap.size rfl _ _ 40 2 (.int .i64 0) 1 8 rfl Tryz.underlying40 clone_info rfl (by omega) (.slice (some ⟨w.heap.size,0,none⟩) 0 0) 0 [] (some ad) n c xs rfl rfl (World.ownsRow_made w #[] 0 (Nat.le_refl _) (Nat.zero_le _) rfl) (Rd.alloc hr (by omega) _) h1 (by omega) (by omega) (by simp) ?_; intro A1 c1 w1 ho hg hat; rw [Nat.zero_add,List.nil_append] at ho; rw [Nat.zero_add])
   go_wp2
   go_ret
   refine ⟨A1,c1,rfl,ho,?_,fun h => by cases h⟩
   have h5:Upd No w (w.alloc (.cells #[] 2)):=(Upd.refl _ _).alloc _
   exact h5.grown hg fun k hk => by
    have:w.heap.size = k:=by simpa [Value.ownBlock] using hk
    exact .inr (by omega)
theorem box {W:World} {b:Nat} {t:TypeId} {a0 a1 a2 a3:Value} (h:Blk W b t #[a0,a1,a2,a3]):W.cell? ⟨b,0,none⟩ = some a0 ∧ W.cell? ⟨b,1,none⟩ = some a1 ∧ W.cell? ⟨b,2,none⟩ = some a2 ∧ W.cell? ⟨b,3,none⟩ = some a3:=by
 have h0:=h.cell 0
 have h1:=h.cell 1
 have h2:=h.cell 2
 have h3:=h.cell 3
 simp at h0 h1 h2 h3
 exact ⟨h0,h1,h2,h3⟩
def formed (x:L):Bool:=decide (x.1.size ≤ 40) && decide (x.2.2.2.length ≤ 4)
theorem formed_ (x:L) (v:Value) (w:World) (h:In w x v) :
 Calls Tryz.prog 47 #[val x v] w fun e w' => e = .returned (.bool (formed x)) ∧ Upd No w w':=by
 obtain ⟨s,n,k,l⟩:=x
 obtain ⟨A,c,rfl,hr,h1,h2⟩:=h
 simp only at h1 h2 hr
 unfold val
 have hu:Upd No w (w.alloc (.cells #[.string s,.int .u64 n,.int .i64 k,.slice A l.length c] 60)):=(Upd.refl _ _).alloc _
 by_cases hs:s.size ≤ 40
 · by_cases hl:l.length ≤ 4
   · rw [show formed (s,n,k,l) = true from by simp [formed,hs,hl]]
     go_enter Tryz.func47,Tryz.ntmps47
     go_wp2
     go_ret
     exact ⟨(by show Ending.returned (.bool (decide ((l.length:Int) ≤ 4))) = _; rw [decide_eq_true (by omega)]),hu⟩
   · rw [show formed (s,n,k,l) = false from by simp [formed,hl]]
     go_enter Tryz.func47,Tryz.ntmps47
     go_wp2
     go_ret
     exact ⟨(by show Ending.returned (.bool (decide ((l.length:Int) ≤ 4))) = _; rw [decide_eq_false (by omega)]),hu⟩
 · rw [show formed (s,n,k,l) = false from by simp [formed,hs]]
   go_enter Tryz.func47,Tryz.ntmps47
   go_wp2
   go_ret
   exact ⟨rfl,hu⟩
def CpOut (w:World) (x:L) (e:Ending) (w':World):Prop:=∃ v,e = .returned (val x v) ∧ In w' x v ∧ Upd No w w' ∧ ∀ k,v.ownBlock = some k → w.heap.size ≤ k ∧ ∃ cs,Blk w' k 2 cs
theorem CpOut.of {w:World} {x:L} {e:Ending} {w':World} (h:∃ v,e = .returned (val x v) ∧ In w' x v ∧ Upd No w w' ∧ ∀ k,v.ownBlock = some k → w.heap.size ≤ k ∧ ∃ cs,Blk w' k 2 cs):CpOut w x e w':=h
theorem copy_ (x:L) (v:Value) (w:World) (h:In w x v) (hl:x.2.2.2.length ≤ 1000000) :
 Calls Tryz.prog 45 #[val x v] w fun e w' => CpOut w x e w':=by
 obtain ⟨s,n,k,l⟩:=x
 obtain ⟨A,c,rfl,hr,h1,h2⟩:=h
 simp only at h1 h2 hr hl
 unfold val
 have hu:Hid (∀ o1 o2,Upd No w ((w.alloc o1).alloc o2)):=hid fun o1 o2 => ((Upd.refl _ _).alloc _).alloc _
 have HC:=hid (fun W (hu:Upd No w W) => clone A l.length c (nums .i64 l) W (Rd.upd hr (by omega) hu (fun _ _ => no_ _)) (nums_one .i64 l) (by omega))
 go_enter Tryz.func45,Tryz.ntmps45
 go_wp2_with (fail)
 have hb1:=(Blk.fresh w 60 #[.string s,.int .u64 n,.int .i64 k,.slice A l.length c]).alloc (.cells #[.string ⟨#[]⟩,.int .u64 0,.int .i64 0,.slice none 0 0] 60)
 have hb2:=Blk.fresh (w.alloc (.cells #[.string s,.int .u64 n,.int .i64 k,.slice A l.length c] 60)) 60 #[.string ⟨#[]⟩,.int .u64 0,.int .i64 0,.slice none 0 0]
 have hu0:=hu.out (.cells #[.string s,.int .u64 n,.int .i64 k,.slice A l.length c] 60) (.cells #[.string ⟨#[]⟩,.int .u64 0,.int .i64 0,.slice none 0 0] 60)
 rw [show (w.alloc (.cells #[.string s,.int .u64 n,.int .i64 k,.slice A l.length c] 60)).heap.size = w.heap.size + 1 from by simp] at hb2
 have HSZ:Hid (w.heap.size + 2 ≤ ((w.alloc (.cells #[.string s,.int .u64 n,.int .i64 k,.slice A l.length c] 60)).alloc (.cells #[.string ⟨#[]⟩,.int .u64 0,.int .i64 0,.slice none 0 0] 60)).heap.size):=hid (by simp)
 refine Calls.mono (HC.out _ hu0) ?_
 rintro e w3 ⟨A',c',rfl,ho,hu3,_⟩
 have hb3:=hb1.upd hu3 (no_ _)
 have hb4:=hb2.upd hu3 (no_ _)
 have hu4:=hu0.next hu3
 generalize (w.alloc (.cells #[.string s,.int .u64 n,.int .i64 k,.slice A l.length c] 60)).alloc (.cells #[.string ⟨#[]⟩,.int .u64 0,.int .i64 0,.slice none 0 0] 60) = w1 at *
 obtain ⟨y0,y1,y2,y3⟩:=box hb3
 obtain ⟨z0,z1,z2,z3⟩:=box hb4
 have f3:=hb3.free 3
 have g0:=hb4.free 0
 have g1:=hb4.free 1
 have g2:=hb4.free 2
 have g3:=hb4.free 3
 have hbF:Blk (((((w3.setCell ⟨w.heap.size,3,none⟩ (.slice A' l.length c')).setCell ⟨w.heap.size + 1,0,none⟩ (.string s)).setCell ⟨w.heap.size + 1,1,none⟩ (.int .u64 n)).setCell ⟨w.heap.size + 1,2,none⟩ (.int .i64 k)).setCell ⟨w.heap.size + 1,3,none⟩ (.slice A' l.length c')) (w.heap.size + 1) 60 #[.string s,.int .u64 n,.int .i64 k,.slice A' l.length c']:=by
  have:=((((hb4.far (p:=⟨w.heap.size,3,none⟩) (by simp) (.slice A' l.length c')).put 0 (.string s)).put 1 (.int .u64 n)).put 2 (.int .i64 k)).put 3 (.slice A' l.length c')
  simpa using this
 have HB:=hid hbF
 have HU:Hid (Upd No w (((((w3.setCell ⟨w.heap.size,3,none⟩ (.slice A' l.length c')).setCell ⟨w.heap.size + 1,0,none⟩ (.string s)).setCell ⟨w.heap.size + 1,1,none⟩ (.int .u64 n)).setCell ⟨w.heap.size + 1,2,none⟩ (.int .i64 k)).setCell ⟨w.heap.size + 1,3,none⟩ (.slice A' l.length c'))):=hid (((((hu4.set (.inr (by simp)) _).set (.inr (by simp)) _).set (.inr (by simp)) _).set (.inr (by simp)) _).set (.inr (by simp)) _)
 have hrF:Hid (Rn (((((w3.setCell ⟨w.heap.size,3,none⟩ (.slice A' l.length c')).setCell ⟨w.heap.size + 1,0,none⟩ (.string s)).setCell ⟨w.heap.size + 1,1,none⟩ (.int .u64 n)).setCell ⟨w.heap.size + 1,2,none⟩ (.int .i64 k)).setCell ⟨w.heap.size + 1,3,none⟩ (.slice A' l.length c')) .i64 A' l):=hid (by
  have hr3:Rd w3 1 A' l.length (nums .i64 l):=Rd.of_own ho
  have hne:∀ ad,A' = some ad → ad.block ≠ w.heap.size ∧ ad.block ≠ w.heap.size + 1:=fun ad e => by
   have h1:=(ho.lt ad.block (by rw [e]; rfl)).1
   have h2:=hu0.size
   have h3:=HSZ.out
   omega
  refine Rd.upd (F:=fun k => k = w.heap.size ∨ k = w.heap.size + 1) hr3 (by omega) (((((((Upd.refl _ _).set (.inl (.inl rfl)) _).set (.inl (.inr rfl)) _).set (.inl (.inr rfl)) _).set (.inl (.inr rfl)) _).set (.inl (.inr rfl)) _)) (fun ad e hk => ?_)
  have:=hne ad e
  omega)
 have hfr:Hid (∀ kk,(Value.slice A' l.length c').ownBlock = some kk → w.heap.size ≤ kk ∧ ∃ cs,Blk (((((w3.setCell ⟨w.heap.size,3,none⟩ (.slice A' l.length c')).setCell ⟨w.heap.size + 1,0,none⟩ (.string s)).setCell ⟨w.heap.size + 1,1,none⟩ (.int .u64 n)).setCell ⟨w.heap.size + 1,2,none⟩ (.int .i64 k)).setCell ⟨w.heap.size + 1,3,none⟩ (.slice A' l.length c')) kk 2 cs):=hid fun kk hk => by
  have h1:=(ho.lt kk hk).1
  have h3:=HSZ.out
  obtain ⟨cs,hB⟩:=own_blk ho hk
  exact ⟨by omega,cs,((((hB.far (by simp; omega) _).far (by simp; omega) _).far (by simp; omega) _).far (by simp; omega) _).far (by simp; omega) _⟩
 have hcc:=own_shape ho
 clear hb1 hb2 hb3 hb4 hbF
 go_wp2
 generalize (((((w3.setCell ⟨w.heap.size,3,none⟩ (.slice A' l.length c')).setCell ⟨w.heap.size + 1,0,none⟩ (.string s)).setCell ⟨w.heap.size + 1,1,none⟩ (.int .u64 n)).setCell ⟨w.heap.size + 1,2,none⟩ (.int .i64 k)).setCell ⟨w.heap.size + 1,3,none⟩ (.slice A' l.length c')) = W5 at *
 obtain ⟨q0,q1,q2,q3⟩:=box HB.out
 obtain ⟨A9,c9,e9,h91,h92⟩:=hcc
 simp only [Value.slice.injEq,true_and] at e9
 refine bodyPost_ret (v:=val (s,n,k,l) (.slice A' l.length c')) (by simp [results,go_sem,q0,q1,q2,q3,val]) rfl (.of ⟨_,rfl,⟨A',c',rfl,hrF.out,by rw [e9.2]; exact h91,by rw [e9.2]; exact h92⟩,HU.out,hfr.out⟩)
end Lt
end
section
namespace Ib
open Go.RowKit B Lt
abbrev Lv:=L × Value
def pcells (ps:List Lv):List Value:=ps.flatMap fun x => cells x.1 x.2
theorem pcells_drop (p:Lv) (r:List Lv):(pcells (p :: r)).drop (1 * 4) = pcells r:=by simp [pcells,cells]
def Row (w:World) (F:Nat → Prop) (v:Value) (xs:List L):Prop:=
 ∃ ps:List Lv,ps.map (·.1) = xs ∧ Sl w 0 60 4 v ps.length (pcells ps) ∧ (∀ x ∈ ps,In w x.1 x.2 ∧ ∀ k,x.2.ownBlock = some k → F k ∧ ∃ cs,Blk w k 2 cs) ∧ (∀ k,v.ownBlock = some k → F k)
theorem In.one {w:World} {x:L} {v:Value} (h:In w x v):v.oneCell' = true:=by
 obtain ⟨A,c,rfl,_⟩:=h
 rfl
theorem cells_one {w:World} {x:L} {v:Value} (h:In w x v):∀ u ∈ cells x v,u.oneCell' = true:=by
 intro u hu
 simp only [cells,List.mem_cons,List.not_mem_nil,or_false] at hu
 rcases hu with rfl | rfl | rfl | rfl
 · rfl
 · rfl
 · rfl
 · exact In.one h
theorem Row.upd {F G:Nat → Prop} {w w':World} {v:Value} {xs:List L} (h:Row w F v xs) (hu:Upd G w w') (hn:∀ k,F k → ¬ G k):Row w' F v xs:=by
 obtain ⟨ps,h1,h2,h3,h4⟩:=h
 exact ⟨ps,h1,h2.upd hu fun k hk => hn k (h4 k hk),fun x hx => ⟨(h3 x hx).1.upd hu fun g hg => hn g ((h3 x hx).2 g hg).1,fun k hk => ⟨((h3 x hx).2 k hk).1,((h3 x hx).2 k hk).2.elim fun cs hB => ⟨cs,hB.upd hu (hn k ((h3 x hx).2 k hk).1)⟩⟩⟩,h4⟩
theorem Row.len {F:Nat → Prop} {w:World} {v:Value} {xs:List L} (h:Row w F v xs):∃ A c,v = .slice A xs.length c ∧ xs.length ≤ c ∧ c ≤ maxLen:=by
 obtain ⟨ps,h1,h2,h3,h4⟩:=h
 have:xs.length = ps.length:=by rw [← h1]; simp
 rw [this]
 exact h2.shape
theorem Row.far {F:Nat → Prop} {w w':World} {v:Value} {xs:List L} {p:Nat} {t:TypeId} {cs:Array Value} (h:Row w F v xs) (hb:Blk w p t cs) (ht1:2 ≠ t) (ht2:60 ≠ t) (hu:Upd (fun k => k = p) w w'):Row w' F v xs:=by
 obtain ⟨ps,h1,h2,h3,h4⟩:=h
 have np:∀ k cs,Blk w k 2 cs → k ≠ p:=fun k cs hB e => Blk.ne_type (e ▸ hB) hb ht1 rfl
 exact ⟨ps,h1,h2.upd hu fun k hk e => h2.ne hb ht2 (e ▸ hk),fun x hx => ⟨(h3 x hx).1.upd hu fun g hg e => ((h3 x hx).2 g hg).2.elim fun cs hB => np g cs hB e,fun k hk => ⟨((h3 x hx).2 k hk).1,((h3 x hx).2 k hk).2.elim fun cs hB => ⟨cs,hB.upd hu (np k cs hB)⟩⟩⟩,h4⟩
theorem Row.mono {F G:Nat → Prop} {w:World} {v:Value} {xs:List L} (h:Row w F v xs) (hg:∀ k,F k → G k):Row w G v xs:=by
 obtain ⟨ps,h1,h2,h3,h4⟩:=h
 exact ⟨ps,h1,h2,fun x hx => ⟨(h3 x hx).1,fun k hk => ⟨hg k ((h3 x hx).2 k hk).1,((h3 x hx).2 k hk).2⟩⟩,fun k hk => hg k (h4 k hk)⟩
theorem Row.push {w w2 w3:World} {F:Nat → Prop} {v:Value} {ps:List Lv} {x:L} {u:Value} {A3:Option Addr} {c3:Nat}
 (h2:Sl w 0 60 4 v ps.length (pcells ps)) (h3:∀ x ∈ ps,In w x.1 x.2 ∧ ∀ k,x.2.ownBlock = some k → F k ∧ ∃ cs,Blk w k 2 cs) (h4:∀ k,v.ownBlock = some k → F k)
 (hv:In w2 x u) (hvl:∀ k,u.ownBlock = some k → w.heap.size ≤ k ∧ ∃ cs,Blk w2 k 2 cs)
 (hu2:Upd No w w2) (ho:Sl w3 0 60 4 (.slice A3 (ps.length + 1) c3) (ps.length + 1) (pcells ps ++ cells x u)) (hg:Upd (fun k => v.ownBlock = some k) w2 w3)
 (hat:∀ k,(Value.slice A3 (ps.length + 1) c3).ownBlock = some k → v.ownBlock = some k ∨ w2.heap.size ≤ k) :
 Row w3 (fun k => F k ∨ u.ownBlock = some k ∨ (Value.slice A3 (ps.length + 1) c3).ownBlock = some k) (.slice A3 (ps.length + 1) c3) (ps.map (·.1) ++ [x]):=by
 have hvv:∀ k,v.ownBlock = some k → k < w.heap.size:=fun k hk => (h2.lt k hk).2
 refine ⟨ps ++ [(x,u)],by simp,?_,?_,fun k hk => .inr (.inr hk)⟩
 · have e:pcells (ps ++ [(x,u)]) = pcells ps ++ cells x u:=by simp [pcells]
   rw [List.length_append,e]
   exact ho
 · have keep:∀ k cs,Blk w2 k 2 cs → Blk w3 k 2 cs:=fun k cs hB => hB.upd hg fun h => by
    obtain ⟨c2,hb⟩:=h2.blk h
    exact Blk.ne_type hB (hb.upd hu2 (no_ _)) (by decide) rfl
   have nev:∀ k cs,Blk w2 k 2 cs → v.ownBlock ≠ some k:=fun k cs hB h => by
    obtain ⟨c2,hb⟩:=h2.blk h
    exact Blk.ne_type hB (hb.upd hu2 (no_ _)) (by decide) rfl
   intro y hy
   rcases List.mem_append.1 hy with hy | hy
   · obtain ⟨g1,g2⟩:=h3 y hy
     exact ⟨(g1.upd hu2 (fun _ _ => no_ _)).upd hg fun g hg' h => (g2 g hg').2.elim fun cs hB => nev g cs (hB.upd hu2 (no_ _)) h,fun k hk => ⟨.inl (g2 k hk).1,(g2 k hk).2.elim fun cs hB => ⟨cs,keep k cs (hB.upd hu2 (no_ _))⟩⟩⟩
   · obtain rfl:y = (x,u):=List.mem_singleton.1 hy
     exact ⟨hv.upd hg fun g hg' h => (hvl g hg').2.elim fun cs hB => nev g cs hB h,fun k hk => ⟨.inr (.inl hk),(hvl k hk).2.elim fun cs hB => ⟨cs,keep k cs hB⟩⟩⟩
def put4 (w:World) (b:Nat) (x:L) (v:Value):World:=(((w.setCell ⟨b,0,none⟩ (.string x.1)).setCell ⟨b,1,none⟩ (.int .u64 x.2.1)).setCell ⟨b,2,none⟩ (.int .i64 x.2.2.1)).setCell ⟨b,3,none⟩ v
theorem put4_blk {w:World} {b:Nat} {t:TypeId} {a0 a1 a2 a3:Value} (h:Blk w b t #[a0,a1,a2,a3]) (x:L) (v:Value):Blk (put4 w b x v) b t #[.string x.1,.int .u64 x.2.1,.int .i64 x.2.2.1,v]:=by
 have:=(((h.put 0 (.string x.1)).put 1 (.int .u64 x.2.1)).put 2 (.int .i64 x.2.2.1)).put 3 v
 unfold put4
 simpa using this
theorem put4_new {w w1:World} {b:Nat} (hu:Upd No w w1) (hb:w.heap.size ≤ b) (x:L) (v:Value):Upd No w (put4 w1 b x v):=(((hu.set (.inr hb) _).set (.inr hb) _).set (.inr hb) _).set (.inr hb) _
theorem alloc_lt (w:World) (o:Obj):w.heap.size < (w.alloc o).heap.size:=by simp
theorem put4_upd (w:World) (b:Nat) (x:L) (v:Value):Upd (fun k => k = b) w (put4 w b x v):=((((Upd.refl _ w).set1 _ _).set1 _ _).set1 _ _).set1 _ _
theorem In.updn {F:Nat → Prop} {w w':World} {x:L} {v:Value} (h:Lt.In w x v) (hu:Upd F w w') (hn:0 < x.2.2.2.length → ∀ g,v.ownBlock = some g → ¬ F g):Lt.In w' x v:=by
 by_cases h0:0 < x.2.2.2.length
 · exact Lt.In.upd h hu (hn h0)
 · obtain ⟨A,c,rfl,hr,h1⟩:=h
   have e:x.2.2.2 = []:=List.eq_nil_of_length_eq_zero (by omega)
   exact ⟨A,c,rfl,by rw [e]; exact Rd.nil_ _ _ _,h1⟩
theorem In.block {w:World} {x:L} {v:Value} (h:Lt.In w x v) (h0:0 < x.2.2.2.length):∀ g,v.ownBlock = some g → g < w.heap.size:=by
 obtain ⟨A,c,rfl,hr,h1⟩:=h
 obtain ⟨ad,rfl,hl⟩:=hr.lt h0 (by omega)
 intro g hg
 have:ad.block = g:=by simpa [Value.ownBlock] using hg
 omega
end Ib
end
