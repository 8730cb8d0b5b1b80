/- Part 23: lemmas, no conditions. -/
import Derived.Test.YtclfmpieapbfnaaGreatDoorZ07
import Derived.Test.YtclfmpieapbfnaaGreatDoorZ14
import Derived.Laws.LoneSync
set_option maxHeartbeats 1000000
set_option linter.unusedVariables false
set_option linter.unusedSimpArgs false
section
namespace Go.Proofs.YtclfmpieapbfnaaGreatDoor.Cn
open Go.RowKit B
def Ct (w:World) (F:Nat → Prop) (p:Nat):Prop:=(∃ cs:Array Value,Blk w p 220 cs ∧ cs.size = 8 ∧ ∀ i,i < 8 → ∃ n:Int,cs[i]? = some (.int .u64 n)) ∧ ∀ k,F k ↔ k = p
def ctO (p:Nat):Ob:=⟨fun w F => Ct w F p,fun h hu hn => ⟨h.1.imp fun cs hc => ⟨hc.1.upd hu (hn _ ((h.2 _).2 rfl)),hc.2⟩,h.2⟩,fun h k hk => by
 obtain ⟨cs,hc,_⟩:=h.1
 rw [(h.2 k).1 hk]
 exact hc.lt⟩
theorem new_ (w:World):Calls Tryz.prog 29 #[] w fun e w' => e = .returned (.pointer (some ⟨w.heap.size,0,none⟩)) ∧ Upd No w w' ∧ Ct w' (fun k => k = w.heap.size) w.heap.size:=by
 go_enter Tryz.func29,Tryz.ntmps29
 go_wp2
 go_ret
 refine ⟨rfl,(Upd.refl _ _).alloc _,⟨_,Blk.fresh w _ _,by rfl,fun i hi => ⟨0,?_⟩⟩,fun k => Iff.rfl⟩
 rcases i with _ | _ | _ | _ | _ | _ | _ | _ | i
 all_goals first | rfl | omega
theorem add1 {w:World} {p:Nat} {cs:Array Value} {i:Nat} {x y:Int} (h:Blk w p 220 cs) (hc:cs[i]? = some (.int .u64 x)) (hy:0 ≤ y) :
 Calls Tryz.prog 125 #[.pointer (some ⟨p,i,none⟩),.int .u64 y] w fun e w' => e = .returned (.int .u64 (IntKind.u64.wrap (x + y))) ∧ w' = w.setCell ⟨p,i,none⟩ (.int .u64 (IntKind.u64.wrap (x + y))):=by
 have hcell:w.cell? ⟨p,i,none⟩ = some (.int .u64 x):=(h.cell i).trans hc
 have hadd:=run_call_add (P:=Tryz.prog) Tryz.func193 (by kernel_rfl) (by kernel_rfl) (by kernel_rfl) .u64 (by kernel_rfl) (y:=y) (s:=IntKind.u64.wrap (x + y)) hcell (h.free i) (by simp [go_sem])
 go_enter Tryz.func125,Tryz.ntmps125
 go_wp2
 go_ret
 exact ⟨rfl,rfl⟩
theorem add {w:World} {F:Nat → Prop} {p:Nat} (h:Ct w F p) (i:Nat) (hi:i < 8) (y:Int) (hy:0 ≤ y) :
 Calls Tryz.prog 55 #[.pointer (some ⟨p,0,none⟩),.int .i64 i,.int .u64 y] w fun e w' => ∃ n,e = .returned (.int .u64 n) ∧ Ct w' F p ∧ Upd F w w':=by
 obtain ⟨⟨cs,hb,hs,hv⟩,hF⟩:=h
 obtain ⟨x,hx⟩:=hv i hi
 have HA:=hid (add1 hb hx hy)
 have HB:=hid (And.intro hb (And.intro hs (And.intro hv hF)))
 have hi1:(0:Int) ≤ (i:Int):=by omega
 have hi2:¬ (8:Int) ≤ (i:Int):=by omega
 have hi3:(i:Int) < 8:=by omega
 clear hb hs hv hx
 go_enter Tryz.func55,Tryz.ntmps55
 go_wp2_with (go_at_call 124; go_in)
 refine HA.out.mono ?_
 rintro e w1 ⟨rfl,rfl⟩
 go_wp2
 go_ret
 obtain ⟨hb,hs,hv,hF⟩:=HB.out
 refine ⟨_,rfl,⟨⟨_,hb.put i _,by simpa using hs,fun j hj => ?_⟩,hF⟩,(Upd.refl _ _).set (.inl ((hF _).2 rfl)) _⟩
 by_cases hij:i = j
 · subst hij
   exact ⟨_,by rw [Array.getElem?_setIfInBounds_self_of_lt (by omega)]⟩
 · obtain ⟨n,hn⟩:=hv j hj
   exact ⟨n,by rw [Array.getElem?_setIfInBounds_ne hij]; exact hn⟩
end Go.Proofs.YtclfmpieapbfnaaGreatDoor.Cn
end
