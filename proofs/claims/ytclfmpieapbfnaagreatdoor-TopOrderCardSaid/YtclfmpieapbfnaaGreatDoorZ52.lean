/- Part 52: lemmas, no conditions. -/
import Derived.Test.YtclfmpieapbfnaaGreatDoorZ49
import Derived.Test.YtclfmpieapbfnaaGreatDoorZ51
import Derived.Test.YtclfmpieapbfnaaGreatDoorZ14
import Derived.Test.YtclfmpieapbfnaaGreatDoorRows
import Derived.Test.YtclfmpieapbfnaaGreatDoorTie
import Derived.Test.YtclfmpieapbfnaaGreatDoorCards
import Derived.ProofKit
import Derived.LaidMore
import Derived.Lay
import Derived.HandedShaped
import Derived.SevenTiedAt
set_option linter.unusedVariables false
set_option linter.unusedSimpArgs false
section
namespace Go.Proofs.YtclfmpieapbfnaaGreatDoor.topOrder
open B
open Go.ChangeShapes Go.WideShapes Go.ChangeAt Go.RowKit
theorem cell_old {w w':World} {a:Addr} {v:Value} (h:w.cell? a = some v) (hu:B.Upd B.No w w'):w'.cell? a = some v:=Eg.cell_keep h hu fun h => h.elim
theorem frame {H:Type} {enc:TypeId × Value → H} {a:Assume} {C:Checked} {os:Os} {f:FuncId} {fn:Func} {s:ChangeSpec} {conds:List PathCond} {apart fresh handsOn again:Bool} {X:World → Array Value → Prop}
 (own:ownKnob C.prog.godebug = none) (started:os.Started) (noInit:C.prog.inits.idxOf? f = none) (hfn:C.prog.funcs[f]? = some fn)
 (witness:∃ (w:World) (tape:Tape) (i:Input),w.os = os ∧ (w.forCall tape i).Shaped C.prog ∧ i.vars = [] ∧ Input.okWide C.prog (w.forCall tape i) .any w.heap.size f i ∧
  ((s.pre enc C.prog fn conds apart (w.forCall tape i).memory i.args ∧ X (w.forCall tape i).memory i.args) ∧ sizedMet enc C.prog fn (OpenSpec.ofChange s) apart (w.forCall tape i).memory i.args) ∧ a.holds C.prog (lone (Frame.enter C.prog f i.args .normal) [] (w.forCall tape i)))
 (contract:∀ (W:World) (base:Nat) (args:Array Value) (ds gs:List (DataW H)) (before:List MemPlace),
  (∀ (j:Nat) t v,fn.params[j]? = some t → args[j]? = some v → Value.okWide C.prog W .any base t v) →
  DataW.Whole enc C.prog fn.params.toList s.vars apart W args.toList ds gs before →
  (DataW.weightsEach C.prog (fn.params.toList ++ s.plain.varTypes C.prog) (ds ++ gs)).all (· ≤ reachBytes) = true →
  W.ShapedOpen C.prog →
  Calls C.prog f args W fun e W' => ∃ v,e = .returned v ∧ s.post enc C.prog fn apart fresh handsOn again W args v W') :
 ReturnsInHanded a C os f .any (fun w args => (s.pre enc C.prog fn conds apart w args ∧ X w args) ∧ sizedMet enc C.prog fn (OpenSpec.ofChange s) apart w args) (s.post enc C.prog fn apart fresh handsOn again):=by
 refine returnsInHanded_of_calls own started noInit witness ?_
 intro w tape i _ hsh _ hok hpre _
 obtain ⟨_,_,_,fn',hfn',_,_,_,_,hval⟩:=hok
 obtain rfl:fn' = fn:=Option.some.inj (hfn'.symm.trans hfn)
 obtain ⟨⟨⟨ds,gs,before,hw,_⟩,_⟩,hz⟩:=hpre
 refine (contract (w.forCall tape i) w.heap.size i.args ds gs before hval (DataW.Whole.of_heap (w':=w.forCall tape i) (by rfl) hw) (hz.weights hw) hsh).mono fun e W' ⟨v,he,hp⟩ => ?_
 subst he
 exact ChangeSpec.post_blind hp
theorem door_met (os:Os) (args:Array Value):laidMetH Tryz.prog Rows.topOrderRow.laid ((World.laidAll Tryz.prog os Rows.topOrderRow.laid).forCall (fun _ _ => 0) ⟨#[],args,[]⟩).memory:=by
 rw [MakeChecks.laidMetH_plain _ _ _ (by kernel_rfl)]
 exact laidMet_laidAll _ (by kernel_rfl) (by kernel_rfl)
set_option maxRecDepth 100000 in
theorem lifted (os:Os) (started:os.Started) (H:Type) (enc:TypeId × Value → H) :
 ReturnsInHanded {} Tryz.checked os 3 .any (fun w args => (Rows.topOrderSpec.pre enc Tryz.prog Tryz.f3 Rows.topOrderRow.domain false w args ∧ laidMetH Tryz.prog Rows.topOrderRow.laid w) ∧ sizedMet enc Tryz.prog Tryz.f3 (OpenSpec.ofChange Rows.topOrderSpec) false w args)
  (Rows.topOrderSpec.post enc Tryz.prog Tryz.f3 false true false false):=by
 refine frame (C:=Tryz.checked) (X:=fun w _ => laidMetH Tryz.prog Rows.topOrderRow.laid w) Law.own started (by kernel_rfl) Tryz.func3
  (ChangeSpec.witness_shaped (enc:=enc) (C:=Tryz.checked) (os:=os) (X:=fun w _ => laidMetH Tryz.prog Rows.topOrderRow.laid w) false (World.laidAll Tryz.prog os Rows.topOrderRow.laid) #[.slice none 0 0,.int .u64 0] 8 (World.laidAll_os _ _ _)
   (World.shaped_of_ZipB (by kernel_rfl) (by kernel_rfl)) (by kernel_rfl) (by kernel_rfl) (by kernel_rfl) (door_met os _)) ?_
 intro W base args ds gs before hval0 hW hsz0 hsh
 have hval:∀ (j:Nat) t v,Tryz.f3.params[j]? = some t → args[j]? = some v → Value.okWide Tryz.prog W .any base t v:=hval0
 have hsz:(DataW.weightsEach Tryz.prog (Tryz.f3.params.toList ++ (Rows.topOrderSpec).plain.varTypes Tryz.prog) (ds ++ gs)).all (· ≤ reachBytes) = true:=hsz0
 have hpost:∀ W',Below W.heap.size W W' → Rows.topOrderSpec.post enc Tryz.prog Tryz.f3 false true false false W args (.bool true) W':=fun W' hb => Law.post_true Law.laidOut (by kernel_rfl) rfl rfl Tryz.underlying4 (fun ds hl => by match ds,hl with | [_,_],_ => rfl) hW hb
 obtain ⟨p,q,hA0,hV,rfl,hfz,hnd⟩:=hW
 have hA:DataW.TrodAll enc Tryz.prog W 0 (fun _ => true) true Tryz.f3.params.toList args.toList ds p:=hA0
 rw [Tryz.params3] at hA hval
 obtain ⟨v0,vs0,d0,ds0,p0,q0,hargs,rfl,rfl,h0,r0_⟩:=trodAll_cons hA
 obtain ⟨v1,vs1,d1,ds1,p1,q1,rfl,rfl,rfl,h1,r1_⟩:=trodAll_cons r0_
 obtain ⟨rfl,rfl,rfl⟩:=trodAll_nil r1_
 obtain rfl:args = #[v0,v1]:=by cases args; simp_all
 obtain ⟨rfl,rfl⟩:=trodVars_none hV
 obtain ⟨a0,A0,c0,rfl,r0,b0,s0⟩:=Law.open_nums Tryz.underlying22 Tryz.underlying5 (by kernel_rfl) (hval 0 22 v0 rfl rfl) h0 hsz (j:=0) rfl rfl
 obtain ⟨a1,rfl,rfl,rfl,w1⟩:=open_int Tryz.underlying23 (hval 1 23 v1 rfl rfl) h1
 have b1:=Law.wf_u64 w1
 clear hA0 hval0 hsz0
 obtain ⟨mx,hm⟩:=Sh.laysM146.s1_3 W hsh
 have hl1:a0.length ≤ maxLen:=by
  have h1:=b0.1
  have h2:=b0.2.1
  simp only [maxLen]
  omega
 exact Calls.mono (Eg.ord_law (c:=c0) r0 ⟨hl1,fun x hx => Law.wf_u8 (b0.2.2.2 x hx)⟩ b1 fun W' hu => Eg.awake (cell_old hm hu)) fun e W' ⟨he,hb⟩ => ⟨_,he,hpost W' (hb.old (Nat.le_refl _))⟩
end Go.Proofs.YtclfmpieapbfnaaGreatDoor.topOrder
end
