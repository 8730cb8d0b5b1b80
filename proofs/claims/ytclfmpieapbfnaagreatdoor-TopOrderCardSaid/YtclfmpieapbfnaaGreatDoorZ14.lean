/- Part 14: lemmas, no conditions. -/
import Derived.Test.YtclfmpieapbfnaaGreatDoorRows
import Derived.Test.YtclfmpieapbfnaaGreatDoorZ07
import Derived.WalkKit
import Derived.ProofKit
import Derived.OpenShut
import Derived.ShutString
import Derived.JoinedCond
import Derived.Deep.CondSized
set_option linter.unusedVariables false
set_option linter.unusedSimpArgs false
section
namespace Go.Proofs.YtclfmpieapbfnaaGreatDoor.Law
open Go.ChangeShapes Go.WideShapes Go.ChangeAt Go.RowKit
open Go.ChangeMaps (open_string shut_string)
open B
theorem own:ownKnob Tryz.prog.godebug = none:=by kernel_rfl
theorem laidOut:laidOutB Tryz.prog = true:=by kernel_rfl
theorem trodAll_below {H:Type} {enc:TypeId × Value → H} {P:Program} (hl:laidOutB P = true) {W W':World} (hb:Below W.heap.size W W'):∀ (ts:List TypeId) (vs:List Value) (ds:List (DataW H)) (ps:List MemPlace),
 (∀ t ∈ ts,P.readableRec t = true ∧ t < P.types.size) → (∀ x ∈ ps,x.block < W.heap.size) → DataW.TrodAll enc P W 0 (fun _ => true) true ts vs ds ps → DataW.TrodAll enc P W' 0 (fun b => decide (b < W.heap.size)) true ts vs ds ps
 | [],vs,ds,ps,_,_,h => by
  obtain ⟨rfl,rfl,rfl⟩:=trodAll_nil h
  exact trodAll_mk0
 | t :: ts,vs,ds,ps,hr,hp,h => by
  obtain ⟨v,vs,d,ds,p,q,rfl,rfl,rfl,h0,h1⟩:=trodAll_cons h
  have ht:=hr t (by simp)
  exact trodAll_cons_mk (Below.trod hl ht.1 ht.2 h0 hb fun x hx => hp x (by simp [hx])) (trodAll_below hl hb ts vs ds q (fun t ht => hr t (by simp [ht])) (fun x hx => hp x (by simp [hx])) h1)
theorem post_true {H:Type} {enc:TypeId × Value → H} {P:Program} {f:Func} {s:ChangeSpec} {W W':World} {args:Array Value} {ds gs:List (DataW H)} {before:List MemPlace} {tb:TypeId}
 (hl:laidOutB P = true) (hrd:f.params.toList.all (fun t => P.readableRec t && decide (t < P.types.size)) = true) (hv:s.vars = []) (hbt:f.resultTypes = #[tb]) (htb:P.underlying tb = some .bool)
 (hs:∀ ds:List (DataW H),ds.length = f.params.toList.length → s.fn H (ds ++ []) = { results:=[.lit (.bool true)],args:=ds })
 (hW:DataW.Whole enc P f.params.toList s.vars false W args.toList ds gs before) (hb:Below W.heap.size W W'):s.post enc P f false true false false W args (.bool true) W':=by
 have hlt:=hW.lt
 have hW':=hW
 obtain ⟨p,q,hA,hV,rfl,hfz,hnd⟩:=hW
 rw [hv] at hV
 obtain ⟨rfl,rfl⟩:=trodVars_none hV
 have hlen:∀ (ts:List TypeId) (vs:List Value) (ds:List (DataW H)) (ps:List MemPlace),DataW.TrodAll enc P W 0 (fun _ => true) true ts vs ds ps → ds.length = ts.length:=by
  intro ts
  induction ts with
  | nil =>
   intro vs ds ps h
   obtain ⟨rfl,rfl,rfl⟩:=trodAll_nil h
   rfl
  | cons t ts ih =>
   intro vs ds ps h
   obtain ⟨v,vs,d,ds,p,q,rfl,rfl,rfl,h0,h1⟩:=trodAll_cons h
   simp [ih _ _ _ h1]
 have hs':=hs ds (hlen _ _ _ _ hA)
 have hr:∀ t ∈ f.params.toList,P.readableRec t = true ∧ t < P.types.size:=fun t ht => by
  have:=List.all_eq_true.1 hrd t ht
  simpa using this
 refine ⟨ds,[],_,[],p,[],hW',?_,?_,?_,hb.frame _,fun h => by cases h⟩
 · rw [hs',hbt]
   exact trodAll_mk1 (shut_bool htb true)
 · rw [hs']
   exact trodAll_below hl hb _ _ _ _ hr (fun x hx => hlt x (by simp [hx])) hA
 · rw [hs',hv]
   rfl
theorem wf_u64 {a:Int} (h:(Lit.int .u64 a).wf = true):0 ≤ a ∧ a ≤ 18446744073709551615:=by simpa [Lit.wf,IntKind.min,IntKind.max,IntKind.signed,IntKind.bits] using h
theorem wf_u8 {a:Int} (h:(Lit.int .u8 a).wf = true):0 ≤ a ∧ a ≤ 255:=by simpa [Lit.wf,IntKind.min,IntKind.max,IntKind.signed,IntKind.bits] using h
def SizeOf {H:Type} (d:DataW H) (n:Nat):Prop:=(d = .nil ∧ n = 0) ∨ ∃ es sp,d = .slice es sp ∧ es.length = n
theorem open_nums {H:Type} {enc:TypeId × Value → H} {P:Program} {W:World} {base:Nat} {ts:List TypeId} {ds:List (DataW H)} {t e:TypeId} {k:IntKind} {v:Value} {d:DataW H} {p:List MemPlace}
 (ht:P.underlying t = some (.slice e)) (he:P.underlying e = some (.int k)) (hC:P.cellsOf e = 1) (hv:Value.okWide P W .any base t v) (h:DataW.Trod enc P W 0 (fun _ => true) true t v d p)
 (hsz:(DataW.weightsEach P ts ds).all (· ≤ reachBytes) = true) {j:Nat} (htj:ts[j]? = some t) (hdj:ds[j]? = some d) :
 ∃ (l:List Int) (A:Option Addr) (c:Nat),v = .slice A l.length c ∧ Rn W k A l ∧ (l.length ≤ c ∧ c ≤ 9223372036854775807 ∧ c * P.bytesOf e ≤ 140737488351232 ∧ ∀ x ∈ l,(Lit.int k x).wf = true) ∧ SizeOf d l.length:=by
 obtain ⟨a0,len,cap,rfl⟩:=okWide_slice ht hv
 obtain ⟨fuel,hf⟩:=h
 rcases open_ints ht he hC hf with ⟨hcs,hx⟩ | ⟨a,len',cap',zs,hcs,_,hl,hm,hz,hx,hcell,hwz⟩
 · simp only [Value.cells,List.cons.injEq,and_true,Value.slice.injEq] at hcs
   obtain ⟨rfl,rfl,rfl⟩:=hcs
   exact ⟨[],none,0,rfl,Rd.nil_ _ _ _,⟨by simp,by omega,by omega,fun x hx => by cases hx⟩,.inl ⟨congrArg Prod.fst hx,rfl⟩⟩
 · simp only [Value.cells,List.cons.injEq,and_true,Value.slice.injEq] at hcs
   obtain ⟨rfl,rfl,rfl⟩:=hcs
   have hz':zs.length = cap:=by simpa using hz
   have hd:d = .slice (lits k (zs.take len)) (lits k (zs.drop len)):=by
    have:=congrArg Prod.fst hx
    exact this
   have hreach:=sized_slice hsz htj (by rw [hdj,hd]) ht
   have hll:(lits (H:=H) k (zs.take len)).length + (lits (H:=H) k (zs.drop len)).length = cap:=by
    simp [lits]; omega
   rw [hll] at hreach
   have hlt:(zs.take len).length = len:=by rw [List.length_take]; omega
   refine ⟨zs.take len,some a,cap,by rw [hlt],⟨by simp [nums],fun hn => ⟨a,rfl,fun i u hu => ?_⟩⟩,⟨by omega,by simpa [maxLen] using hm,hreach,fun x hx => hwz x (List.mem_of_mem_take hx)⟩,.inr ⟨_,_,hd,by simp [lits]⟩⟩
   have hil:i < (zs.take len).length:=by
    rcases Nat.lt_or_ge i (zs.take len).length with h1 | h1
    · exact h1
    · rw [List.getElem?_eq_none (by rw [nums_length]; exact h1)] at hu
      cases hu
   rw [nums_get k _ i hil,gi_take _ _ _ (by omega)] at hu
   rw [hcell i (by omega)]
   exact hu
end Go.Proofs.YtclfmpieapbfnaaGreatDoor.Law
end
