/-
  Part 34 of the proof of the statement that the last part ends in: lemmas, no conditions of their own.
-/
import Derived.Test.YtclfmpieapbfnaaGreatDoorZ32
import Derived.Test.YtclfmpieapbfnaaGreatDoorZ16
import Derived.Test.YtclfmpieapbfnaaGreatDoorZ13
import Derived.SizedLaws
set_option linter.unusedVariables false
set_option linter.unusedSimpArgs false
section
namespace Go.Proofs.YtclfmpieapbfnaaGreatDoor.Nd
open Go.ChangeShapes Go.WideShapes Go.ChangeAt Go.RowKit B Go.Proofs.YtclfmpieapbfnaaGreatDoor.Op
def Rg (r:Rm):Prop:=I64 r.due ∧ I64 r.per ∧ I64 r.kind
set_option maxRecDepth 100000 in
theorem read_rm {H:Type} {enc:TypeId × Value → H} {W:World} {n:Nat} {cs:List Value} {x:DataW H × List MemPlace}
 (hx:DataW.trod enc Tryz.prog W 0 (fun _ => true) true n 69 cs = some x) (hl:cs.length = 5):∃ r:Rm,cs = rc r ∧ Rg r:=by
 obtain ⟨ys,k,hk,hxy,_,hxl,hf⟩:=DataW.trod_struct Tryz.underlying69 hx
 match ys,hxl,cs,hl with
 | [y0,y1,y2,y3,y4],_,[v0,v1,v2,v3,v4],_ =>
  have g0:=hf 0 _ rfl
  have g1:=hf 1 _ rfl
  have g2:=hf 2 _ rfl
  have g3:=hf 3 _ rfl
  have g4:=hf 4 _ rfl
  have e0:Tryz.prog.cellsOf 9 = 1:=by kernel_rfl
  have e1:Tryz.prog.cellsOf 2 = 1:=by kernel_rfl
  simp [e0,e1] at g0 g1 g2 g3 g4
  obtain ⟨x0,z0,_,_⟩:=DataW.trod_string Tryz.underlying9 g0
  obtain ⟨x1,z1,_,_⟩:=DataW.trod_string Tryz.underlying9 g1
  obtain ⟨x2,z2,_,w2⟩:=DataW.trod_int Tryz.underlying2 g2
  obtain ⟨x3,z3,_,w3⟩:=DataW.trod_int Tryz.underlying2 g3
  obtain ⟨x4,z4,_,w4⟩:=DataW.trod_int Tryz.underlying2 g4
  simp only [List.cons.injEq,and_true] at z0 z1 z2 z3 z4
  subst z0 z1 z2 z3 z4
  exact ⟨⟨x0,x1,x2,x3,x4⟩,rfl,Law.wf_i64 w2,Law.wf_i64 w3,Law.wf_i64 w4⟩
set_option maxRecDepth 100000 in
theorem open_rms {H:Type} {enc:TypeId × Value → H} {W:World} {base:Nat} {v:Value} {d:DataW H} {p:List MemPlace}
 (hv:Value.okWide Tryz.prog W .any base 64 v) (h:DataW.Trod enc Tryz.prog W 0 (fun _ => true) true 64 v d p) :
 ∃ (xs:List Rm) (A:Option Addr) (c:Nat),v = .slice A xs.length c ∧ Rd W 5 A xs.length (xs.flatMap rc) ∧ (xs.length ≤ maxLen ∧ ∀ x ∈ xs,Rg x):=by
 have:Inhabited Rm:=⟨zr⟩
 obtain ⟨xs,A,c,h1,h2,h3,h4,h5,h6,h7,h8⟩:=open_rows (α:=Rm) 5 rc (fun x _ => Rg x) Tryz.underlying64 (by kernel_rfl) (by omega)
  (fun n cs x hx hl => by
   obtain ⟨r,e,hr⟩:=read_rm hx hl
   exact ⟨r,e,hr⟩) hv h
 exact ⟨xs,A,c,h1,h2,Nat.le_trans h4 h5,fun x hx => (h7 x hx).elim fun _ h => h⟩
abbrev Oi:=Int × Rm × Int
def ocells (o:Oi):List Value:=.int .i64 o.1 :: (rc o.2.1 ++ [.int .i64 o.2.2])
end Go.Proofs.YtclfmpieapbfnaaGreatDoor.Nd
end
