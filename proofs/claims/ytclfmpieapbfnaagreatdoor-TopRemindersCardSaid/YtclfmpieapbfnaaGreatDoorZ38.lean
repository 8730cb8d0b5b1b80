/-
  Part 38 of the proof of the statement that the last part ends in: lemmas, no conditions of their own.
-/
import Derived.Test.YtclfmpieapbfnaaGreatDoorZ36
import Derived.Test.YtclfmpieapbfnaaGreatDoorZ33
import Derived.Test.YtclfmpieapbfnaaGreatDoorZ35
set_option linter.unusedVariables false
set_option linter.unusedSimpArgs false
section
namespace Go.Proofs.YtclfmpieapbfnaaGreatDoor.Ac
open Go.RowKit B Cm Cw Cr Lt Lc Pk Ou
structure Am where
 jn:Jn.S
 inb:List L
 out:Om
 tries:Nat
 poi:List L
def Fit (xs:List L):Prop:=xs.length ≤ 8 ∧ ∀ x ∈ xs,formed x = true ∧ Wf x
structure Am.ok (B:Int) (a:Am):Prop where
 jo:Jn.Ok a.jn
 jr:Jn.Rg a.jn
 j16:a.jn.2.1.length ≤ 16
 jv:(a.jn.2.1.length:Int) ≤ a.jn.2.2
 jt:a.jn.2.2 ≤ 1000000000
 inb:Fit a.inb
 out:a.out.ok B
 tr:a.tries < 3 ∧ (0 < a.tries → a.inb ≠ [])
 poi:Fit a.poi
def fresh (k:ByteArray):Am:=⟨Jn.s0,[],newO k,0,[]⟩
def freshB (a:Am):Bool:=decide (a.jn.2.2 = 0) && (decide (a.inb.length = 0) && ((decide (a.out.ser.length = 0) && decide (a.out.lst.length = 0)) && (decide (a.tries = 0) && decide (a.poi.length = 0))))
def encA (a:Am):List Int:=num a.tries ++ (txl (Jn.encJ a.jn) ++ (txl (packL a.inb) ++ (txl (encO a.out) ++ txl (packL a.poi))))
theorem fit_nil:Fit []:=⟨by simp,by simp⟩
theorem rg0:Jn.Rg Jn.s0:=⟨by simp [Jn.s0],fun x hx => by
 simp only [Jn.s0,List.mem_cons,List.not_mem_nil,or_false,or_self] at hx
 subst hx
 unfold Jn.I64
 omega,fun e he => by simp [Jn.s0] at he⟩
theorem fresh_ok {k:ByteArray} (h:Kk k):(fresh k).ok 0:=⟨Jn.Ok.s0,rg0,by simp [fresh,Jn.s0],by simp [fresh,Jn.s0],by simp [fresh,Jn.s0],fit_nil,newO_ok h,by simp [fresh],fit_nil⟩
theorem Am.ok.mono {B C:Int} {a:Am} (h:a.ok B) (hc:B ≤ C):a.ok C:=⟨h.jo,h.jr,h.j16,h.jv,h.jt,h.inb,h.out.mono hc,h.tr,h.poi⟩
theorem pack_le {xs:List L} (h:Fit xs):(packL xs).length ≤ 910:=by
 unfold packL
 split
 · have h1:∀ ys:List L,(∀ y ∈ ys,formed y = true) → (pkb ys).length ≤ 112 * ys.length:=fun ys => by
    induction ys with
    | nil => intro _; simp [pkb]
    | cons y r ih =>
     intro hy
     have e:pkb (y :: r) = lb y ++ pkb r:=by simp [pkb]
     have h1:=ih fun z hz => hy z (by simp [hz])
     have h2:=lb_small (hy y (by simp))
     rw [e]
     simp only [List.length_append,List.length_cons]
     omega
   have h2:=h1 xs fun y hy => (h.2 y hy).1
   have h3:=(num_length (xs.length:Int)).2
   have h4:=h.1
   simp only [List.length_append]
   omega
 · simp
theorem pack_byte {xs:List L} (h:Fit xs):Byte (packL xs):=by
 unfold packL pkb
 split
 · exact Byte.append (num_b _ (by omega)) (flat_byte _ _ fun x hx => Ou.lb_byte x (h.2 x hx).2)
 · intro c hc; cases hc
theorem dec_pack {xs:List L} (h:Fit xs):Iw.decI (packL xs) = some xs ∧ unpL (packL xs) = (xs,0):=by
 have e:=Pk.unp_pack xs h.2 (by have:=h.1; omega)
 refine ⟨?_,e⟩
 unfold Iw.decI
 rw [e,if_pos ⟨rfl,h.1⟩]
theorem encJ_small {a:Am} {B:Int} (h:a.ok B):(Jn.encJ a.jn).length ≤ 378:=by
 have:=Jn.encJ_le a.jn h.jo.b8
 have:=h.j16
 omega
theorem encA_le {a:Am} {B:Int} (h:a.ok B):(encA a).length ≤ 11600:=by
 have h1:=(num_length (a.tries:Int)).2
 have h2:=txl_le (Jn.encJ a.jn)
 have h3:=txl_le (packL a.inb)
 have h4:=txl_le (encO a.out)
 have h5:=txl_le (packL a.poi)
 have h6:=encJ_small h
 have h7:=pack_le h.inb
 have h8:=encO_le h.out
 have h9:=pack_le h.poi
 simp only [encA,List.length_append]
 omega
theorem encA_byte {a:Am} {B:Int} (h:a.ok B):Byte (encA a):=
 Byte.append (num_b _ (by omega)) (Byte.append (txl_byte (Jn.encJ_byte h.jo h.jr)) (Byte.append (txl_byte (pack_byte h.inb)) (Byte.append (txl_byte (encO_byte h.out)) (txl_byte (pack_byte h.poi)))))
end Go.Proofs.YtclfmpieapbfnaaGreatDoor.Ac
end
