/- Part 26: lemmas, no conditions. -/
import Derived.Test.YtclfmpieapbfnaaGreatDoorZ09
import Derived.Test.YtclfmpieapbfnaaGreatDoorZ02
import Derived.Test.YtclfmpieapbfnaaGreatDoorZ19
import Derived.Test.YtclfmpieapbfnaaGreatDoorZ22
import Derived.Test.YtclfmpieapbfnaaGreatDoorZ07
import Derived.Maps.OwnSet
set_option maxHeartbeats 2000000
namespace Go.Proofs.YtclfmpieapbfnaaGreatDoor
set_option linter.unusedVariables false
set_option linter.unusedSimpArgs false
section
namespace Up
open Go.RowKit B Cm Sm Dk
def rd1 (i:Nat) (b:List Int):Option (Int × List Int):=if okOf 83 i b = true then rdNum (outOf 83 i b) else none
def newer (s:Int × List Int) (o:Option (Int × List Int)):Int × List Int:=match o with
 | none => s
 | some x => if s.1 < x.1 then x else s
theorem newer_lt {s:Int × List Int} {g:Int} {v:List Int} (h:s.1 < g):newer s (some (g,v)) = (g,v):=if_pos h
theorem newer_ge {s:Int × List Int} {g:Int} {v:List Int} (h:¬ s.1 < g):newer s (some (g,v)) = s:=if_neg h
theorem okOf_zero (i:Int):okOf 83 i (List.replicate 256 0) = false:=by
 cases h:okOf 83 i (List.replicate 256 0)
 · rfl
 · unfold okOf at h
   simp only [Bool.and_eq_true,decide_eq_true_eq] at h
   have h1:=h.2.2
   have h2:gi (sealed 83 i (pay (List.replicate 256 0))) 8 = 83:=by
    have e:sealed 83 i (pay (List.replicate 256 0)) = be (fnv (rest 83 i (pay (List.replicate 256 0)))) 8 8 ++ rest 83 i (pay (List.replicate 256 0)):=rfl
    have:=gi_app (be (fnv (rest 83 i (pay (List.replicate 256 0)))) 8 8) (rest 83 i (pay (List.replicate 256 0))) 0
    rw [be_length] at this
    rw [e,this]
    rfl
   rw [h1] at h2
   have h3:gi (List.replicate 256 0) 8 = 0:=rfl
   omega
theorem rd1_zero (i:Nat):rd1 i (List.replicate 256 0) = none:=by
 unfold rd1
 rw [okOf_zero,if_neg (by simp)]
def bk (l:List (Nat × List Int)) (i:Nat):List Int:=(last l i).getD (List.replicate 256 0)
end Up
end
section
namespace Fr
open Go.RowKit Go.Maps B Cm
open Dk (Dm)
def vR (v:Value):Option (DataW Value × List MemPlace):=some (.held v,[])
def Mp (P:Program) (kt:TypeId) (w:World) (b n:Nat):Prop:=∃ D,w.ownsMap P kt vR b n D
def I64 (c:Int):Prop:=-9223372036854775808 ≤ c ∧ c ≤ 9223372036854775807
theorem I64.wf {c:Int} (h:I64 c):(Lit.int .i64 c).wf = true:=by
 have:=h.1
 have:=h.2
 simp [Lit.wf,IntKind.min,IntKind.max,IntKind.signed,IntKind.bits]
 omega
section
variable {P:Program} {kt:TypeId} {w w':World} {b n:Nat}
theorem Mp.made (P:Program) (kt:TypeId) (w:World):Mp P kt (w.alloc (.map #[] 0)) w.heap.size 0:=⟨_,World.ownsMap_made w P kt vR⟩
theorem Mp.lt (h:Mp P kt w b n):b < w.heap.size:=by
 obtain ⟨D,h1⟩:=h
 exact h1.lt
theorem Mp.upd {F:Nat → Prop} (h:Mp P kt w b n) (hu:Upd F w w') (hn:¬ F b):Mp P kt w' b n:=by
 have hlt:=h.lt
 obtain ⟨D,⟨es,clock,hb,r⟩⟩:=h
 exact ⟨D,⟨es,clock,(hu.block b hlt hn).trans hb,r⟩⟩
theorem Mp.store (h:Mp P kt w b n) {t e:TypeId} (hk:P.underlying kt = some (.int .i64)) (ht:P.underlying t = some (.map kt e)) (hn:n < maxLen) {c:Int} (hc:I64 c) (v:Value) :
 ∃ w',(Instr.mapUpdate t (.map (some b)) (.int .i64 c) v).run P w = .ok () w' ∧ Mp P kt w' b (n + 1) ∧ Upd (fun k => k = b) w w':=by
 obtain ⟨D,h1⟩:=h
 obtain ⟨w',hr,ho,hg⟩:=h1.store (int_keyed hk) ht hn (keyOf_int_mk hk hc.wf) (val:=v) (d:=.held v) (ps:=[]) rfl
 exact ⟨w',hr,⟨_,ho⟩,(Upd.refl _ _).grown hg.grown fun k hk => .inl (by injection hk with hk; exact hk.symm)⟩
variable {ops:Array Oper} {o:Oper} {a:Act} {Q:Exit → Act → World → Prop} {K:Act → World → Prop}
theorem mi_wp (mo x v:Operand) (t e:TypeId) (ho:o.op = Op.mapUpdate t mo x v) (hk:P.underlying kt = some (.int .i64)) (ht:P.underlying t = some (.map kt e)) (b n:Nat) (c:Int) (val:Value)
 (hm:a.eval mo = .map (some b)) (hx:a.eval x = .int .i64 c) (hv:a.eval v = val) (h:Mp P kt w b n) (hn:n < maxLen) (hc:I64 c)
 (hK:∀ w',Mp P kt w' b (n + 1) → Upd (fun k => k = b) w w' → K (a.put o.dst undef) w'):o.wp P a w K Q:=by
 obtain ⟨w',hr,h1,h2⟩:=h.store hk ht hn hc val
 unfold Oper.wp
 simp [execOp,ho,hm,hx,hv,hr,Result.andThen]
 exact hK w' h1 h2
theorem mi_store {rest:List Oper} (hgd:o.guard = none) (mo x v:Operand) (t e:TypeId) (ho:o.op = Op.mapUpdate t mo x v) (hk:P.underlying kt = some (.int .i64)) (ht:P.underlying t = some (.map kt e)) (b n:Nat) (c:Int) (val:Value)
 (hm:a.eval mo = .map (some b)) (hx:a.eval x = .int .i64 c) (hv:a.eval v = val) (h:Mp P kt w b n) (hn:n < maxLen) (hc:I64 c)
 (hK:∀ w',Mp P kt w' b (n + 1) → Upd (fun k => k = b) w w' → wpList P ops Q rest (a.put o.dst undef) w'):wpList P ops Q (o :: rest) a w:=
 wpList_plain hgd fun _ hK' => mi_wp mo x v t e ho hk ht b n c val hm hx hv h hn hc fun w' h1 h2 => hK' _ _ (hK w' h1 h2)
end
abbrev Mi (w:World) (b n:Nat):Prop:=Mp Tryz.prog 3 w b n
section
variable {w:World} {D:Nat → Prop} {p:Nat} {d:Dm}
set_option maxRecDepth 100000 in
theorem names_ (h:Dk.Dk w D p d) (hok:d.ok) (hd:d.down = false) {fr count:Int} (ha:Gl.areaB d.nb fr count = true) (hf:fr ≠ 0) :
 Calls Tryz.prog 81 #[.pointer (some ⟨p,0,none⟩),.int .i64 fr,.int .i64 count,.int .i64 0] w fun e w' => e = .returned (.tuple #[.slice none 0 0,.int .i64 0]) ∧ Upd No w w':=by
 obtain ⟨w1,hw1⟩:∃ w1,w1 = w.alloc (.cells #[.pointer (some ⟨p,0,none⟩)] 29):=⟨_,rfl⟩
 obtain ⟨w2,hw2⟩:∃ w2,w2 = w1.alloc (.cells #[.int .i64 fr] 3):=⟨_,rfl⟩
 obtain ⟨w3,hw3⟩:∃ w3,w3 = w2.alloc (.cells #[.int .i64 count] 3):=⟨_,rfl⟩
 have u1:Upd No w w1:=by rw [hw1]; exact (Upd.refl _ _).alloc _
 have u2:Upd No w1 w2:=by rw [hw2]; exact (Upd.refl _ _).alloc _
 have u3:Upd No w2 w3:=by rw [hw3]; exact (Upd.refl _ _).alloc _
 have HU:=hid ((u1.next u2).next u3)
 have b1:Blk w1 w.heap.size 29 #[.pointer (some ⟨p,0,none⟩)]:=by rw [hw1]; exact Blk.fresh _ _ _
 have b2:Blk w2 w1.heap.size 3 #[.int .i64 fr]:=by rw [hw2]; exact Blk.fresh _ _ _
 have b3:Blk w3 w2.heap.size 3 #[.int .i64 count]:=by rw [hw3]; exact Blk.fresh _ _ _
 have c1:w3.cell? ⟨w.heap.size,0,none⟩ = some (.pointer (some ⟨p,0,none⟩)):=by simpa using (b1.upd (u2.next u3) (no_ _)).cell 0
 have c2:w3.cell? ⟨w1.heap.size,0,none⟩ = some (.int .i64 fr):=by simpa using (b2.upd u3 (no_ _)).cell 0
 have c3:w3.cell? ⟨w2.heap.size,0,none⟩ = some (.int .i64 count):=by simpa using b3.cell 0
 have s1:w1.heap.size = w.heap.size + 1:=by rw [hw1]; simp
 have s2:w2.heap.size = w.heap.size + 1 + 1:=by rw [hw2]; simp [s1]
 rw [s1] at c2
 rw [s2] at c3
 have HA:=hid (Gl.area p d D fr count w3 (h.upd HU.out fun _ _ => no_ _) hok)
 have HD:=hid (Dk.down p d D w3 (h.upd HU.out fun _ _ => no_ _) hok)
 rw [ha] at HA
 rw [hd] at HD
 clear u1 u2 u3 b1 b2 b3 ha hd s1 s2
 rw [hw3,hw2,hw1] at c1 c2 c3
 go_enter Tryz.func81,Tryz.ntmps81
 go_wp2_with (fail)
 rw [← hw1,← hw2,← hw3] at c1 c2 c3 ⊢
 clear hw1 hw2 hw3
 refine Calls.mono HA.out ?_
 rintro e w4 ⟨rfl,rfl⟩
 go_wp2_with (fail)
 refine Calls.mono HD.out ?_
 rintro e w4 ⟨rfl,rfl⟩
 go_wp2
 go_ret2
 exact ⟨rfl,HU.out⟩
def PgOut (w:World) (fr:Int) (e:Ending) (w':World):Prop:=∃ q,e = .returned (.tuple #[.pointer (some ⟨q,0,none⟩),.int .i64 0]) ∧ (∃ a b c,Blk w' q 308 #[a,.int .i64 fr,b,c]) ∧ w.heap.size ≤ q ∧ Upd No w w'
theorem PgOut.of {w:World} {fr:Int} {e:Ending} {w':World} (h:∃ q,e = .returned (.tuple #[.pointer (some ⟨q,0,none⟩),.int .i64 0]) ∧ (∃ a b c,Blk w' q 308 #[a,.int .i64 fr,b,c]) ∧ w.heap.size ≤ q ∧ Upd No w w'):PgOut w fr e w':=h
structure Fg (w W:World) (q b1 b2 p:Nat) (fr:Int) (j:Nat):Prop where
 blk:Blk W q 308 #[.pointer (some ⟨p,0,none⟩),.int .i64 fr,.map (some b1),.map (some b2)]
 mi:Mi W b2 j
 lo:w.heap.size ≤ q ∧ w.heap.size ≤ b2 ∧ b2 ≠ q
 upd:Upd No w W
theorem Fg.more {W W':World} {q b1 b2 p:Nat} {fr:Int} {j:Nat} (h:Fg w W q b1 b2 p fr j) (hm:Mi W' b2 (j + 1)) (hu:Upd (fun k => k = b2) W W'):Fg w W' q b1 b2 p fr (j + 1):=
 ⟨h.blk.upd hu (fun e => h.lo.2.2 e.symm),hm,h.lo,h.upd.trans hu fun i hi e => by have:=h.lo.2.1; omega⟩
theorem Fg.cell {W:World} {q b1 b2 p:Nat} {fr:Int} {j:Nat} (h:Fg w W q b1 b2 p fr j):W.cell? ⟨q,3,none⟩ = some (.map (some b2)):=by simpa using h.blk.cell 3
set_option maxRecDepth 100000 in
theorem pages_ (h:Dk.Dk w D p d) (hok:d.ok) (hd:d.down = false) {fr count:Nat} (ha:Gl.areaB d.nb fr count = true) (hs:fr + count ≤ 65536) :
 Calls Tryz.prog 82 #[.pointer (some ⟨p,0,none⟩),.int .i64 fr,.int .i64 count,.slice none 0 0] w fun e w' => PgOut w fr e w':=by
 have HA:=hid (Gl.area p d D fr count w h hok)
 have HD:=hid fun W (hu:Upd No w W) => Dk.down p d D W (h.upd hu fun _ _ => no_ _) hok
 rw [ha] at HA
 rw [hd] at HD
 have hmk:=@run_makeMap Tryz.prog
 have HW:Hid (∃ w3 q b1 b2,w3 = ((w.alloc (.map #[] 0)).alloc (.map #[] 0)).alloc (.cells #[.pointer (some ⟨p,0,none⟩),.int .i64 fr,.map (some w.heap.size),.map (some (w.heap.size + 1))] 308) ∧ q = w.heap.size + 1 + 1 ∧ b1 = w.heap.size ∧ b2 = w.heap.size + 1 ∧ Fg w w3 q b1 b2 p fr 0):=hid (by
  have hm:=Mp.made Tryz.prog 3 (w.alloc (.map #[] 0))
  have hb:=Blk.fresh ((w.alloc (.map #[] 0)).alloc (.map #[] 0)) 308 #[.pointer (some ⟨p,0,none⟩),.int .i64 fr,.map (some w.heap.size),.map (some (w.heap.size + 1))]
  rw [show (w.alloc (.map #[] 0)).heap.size = w.heap.size + 1 from by simp] at hm
  rw [show ((w.alloc (.map #[] 0)).alloc (.map #[] 0)).heap.size = w.heap.size + 1 + 1 from by simp] at hb
  exact ⟨_,_,_,_,rfl,rfl,rfl,rfl,hb,hm.upd ((Upd.refl No _).alloc _) (no_ _),⟨by omega,by omega,by omega⟩,(((Upd.refl _ _).alloc _).alloc _).alloc _⟩)
 clear h ha hd
 go_enter Tryz.func82,Tryz.ntmps82
 go_wp2_with (fail)
 refine Calls.mono HA.out ?_
 rintro e w1 ⟨rfl,rfl⟩
 go_wp2_with (fail)
 obtain ⟨w3,q,b1,b2,hw3,hq,hb1,hb2,hF⟩:=HW.out
 rw [← hq,← hb2,← hb1]
 rw [← hb2,← hb1] at hw3
 rw [← hw3]
 have HF:=hid hF
 clear hF hw3 hq hb1 hb2 HW
 go_loopw [31] (fun v31 W => ∃ j:Nat,j ≤ count ∧ v31 = .int .i64 j ∧ Hid (Fg w W q b1 b2 p fr j)) (fun v31 _ => count - (intOf v31).toNat)
 case atStart => exact ⟨0,by omega,rfl,HF⟩
 case round =>
  clear HF
  obtain ⟨j,hj,rfl,HF⟩:=hrel
  by_cases hlt:j < count
  · have hlt1:(j:Int) < (count:Int):=by omega
    have k3:=HF.out.cell
    go_wp2_with (at_mapUpdate; go_must (refine mi_store rfl (.tmp 37) (.tmp 40) (.const (.bool true)) 306 4 rfl Tryz.underlying3 Tryz.underlying306 b2 j ((fr:Int) + j) (.bool true) rfl (by go_num) rfl HF.out.mi (by simp [maxLen]; omega) ⟨by omega,by omega⟩ ?_); intro w9 hm9 hu9; have HF9:=hid (HF.out.more hm9 hu9); clear hm9 hu9 k3)
    go_roundw
    case rel => exact ⟨j + 1,by omega,by go_num,HF9⟩
    case measure => simp [intOf]; omega
  · obtain rfl:j = count:=by omega
    have hlt1:¬ (j:Int) < (j:Int):=by omega
    go_wp2_with (fail)
    refine Calls.mono (HD.out _ HF.out.upd) ?_
    rintro e w5 ⟨rfl,rfl⟩
    obtain ⟨wi,hwi⟩:∃ wi,wi = wr:=⟨_,rfl⟩
    rw [← hwi] at HF ⊢
    clear hwi
    go_wp2_with (fail)
    go_loopw [46] (fun v46 W => v46 = .int .i64 0 ∧ Hid (W = wi)) (fun _ _ => 0)
    case atStart => exact ⟨rfl,hid rfl⟩
    case round =>
     obtain ⟨rfl,hW⟩:=hrel
     obtain rfl:=hW.out
     go_wp2
     go_ret2
     exact .of ⟨q,rfl,⟨_,_,_,HF.out.blk⟩,HF.out.lo.1,HF.out.upd⟩
end
theorem from_ {w:World} {q:Nat} {fr:Int} {a b c:Value} (h:Blk w q 308 #[a,.int .i64 fr,b,c]) :
 Calls Tryz.prog 154 #[.pointer (some ⟨q,0,none⟩)] w fun e w' => e = .returned (.int .i64 fr) ∧ w = w':=by
 have hc:w.cell? ⟨q,1,none⟩ = some (.int .i64 fr):=by simpa using h.cell 1
 go_enter Tryz.func154,Tryz.ntmps154
 go_wp2
 go_ret
 exact ⟨rfl,rfl⟩
def TrOut (w:World) (e:Ending) (w':World):Prop:=∃ t,e = .returned (.tuple #[.pointer (some ⟨t,0,none⟩),.int .i64 0]) ∧ (∃ a b,Blk w' t 310 #[a,.int .i64 0,b,.slice none 0 0,.slice none 0 0,.slice none 0 0]) ∧ w.heap.size ≤ t ∧ Upd No w w'
theorem TrOut.of {w:World} {e:Ending} {w':World} (h:∃ t,e = .returned (.tuple #[.pointer (some ⟨t,0,none⟩),.int .i64 0]) ∧ (∃ a b,Blk w' t 310 #[a,.int .i64 0,b,.slice none 0 0,.slice none 0 0,.slice none 0 0]) ∧ w.heap.size ≤ t ∧ Upd No w w'):TrOut w e w':=h
set_option maxRecDepth 100000 in
theorem tree_ {w:World} {q:Nat} {fr:Int} {a b c:Value} (h:Blk w q 308 #[a,.int .i64 fr,b,c]) (hf:fr ≠ 0) :
 Calls Tryz.prog 83 #[.pointer (some ⟨q,0,none⟩),.int .i64 0] w fun e w' => TrOut w e w':=by
 have HF:=hid (from_ h)
 have hmk:=@run_makeMap Tryz.prog
 have HR:Hid (∀ W',W' = (w.alloc (.map #[] 0)).alloc (.cells #[.pointer (some ⟨q,0,none⟩),.int .i64 0,.map (some w.heap.size),.slice none 0 0,.slice none 0 0,.slice none 0 0] 310) → TrOut w (.returned (.tuple #[.pointer (some ⟨w.heap.size + 1,0,none⟩),.int .i64 0])) W'):=hid (by
  rintro W' rfl
  rw [show w.heap.size + 1 = (w.alloc (.map #[] 0)).heap.size from by simp]
  exact .of ⟨_,rfl,⟨_,_,Blk.fresh _ _ _⟩,by simp,((Upd.refl _ _).alloc _).alloc _⟩)
 clear h
 go_enter Tryz.func83,Tryz.ntmps83
 go_wp2_with (fail)
 refine Calls.mono HF.out ?_
 rintro e w1 ⟨rfl,rfl⟩
 go_wp2
 go_ret2
 exact HR.out _ rfl
set_option maxRecDepth 100000 in
theorem tkeys_ {w:World} {t:Nat} {a b:Value} (h:Blk w t 310 #[a,.int .i64 0,b,.slice none 0 0,.slice none 0 0,.slice none 0 0]) (x y:ByteArray) :
 Calls Tryz.prog 85 #[.pointer (some ⟨t,0,none⟩),.string x,.string y] w fun e w' => e = .returned (.slice none 0 0) ∧ Upd No w w':=by
 have hu:Upd No w ((w.alloc (.cells #[.string x] 9)).alloc (.cells #[.string y] 9)):=((Upd.refl _ _).alloc _).alloc _
 have hc:((w.alloc (.cells #[.string x] 9)).alloc (.cells #[.string y] 9)).cell? ⟨t,1,none⟩ = some (.int .i64 0):=by simpa using (h.upd hu (no_ _)).cell 1
 go_enter Tryz.func85,Tryz.ntmps85
 go_wp2
 go_ret
 exact ⟨rfl,hu⟩
end Fr
end
