/- Part 09: lemmas, no conditions. -/
import Derived.Test.YtclfmpieapbfnaaGreatDoorZ07
import Derived.Deep.RegionHeld3
import Derived.BigGuard
import Derived.Test.YtclfmpieapbfnaaGreatDoorZ01
import Derived.Laws.CopyOwn
import Derived.Deep.OwnRows
namespace Go.Proofs.YtclfmpieapbfnaaGreatDoor
set_option linter.unusedVariables false
set_option linter.unusedSimpArgs false
section
namespace B
open Go.RowKit
section
variable {P:Program} {ops:Array Oper} {Q:Exit → Act → World → Prop} {md:Region.Mode} {S:World → Prop} {fuel:Nat} {listed:Array Bool} {a:Act} {w:World}
theorem rg_at (i:Nat) (hi:i < ops.size) (h:∀ oi,ops[i]? = some oi → wpAnyH P md ops Q S fuel listed a w):wpAnyH P md ops Q S fuel listed a w:=
 h _ (Array.getElem?_eq_getElem hi)
theorem rg_take (i:Nat) {oi:Oper} {v:Value} (hi:ops[i]? = some oi)
 (hs:Region.noSelect ops = true) (hf:Region.free md ops listed i = true) (hr:(Region.ready md ops listed).contains i = true)
 (hQ:∀ c a w,Q (.panic c) (a.put oi.dst v) w → Q (.panic c) a w) (hw:Region.wanted oi (yielded ops a.tmps) = true)
 (hy:∀ w,S w → (execOp a.eval oi).run P w = .ok (.value v) w) (hS:S w)
 (h:wpAnyH P md ops Q S fuel (listed.setIfInBounds i true) (a.put oi.dst v) w):wpAnyH P md ops Q S (fuel + 1) listed a w:=
 wpAnyH_take hi hs hf hr hQ (.inl ⟨hw,hy⟩) hS h
theorem rg_skip (i:Nat) {oi:Oper} (hi:ops[i]? = some oi)
 (hs:Region.noSelect ops = true) (hf:Region.free md ops listed i = true) (hr:(Region.ready md ops listed).contains i = true)
 (hQ:∀ c a w,Q (.panic c) (a.put oi.dst undef) w → Q (.panic c) a w) (hw:Region.wanted oi (yielded ops a.tmps) = false) (hS:S w)
 (h:wpAnyH P md ops Q S fuel (listed.setIfInBounds i true) (a.put oi.dst undef) w):wpAnyH P md ops Q S (fuel + 1) listed a w:=
 wpAnyH_take hi hs hf hr hQ (.inr ⟨hw,rfl⟩) hS h
theorem rg_call (i:Nat) {o:Oper} (hr:Region.ready md ops listed = [i]) (hi:ops[i]? = some o) (hw:Region.wanted o (yielded ops a.tmps) = true)
 (h:∀ K':Act → World → Prop,Shut (∀ a w,S w → (S w → wpAnyH P md ops Q S fuel (listed.setIfInBounds i true) a w) → K' a w) → Oper.wp P o a w K' Q):wpAnyH P md ops Q S (fuel + 1) listed a w:=
 wpAnyH_ready hr (by simp) (AllReadyH.cons hi (fun K' hK => by rw [if_pos hw]; exact h K' hK) AllReadyH.nil)
theorem rg_two (i j:Nat) (hr:Region.ready md ops listed = [i,j])
 (h1:wpOp P ops Q i (fun a' w' => S w' ∧ wpAnyH P md ops Q S fuel (listed.setIfInBounds i true) a' w') a w)
 (h2:wpOp P ops Q j (fun a' w' => S w' ∧ wpAnyH P md ops Q S fuel (listed.setIfInBounds j true) a' w') a w):wpAnyH P md ops Q S (fuel + 1) listed a w:=
 wpAnyH_ready hr (by simp) fun k hk => by
  rcases List.mem_cons.1 hk with rfl | hk
  · exact h1
  · rcases List.mem_cons.1 hk with rfl | hk
    · exact h2
    · cases hk
theorem rg_world (h:∀ W',W' = w → wpAnyH P md ops Q S fuel listed a W'):wpAnyH P md ops Q S fuel listed a w:=h w rfl
theorem rg_op_at (i:Nat) {K:Act → World → Prop} (hi:i < ops.size) (h:∀ oi,ops[i]? = some oi → wpOp P ops Q i K a w):wpOp P ops Q i K a w:=
 h _ (Array.getElem?_eq_getElem hi)
theorem rg_step (i:Nat) {o:Oper} (hi:ops[i]? = some o) (hw:Region.wanted o (yielded ops a.tmps) = true)
 (h:∀ K':Act → World → Prop,Shut (∀ a w,S w → (S w → wpAnyH P md ops Q S fuel (listed.setIfInBounds i true) a w) → K' a w) → Oper.wp P o a w K' Q) :
 wpOp P ops Q i (fun a' w' => S w' ∧ wpAnyH P md ops Q S fuel (listed.setIfInBounds i true) a' w') a w:=
 wpOp_step hi fun K' hK => by rw [if_pos hw]; exact h K' (fun a w hS hW => hK a w ⟨hS,hW hS⟩)
theorem zD {α} (l:List α) (i:Nat):l.toArray[i]? = l[i]?:=List.getElem?_toArray
theorem zA {α} (l:List α) (i:Nat) (a:α):l.toArray.setIfInBounds i a = (l.set i a).toArray:=List.setIfInBounds_toArray _ _ _
theorem zB {α} (x a:α) (l:List α):(x :: l).set 0 a = a :: l:=rfl
theorem zC {α} (x a:α) (l:List α) (i:Nat):(x :: l).set (i + 1) a = x :: l.set i a:=rfl
theorem z0 {α} {x:α} {l:List α}:(x :: l)[0]? = some x:=rfl
theorem z1 {α} {x:α} {l:List α} {i:Nat} {o:Option α} (h:l[i]? = o):(x :: l)[i + 1]? = o:=h
theorem zt (i : Nat) {l : List Oper} {oi : Oper} {v : Value} {a' : Act} {l' : Array Bool} (hS : S w) (h : wpAnyH P md l.toArray Q S fuel l' a' w)
   (hi : l[i]? = some oi := by (try simp only [List.getElem?_cons_succ, List.getElem?_cons_zero]); with_reducible rfl)
   (hs : Region.noSelect l.toArray = true := by kernel_rfl) (hf : Region.free md l.toArray listed i = true := by kernel_rfl) (hr : (Region.ready md l.toArray listed).contains i = true := by kernel_rfl)
   (hw : Region.wanted oi (yielded l.toArray a.tmps) = true := by rfl)
   (hy : ∀ w, (execOp a.eval oi).run P w = .ok (.value v) w := by intro w; go_simp; try with_reducible rfl)
   (ha : a.put oi.dst v = a' := by try simp only [Act.put, zA, zB, zC]
                                   try with_reducible rfl)
   (hl : listed.setIfInBounds i true = l' := by try simp only [zA, zB, zC]
                                                try with_reducible rfl)
   (hQ : ∀ c a w v, Q (.panic c) (Act.put a oi.dst v) w → Q (.panic c) a w := by exact fun _ _ _ _ h => h) : wpAnyH P md l.toArray Q S (fuel + 1) listed a w := by
 subst ha; subst hl
 exact wpAnyH_take (by simpa using hi) hs hf hr (fun c a w => hQ c a w _) (.inl ⟨hw, fun w _ => hy w⟩) hS h
theorem zh (i : Nat) {l : List Oper} {oi : Oper} {v : Value} {φ : World → Prop} {a' : Act} {l' : Array Bool} (hS : S w) (hx : ∀ w, S w → φ w) (h : wpAnyH P md l.toArray Q S fuel l' a' w)
   (hi : l[i]? = some oi := by (try simp only [List.getElem?_cons_succ, List.getElem?_cons_zero]); with_reducible rfl)
   (hs : Region.noSelect l.toArray = true := by kernel_rfl) (hf : Region.free md l.toArray listed i = true := by kernel_rfl) (hr : (Region.ready md l.toArray listed).contains i = true := by kernel_rfl)
   (hw : Region.wanted oi (yielded l.toArray a.tmps) = true := by rfl)
   (hy : ∀ w, φ w → (execOp a.eval oi).run P w = .ok (.value v) w := by intro w hf; go_simp; try with_reducible rfl)
   (ha : a.put oi.dst v = a' := by try simp only [Act.put, zA, zB, zC]
                                   try with_reducible rfl)
   (hl : listed.setIfInBounds i true = l' := by try simp only [zA, zB, zC]
                                                try with_reducible rfl)
   (hQ : ∀ c a w v, Q (.panic c) (Act.put a oi.dst v) w → Q (.panic c) a w := by exact fun _ _ _ _ h => h) : wpAnyH P md l.toArray Q S (fuel + 1) listed a w := by
 subst ha; subst hl
 exact wpAnyH_take (by simpa using hi) hs hf hr (fun c a w => hQ c a w _) (.inl ⟨hw, fun w h => hy w (hx w h)⟩) hS h
theorem zu (i:Nat) {l:List Oper} {oi:Oper} {v:Value} (hy:∀ w,S w → (execOp a.eval oi).run P w = .ok (.value v) w) (hS:S w) (h:wpAnyH P md l.toArray Q S fuel (listed.setIfInBounds i true) (a.put oi.dst v) w)
 (hi:l[i]? = some oi:=by (try simp only [List.getElem?_cons_succ,List.getElem?_cons_zero]); with_reducible rfl)
 (hs:Region.noSelect l.toArray = true:=by kernel_rfl) (hf:Region.free md l.toArray listed i = true:=by kernel_rfl) (hr:(Region.ready md l.toArray listed).contains i = true:=by kernel_rfl)
 (hw:Region.wanted oi (yielded l.toArray a.tmps) = true:=by rfl)
 (hQ:∀ c a w v,Q (.panic c) (Act.put a oi.dst v) w → Q (.panic c) a w:=by exact fun _ _ _ _ h => h):wpAnyH P md l.toArray Q S (fuel + 1) listed a w:=
 wpAnyH_take (by simpa using hi) hs hf hr (fun c a w => hQ c a w _) (.inl ⟨hw,hy⟩) hS h
theorem zn (i : Nat) {l : List Oper} {oi : Oper} {a' : Act} {l' : Array Bool} (hS : S w) (h : wpAnyH P md l.toArray Q S fuel l' a' w)
   (hi : l[i]? = some oi := by (try simp only [List.getElem?_cons_succ, List.getElem?_cons_zero]); with_reducible rfl)
   (hs : Region.noSelect l.toArray = true := by kernel_rfl) (hf : Region.free md l.toArray listed i = true := by kernel_rfl) (hr : (Region.ready md l.toArray listed).contains i = true := by kernel_rfl)
   (hw : Region.wanted oi (yielded l.toArray a.tmps) = false := by rfl)
   (ha : a.put oi.dst undef = a' := by try simp only [Act.put, zA, zB, zC]
                                       try with_reducible rfl)
   (hl : listed.setIfInBounds i true = l' := by try simp only [zA, zB, zC]
                                                try with_reducible rfl)
   (hQ : ∀ c a w v, Q (.panic c) (Act.put a oi.dst v) w → Q (.panic c) a w := by exact fun _ _ _ _ h => h) : wpAnyH P md l.toArray Q S (fuel + 1) listed a w := by
 subst ha; subst hl
 exact wpAnyH_take (by simpa using hi) hs hf hr (fun c a w => hQ c a w _) (.inr ⟨hw, rfl⟩) hS h
theorem zk (i:Nat) {l:List Oper} {o:Oper}
 (h:∀ K':Act → World → Prop,Shut (∀ a w,S w → (S w → wpAnyH P md l.toArray Q S fuel (listed.setIfInBounds i true) a w) → K' a w) → Oper.wp P o a w K' Q)
 (hi:l[i]? = some o:=by (try simp only [List.getElem?_cons_succ,List.getElem?_cons_zero]); with_reducible rfl)
 (hr:Region.ready md l.toArray listed = [i]:=by kernel_rfl) (hw:Region.wanted o (yielded l.toArray a.tmps) = true:=by rfl):wpAnyH P md l.toArray Q S (fuel + 1) listed a w:=
 rg_call i hr (by simpa using hi) hw h
theorem zs (i:Nat) {l:List Oper} {o:Oper}
 (h:∀ K':Act → World → Prop,Shut (∀ a w,S w → (S w → wpAnyH P md l.toArray Q S fuel (listed.setIfInBounds i true) a w) → K' a w) → Oper.wp P o a w K' Q)
 (hi:l[i]? = some o:=by (try simp only [List.getElem?_cons_succ,List.getElem?_cons_zero]); with_reducible rfl)
 (hw:Region.wanted o (yielded l.toArray a.tmps) = true:=by rfl) :
 wpOp P l.toArray Q i (fun a' w' => S w' ∧ wpAnyH P md l.toArray Q S fuel (listed.setIfInBounds i true) a' w') a w:=
 rg_step i (by simpa using hi) hw h
end
end B
end
section
namespace Sm
open Go.RowKit B Cm
def Byte (l:List Int):Prop:=∀ c ∈ l,0 ≤ c ∧ c ≤ 255
def fstep (x c:Int):Int:=IntKind.u64.wrap (bits .xor .u64 x c * 1099511628211)
def fnv (l:List Int):Int:=l.foldl fstep 14695981039346656037
theorem fnv_step (l:List Int) (j:Nat) (hj:j < l.length):fnv (l.take (j + 1)) = fstep (fnv (l.take j)) (gi l j):=by
 unfold fnv
 rw [List.take_succ_eq_append_getElem hj,List.foldl_append]
 show fstep _ l[j] = fstep _ (gi l j)
 rw [show gi l j = l[j] from by simp [gi,List.getD_eq_getElem?_getD,List.getElem?_eq_getElem hj]]
theorem fstep_range (x c:Int):0 ≤ fstep x c ∧ fstep x c ≤ 18446744073709551615:=by
 unfold fstep
 rw [IntKind.wrap_u64]
 omega
theorem fold_range (l:List Int):∀ x:Int,0 ≤ x ∧ x ≤ 18446744073709551615 → 0 ≤ l.foldl fstep x ∧ l.foldl fstep x ≤ 18446744073709551615:=by
 induction l with
 | nil => intro x hx; exact hx
 | cons c l ih => intro x hx; exact ih _ (fstep_range x c)
theorem fnv_range (l:List Int):0 ≤ fnv l ∧ fnv l ≤ 18446744073709551615:=fold_range l _ (by omega)
def rest (kind place:Int) (l:List Int):List Int:=kind :: (be place 4 4 ++ ((l.length:Int) :: (l ++ List.replicate (242 - l.length) 0)))
def sealed (kind place:Int) (l:List Int):List Int:=be (fnv (rest kind place l)) 8 8 ++ rest kind place l
theorem rest_length (kind place:Int) (l:List Int) (h:l.length ≤ 242):(rest kind place l).length = 248:=by simp [rest,be_length]; omega
theorem sealed_length (kind place:Int) (l:List Int) (h:l.length ≤ 242):(sealed kind place l).length = 256:=by simp [sealed,be_length,rest_length kind place l h]
def stage (kind place:Int) (l:List Int):List Int:=List.replicate 8 0 ++ rest kind place l
theorem set_at (A:List Int) (x v:Int) (B:List Int) (i:Nat) (h:i = A.length):(A ++ x :: B).set i v = A ++ v :: B:=by
 subst h
 simp
def st1 (kind place:Int) (j:Nat):List Int:=(List.replicate 8 0 ++ kind :: be place 4 j) ++ List.replicate (247 - j) 0
theorem st1_zero (kind place:Int):(List.replicate 256 (0:Int)).set 8 kind = st1 kind place 0:=by
 have e:List.replicate 256 (0:Int) = List.replicate 8 0 ++ 0 :: List.replicate 247 0:=rfl
 rw [e,set_at _ _ _ _ 8 (by simp)]
 unfold st1
 simp only [be,List.range_zero,List.map_nil,Nat.sub_zero]
 rw [List.append_assoc]
 rfl
theorem st1_succ (kind place:Int) (j:Nat) (hj:j < 4):(st1 kind place j).set (9 + j) (place / 256 ^ (4 - 1 - j) % 256) = st1 kind place (j + 1):=by
 unfold st1
 obtain ⟨m,hm⟩:∃ m,247 - j = m + 1:=⟨246 - j,by omega⟩
 rw [hm,show List.replicate (m + 1) (0:Int) = 0 :: List.replicate m 0 from rfl,set_at _ _ _ _ (9 + j) (by simp [be_length]; omega),be_succ,show 247 - (j + 1) = m from by omega]
 simp
theorem st1_len (kind place:Int) (l:List Int) (h:l.length ≤ 242):splice ((st1 kind place 4).set 13 l.length) 14 l = stage kind place l:=by
 have e:st1 kind place 4 = (List.replicate 8 0 ++ kind :: be place 4 4) ++ 0 :: List.replicate 242 0:=rfl
 rw [e,set_at _ _ _ _ 13 (by simp [be_length])]
 have e2:(List.replicate 8 (0:Int) ++ kind :: be place 4 4) ++ (l.length:Int) :: List.replicate 242 0 = (List.replicate 8 (0:Int) ++ kind :: be place 4 4 ++ [(l.length:Int)]) ++ List.replicate 242 0:=by simp
 have el:(List.replicate 8 (0:Int) ++ kind :: be place 4 4 ++ [(l.length:Int)]).length = 14:=by simp [be_length]
 rw [e2]
 unfold splice
 rw [List.take_append_of_le_length (by rw [el]; exact Nat.le_refl _),List.take_of_length_le (by rw [el]; exact Nat.le_refl _),List.drop_append,el,List.drop_of_length_le (by rw [el]; omega),List.drop_replicate]
 simp [stage,rest]
def st2 (s:Int) (r:List Int) (j:Nat):List Int:=be s 8 j ++ (List.replicate (8 - j) 0 ++ r)
theorem st2_zero (s:Int) (r:List Int):List.replicate 8 0 ++ r = st2 s r 0:=by simp [st2,be]
theorem st2_succ (s:Int) (r:List Int) (j:Nat) (hj:j < 8):(st2 s r j).set j (s / 256 ^ (8 - 1 - j) % 256) = st2 s r (j + 1):=by
 unfold st2
 obtain ⟨m,hm⟩:∃ m,8 - j = m + 1:=⟨7 - j,by omega⟩
 rw [hm,show List.replicate (m + 1) (0:Int) = 0 :: List.replicate m 0 from rfl,List.cons_append,set_at _ _ _ _ j (by simp [be_length]),be_succ,show 8 - (j + 1) = m from by omega]
 simp
theorem st2_end (s:Int) (r:List Int):st2 s r 8 = be s 8 8 ++ r:=by simp [st2]
theorem be_bytes (n:Int) (k m:Nat):Byte (be n k m):=by
 intro c hc
 simp only [be,List.mem_map] at hc
 obtain ⟨j,_,rfl⟩:=hc
 omega
theorem rest_bytes (kind place:Int) (l:List Int) (h0:0 ≤ kind ∧ kind ≤ 255) (hl:l.length ≤ 242) (hb:Byte l):Byte (rest kind place l):=by
 intro c hc
 simp only [rest,List.mem_cons,List.mem_append,List.mem_replicate] at hc
 rcases hc with rfl | hc | rfl | hc | hc
 · exact h0
 · exact be_bytes _ _ _ c hc
 · omega
 · exact hb c hc
 · omega
theorem sealed_bytes (kind place:Int) (l:List Int) (h0:0 ≤ kind ∧ kind ≤ 255) (hl:l.length ≤ 242) (hb:Byte l):Byte (sealed kind place l):=by
 intro c hc
 simp only [sealed,List.mem_append] at hc
 rcases hc with hc | hc
 · exact be_bytes _ _ _ c hc
 · exact rest_bytes kind place l h0 hl hb c hc
def pay (b:List Int):List Int:=(b.drop 14).take (gi b 13).toNat
theorem pay_length (b:List Int) (h1:b.length = 256) (h2:gi b 13 ≤ 242):(pay b).length = (gi b 13).toNat:=by
 unfold pay
 rw [List.length_take,List.length_drop]
 omega
theorem pay_bytes (b:List Int) (h:Byte b):Byte (pay b):=fun c hc => h c (List.mem_of_mem_drop (List.mem_of_mem_take hc))
def okOf (kind place:Int) (b:List Int):Bool:=decide (b.length = 256) && (decide (gi b 13 ≤ 242) && decide (sealed kind place (pay b) = b))
def outOf (kind place:Int) (b:List Int):List Int:=if okOf kind place b then pay b else []
theorem gi_app (A B:List Int) (i:Nat):gi (A ++ B) (A.length + i) = gi B i:=by
 unfold gi
 rw [List.getD_eq_getElem?_getD,List.getD_eq_getElem?_getD,List.getElem?_append_right (Nat.le_add_right _ _),Nat.add_sub_cancel_left]
theorem sealed_cut (kind place:Int) (l:List Int):sealed kind place l = (be (fnv (rest kind place l)) 8 8 ++ (kind :: be place 4 4)) ++ ((l.length:Int) :: (l ++ List.replicate (242 - l.length) 0)):=by simp [sealed,rest]
theorem sealed_len (kind place:Int) (l:List Int):gi (sealed kind place l) 13 = l.length:=by
 rw [sealed_cut]
 have e:(be (fnv (rest kind place l)) 8 8 ++ (kind :: be place 4 4)).length = 13:=by simp [be_length]
 have:=gi_app (be (fnv (rest kind place l)) 8 8 ++ (kind :: be place 4 4)) ((l.length:Int) :: (l ++ List.replicate (242 - l.length) 0)) 0
 rw [e] at this
 simpa [gi] using this
theorem sealed_pay (kind place:Int) (l:List Int):pay (sealed kind place l) = l:=by
 unfold pay
 rw [sealed_len,sealed_cut]
 have e2:(be (fnv (rest kind place l)) 8 8 ++ (kind :: be place 4 4)) ++ ((l.length:Int) :: (l ++ List.replicate (242 - l.length) 0)) = (be (fnv (rest kind place l)) 8 8 ++ (kind :: be place 4 4) ++ [(l.length:Int)]) ++ (l ++ List.replicate (242 - l.length) 0):=by simp
 have e:(be (fnv (rest kind place l)) 8 8 ++ (kind :: be place 4 4) ++ [(l.length:Int)]).length = 14:=by simp [be_length]
 rw [e2,List.drop_append,e,List.drop_of_length_le (by rw [e]; omega)]
 simp
theorem okOf_sealed (kind place:Int) (l:List Int) (hl:l.length ≤ 242):okOf kind place (sealed kind place l) = true:=by
 unfold okOf
 rw [sealed_len,sealed_pay,sealed_length kind place l hl]
 simp; omega
theorem outOf_sealed (kind place:Int) (l:List Int) (hl:l.length ≤ 242):outOf kind place (sealed kind place l) = l:=by
 unfold outOf
 rw [okOf_sealed kind place l hl,sealed_pay]
 rfl
def Nb (w:World) (e:TypeId) (g:Nat) (xs:List Int):Prop:=Blk w g e (nums .u8 xs).toArray
theorem Nb.cell {w:World} {e:TypeId} {g:Nat} {xs:List Int} (h:Nb w e g xs) {i:Nat} (hi:i < xs.length):w.cell? ⟨g,i,none⟩ = some (.int .u8 (gi xs i)):=by
 rw [Blk.cell h]
 simp only [List.getElem?_toArray]
 exact nums_get .u8 xs i hi
theorem Nb.put {w:World} {e:TypeId} {g:Nat} {xs:List Int} (h:Nb w e g xs) (i:Nat) (v:Int):Nb (w.setCell ⟨g,i,none⟩ (.int .u8 v)) e g (xs.set i v):=by
 have:=Blk.put h i (.int .u8 v)
 simpa [Nb,nums,List.map_set] using this
theorem Nb.made (w:World) (e:TypeId) (n:Nat):Nb (w.alloc (.cells (madeCells #[.int .u8 0] n) e)) e w.heap.size (List.replicate n 0):=by
 have e1:madeCells #[Value.int .u8 0] n = (nums .u8 (List.replicate n 0)).toArray:=by
  apply Array.ext'
  apply List.ext_getElem
  · simp [nums,madeCells]
  · intro i h1 h2
    simp [nums,madeCells,Nat.mod_one]
 unfold Nb
 rw [e1]
 exact Blk.fresh w e _
theorem Nb.rn {w:World} {e:TypeId} {g:Nat} {xs:List Int} (h:Nb w e g xs):Rn w .u8 (some ⟨g,0,none⟩) xs:=by
 refine ⟨by simp [nums],fun _ => ⟨_,rfl,fun j u hu => ?_⟩⟩
 rw [add_plain,Blk.cell h]
 simpa using hu
theorem Nb.tail {w:World} {e:TypeId} {g:Nat} {xs:List Int} (h:Nb w e g xs) (k:Nat):Rn w .u8 (some ⟨g,k,none⟩) (xs.drop k):=by
 refine ⟨by simp [nums],fun _ => ⟨_,rfl,fun j u hu => ?_⟩⟩
 have e1:(⟨g,k,none⟩:Addr).add j = ⟨g,k + j,none⟩:=by unfold Addr.add; split <;> simp_all
 rw [e1,Blk.cell h]
 simp only [nums,List.map_drop,List.getElem?_drop] at hu
 simpa [nums] using hu
theorem Nb.own {w:World} {e:TypeId} {g base:Nat} {xs:List Int} (h:Nb w e g xs) (hb:base ≤ g) (hl:xs.length ≤ 9223372036854775807):w.ownsRow base e 1 (.slice (some ⟨g,0,none⟩) xs.length xs.length) xs.length (nums .u8 xs):=
 ⟨by simp [nums],.inr ⟨g,xs.length,_,rfl,hb,h,Nat.le_refl _,by simpa [maxLen] using hl,by simp [nums],by rw [List.take_of_length_le (by simp [nums])]⟩⟩
theorem pow4:∀ j:Nat,j < 4 → (2:Int) ^ (24 - 8 * j) = 256 ^ (4 - 1 - j):=by decide
theorem pow8:∀ j:Nat,j < 8 → (2:Int) ^ (56 - 8 * j) = 256 ^ (8 - 1 - j):=by decide
theorem Nb.spliced {w:World} {e:TypeId} {g:Nat} {xs l:List Int} {off:Nat} (h:Hid (w.heap[g]? = some (.cells (splice (nums .u8 xs) off (nums .u8 l)).toArray e (0,0)))):Nb w e g (splice xs off l):=by
 have h':=h.out
 unfold Nb Blk
 rw [h']
 simp [splice,nums,List.map_take,List.map_drop]
theorem mk_nb {P:Program} {w:World} {ops:Array Oper} {rst:List Oper} {o:Oper} {a:Act} {Q:Exit → Act → World → Prop} (hg:o.guard = none) (l c:Operand) (t e:TypeId) (hop:o.op = Op.makeSlice t l c)
 (ht:P.underlying t = some (.slice e)) (hinfo:(P.info? e).map (fun i => (i.zero,i.size,i.bytes)) = some (some (.int .u8 0),1,1)) (ni:Int) (n:Nat) (hl:a.eval l = .int .i64 ni) (hc:a.eval c = .int .i64 ni) (hn:ni = (n:Int)) (hb:n ≤ 281474976710656)
 (hK:∀ w1 g,g = w.heap.size → Nb w1 e g (List.replicate n 0) → Upd No w w1 → wpList P ops Q rst (a.put o.dst (.slice (some ⟨g,0,none⟩) n n)) w1):wpList P ops Q (o :: rst) a w:=by
 subst hn
 have hrun:=run_make_row' (P:=P) t e (.int .u8 0) 1 ht hinfo rfl .i64 .i64 n (by omega) (by omega) w
 refine wpList_plain hg fun K hK' => ?_
 unfold Oper.wp
 simp [execOp,hop,hl,hc,hrun,Result.andThen]
 exact hK' _ _ (hK _ _ rfl (Nb.made w e n) ((Upd.refl _ _).alloc _))
end Sm
end
section
namespace Gp
open Go.RowKit B Cm Sm
def le8 (n:Int):List Int:=(List.range 8).map fun i => n / 256 ^ i % 256
def b2i (b:Bool):Int:=if b then 1 else 0
def hdr (ep:Int) (e:Bool):List Int:=le8 ep ++ [b2i e]
theorem le8_length (n:Int):(le8 n).length = 8:=by simp [le8]
theorem hdr_length (ep:Int) (e:Bool):(hdr ep e).length = 9:=by simp [hdr,le8_length]
theorem hdr_last (ep:Int) (e:Bool) (x:List Int):gi (hdr ep e ++ x) 8 = b2i e:=by
 have h:=gi_app (le8 ep) (b2i e :: x) 0
 rw [le8_length] at h
 have e2:hdr ep e ++ x = le8 ep ++ (b2i e :: x):=by simp [hdr]
 rw [e2,h]
 rfl
theorem b2i_one (e:Bool):decide (b2i e = 1) = e:=by cases e <;> rfl
theorem le8_bytes (n:Int):Byte (le8 n):=by
 intro c hc
 simp only [le8,List.mem_map,List.mem_range] at hc
 obtain ⟨i,_,rfl⟩:=hc
 omega
theorem hdr_bytes (ep:Int) (e:Bool):Byte (hdr ep e):=by
 intro c hc
 simp only [hdr,List.mem_append,List.mem_singleton] at hc
 rcases hc with hc | rfl
 · exact le8_bytes ep c hc
 · cases e <;> simp [b2i]
theorem le8_inj {a b:Int} (ha:0 ≤ a ∧ a ≤ 18446744073709551615) (hb:0 ≤ b ∧ b ≤ 18446744073709551615) (h:le8 a = le8 b):a = b:=by
 have e:∀ n:Int,le8 n = [n % 256,n / 256 % 256,n / 65536 % 256,n / 16777216 % 256,n / 4294967296 % 256,n / 1099511627776 % 256,n / 281474976710656 % 256,n / 72057594037927936 % 256]:=fun n => by simp [le8,List.range,List.range.loop]
 rw [e,e] at h
 simp only [List.cons.injEq,and_true] at h
 omega
theorem hdr_inj {a b:Int} {e f:Bool} (ha:0 ≤ a ∧ a ≤ 18446744073709551615) (hb:0 ≤ b ∧ b ≤ 18446744073709551615) (h:hdr a e = hdr b f):a = b:=
 le8_inj ha hb (List.append_inj_left h (by simp [le8_length]))
def piece (ep:Int) (k:Nat) (b:List Int):Option (List Int × Bool):=
 if okOf 76 k b = true ∧ ¬ (outOf 76 k b).length < 10 ∧ (outOf 76 k b).take 9 = hdr ep (decide (gi (outOf 76 k b) 8 = 1)) then some ((outOf 76 k b).drop 9,decide (gi (outOf 76 k b) 8 = 1)) else none
def nbl (u:List Int):Nat:=(u.length + 232) / 233
def pc (u:List Int) (j:Nat):List Int:=(u.drop (233 * j)).take 233
def lst (u:List Int) (j:Nat):Bool:=decide (u.length - 233 * j ≤ 233)
def blk (ep:Int) (k:Nat) (u:List Int) (j:Nat):List Int:=sealed 76 ((k + j:Nat):Int) (hdr ep (lst u j) ++ pc u j)
theorem pc_length (u:List Int) (j:Nat):(pc u j).length ≤ 233:=by simp only [pc,List.length_take]; omega
theorem pay_len (ep:Int) (u:List Int) (j:Nat):(hdr ep (lst u j) ++ pc u j).length ≤ 242:=by
 have:=pc_length u j
 rw [List.length_append,hdr_length]
 omega
theorem blk_length (ep:Int) (k:Nat) (u:List Int) (j:Nat):(blk ep k u j).length = 256:=sealed_length _ _ _ (pay_len ep u j)
theorem blk_bytes (ep:Int) (k:Nat) (u:List Int) (j:Nat) (hb:Byte u):Byte (blk ep k u j):=by
 refine sealed_bytes _ _ _ (by omega) (pay_len ep u j) fun c hc => ?_
 rcases List.mem_append.1 hc with hc | hc
 · exact hdr_bytes _ _ c hc
 · exact hb c (List.mem_of_mem_drop (List.mem_of_mem_take hc))
theorem lt_nbl {u:List Int} {j:Nat} (h:j < nbl u):233 * j < u.length:=by unfold nbl at h; omega
theorem pc_pos {u:List Int} {j:Nat} (h:j < nbl u):1 ≤ (pc u j).length:=by
 have:=lt_nbl h
 simp only [pc,List.length_take,List.length_drop]
 omega
theorem lst_iff {u:List Int} {j:Nat} (h:j < nbl u):lst u j = decide (j + 1 = nbl u):=by
 unfold lst
 unfold nbl at *
 apply decide_eq_decide.2
 omega
theorem piece_blk (ep:Int) (k:Nat) (u:List Int) (j:Nat) (h:j < nbl u):piece ep (k + j) (blk ep k u j) = some (pc u j,lst u j):=by
 have hp:=pay_len ep u j
 have h1:=okOf_sealed 76 ((k + j:Nat):Int) (hdr ep (lst u j) ++ pc u j) hp
 have h2:=outOf_sealed 76 ((k + j:Nat):Int) (hdr ep (lst u j) ++ pc u j) hp
 have h3:(hdr ep (lst u j) ++ pc u j).take 9 = hdr ep (lst u j):=by
  rw [List.take_append_of_le_length (by rw [hdr_length]; omega),List.take_of_length_le (by rw [hdr_length]; omega)]
 have h4:(hdr ep (lst u j) ++ pc u j).drop 9 = pc u j:=by
  rw [List.drop_append,List.drop_of_length_le (by rw [hdr_length]; omega),hdr_length]
  rfl
 have h5:=pc_pos h
 unfold piece blk
 rw [h1,h2,hdr_last,b2i_one,h3,h4,if_pos ⟨rfl,by rw [List.length_append,hdr_length]; omega,rfl⟩]
theorem piece_other {ep e2:Int} (k:Nat) (u:List Int) (j:Nat) (ha:0 ≤ ep ∧ ep ≤ 18446744073709551615) (hb:0 ≤ e2 ∧ e2 ≤ 18446744073709551615) (hne:ep ≠ e2):piece e2 (k + j) (blk ep k u j) = none:=by
 have hp:=pay_len ep u j
 have h2:=outOf_sealed 76 ((k + j:Nat):Int) (hdr ep (lst u j) ++ pc u j) hp
 have h3:(hdr ep (lst u j) ++ pc u j).take 9 = hdr ep (lst u j):=by
  rw [List.take_append_of_le_length (by rw [hdr_length]; omega),List.take_of_length_le (by rw [hdr_length]; omega)]
 unfold piece blk
 rw [h2,h3,if_neg]
 rintro ⟨_,_,h⟩
 exact hne (hdr_inj ha hb h)
theorem piece_zero (ep:Int) (k:Nat):piece ep k (List.replicate 256 0) = none:=by
 unfold piece
 rw [if_neg]
 rintro ⟨h,_⟩
 unfold okOf at h
 simp only [Bool.and_eq_true,decide_eq_true_eq] at h
 have h1:=h.2.2
 have h2:gi (sealed 76 (k:Int) (pay (List.replicate 256 0))) 8 = 76:=by
  have e:sealed 76 (k:Int) (pay (List.replicate 256 0)) = be (fnv (rest 76 (k:Int) (pay (List.replicate 256 0)))) 8 8 ++ rest 76 (k:Int) (pay (List.replicate 256 0)):=rfl
  have:=gi_app (be (fnv (rest 76 (k:Int) (pay (List.replicate 256 0)))) 8 8) (rest 76 (k:Int) (pay (List.replicate 256 0))) 0
  rw [be_length] at this
  rw [e,this]
  rfl
 rw [h1] at h2
 have h3:gi (List.replicate 256 0) 8 = 0:=rfl
 omega
def scan (ep:Int) (bs:Nat → List Int):Nat → Nat → List Int → Nat → List (List Int) × Nat
 | 0,_,_,used => ([],used)
 | n + 1,k,u,used => match piece ep k (bs k) with
  | none => ([],used)
  | some (x,false) => scan ep bs n (k + 1) (u ++ x) used
  | some (x,true) => ((u ++ x) :: (scan ep bs n (k + 1) [] (k + 1)).1,(scan ep bs n (k + 1) [] (k + 1)).2)
def Laid (ep:Int) (bs:Nat → List Int):Nat → List (List Int) → Nat → Prop
 | k,[],e => k = e
 | k,u :: us,e => u ≠ [] ∧ (∀ j,j < nbl u → bs (k + j) = blk ep k u j) ∧ Laid ep bs (k + nbl u) us e
theorem nbl_pos {u:List Int} (h:u ≠ []):1 ≤ nbl u:=by
 have:=List.length_pos_iff.2 h
 unfold nbl
 omega
theorem take_pc (u:List Int) (j:Nat):u.take (233 * j) ++ pc u j = u.take (233 * (j + 1)):=by
 have:233 * (j + 1) = 233 * j + 233:=by omega
 rw [this,List.take_add]
 rfl
theorem take_last {u:List Int} {j:Nat} (h:j + 1 = nbl u):u.take (233 * (j + 1)) = u:=List.take_of_length_le (by unfold nbl at h; omega)
theorem scan_unit (ep:Int) (bs:Nat → List Int) (k:Nat) (u:List Int) (hb:∀ j,j < nbl u → bs (k + j) = blk ep k u j) (n used:Nat) :
 ∀ d j,j + d = nbl u → 0 < d → scan ep bs (n + d) (k + j) (u.take (233 * j)) used = (u :: (scan ep bs n (k + nbl u) [] (k + nbl u)).1,(scan ep bs n (k + nbl u) [] (k + nbl u)).2):=by
 intro d
 induction d with
 | zero => intro j _ h; omega
 | succ d ih =>
  intro j hj _
  have hlt:j < nbl u:=by omega
  have hp:piece ep (k + j) (bs (k + j)) = some (pc u j,lst u j):=by rw [hb j hlt]; exact piece_blk ep k u j hlt
  rw [lst_iff hlt] at hp
  rw [show n + (d + 1) = n + d + 1 from rfl,scan,hp]
  rcases Nat.eq_zero_or_pos d with h0 | h0
  · subst h0
    have he:j + 1 = nbl u:=by omega
    rw [decide_eq_true he]
    simp only [take_pc,take_last he,Nat.add_zero]
    rw [show k + j + 1 = k + nbl u from by omega]
  · rw [decide_eq_false (by omega)]
    simp only [take_pc]
    rw [show k + j + 1 = k + (j + 1) from by omega]
    exact ih (j + 1) (by omega) h0
def Quiet (ep:Int) (bs:Nat → List Int) (a b:Nat):Prop:=∀ i,a ≤ i → i < b → ∀ x,piece ep i (bs i) ≠ some (x,true)
theorem scan_quiet (ep:Int) (bs:Nat → List Int):∀ (n k:Nat) (u:List Int) (used:Nat),Quiet ep bs k (k + n) → scan ep bs n k u used = ([],used):=by
 intro n
 induction n with
 | zero => intro k u used _; rfl
 | succ n ih =>
  intro k u used hq
  rw [scan]
  rcases hp:piece ep k (bs k) with _ | ⟨x,_ | _⟩
  · rfl
  · exact ih (k + 1) _ used fun i h1 h2 => hq i (by omega) (by omega)
  · exact absurd hp (hq k (Nat.le_refl _) (by omega) x)
theorem Laid.le {ep:Int} {bs:Nat → List Int}:∀ {us:List (List Int)} {k e:Nat},Laid ep bs k us e → k ≤ e:=by
 intro us
 induction us with
 | nil => intro k e h; exact Nat.le_of_eq h
 | cons u t ih => intro k e h; have:=ih h.2.2; omega
theorem scan_laid (ep:Int) (bs:Nat → List Int):∀ (us:List (List Int)) (n k e used:Nat),Laid ep bs k us e → e ≤ k + n → Quiet ep bs e (k + n) → (us = [] → used = k) → scan ep bs n k [] used = (us,e):=by
 intro us
 induction us with
 | nil =>
  intro n k e used h he hq hu
  have:k = e:=h
  subst this
  rw [scan_quiet ep bs n k [] used hq,hu rfl]
 | cons u t ih =>
  intro n k e used h he hq _
  obtain ⟨hne,hb,ht⟩:=h
  have h1:=nbl_pos hne
  have h2:=ht.le
  obtain ⟨m,rfl⟩:∃ m,n = m + nbl u:=⟨n - nbl u,by omega⟩
  have:=scan_unit ep bs k u hb m used (nbl u) 0 (by omega) h1
  rw [Nat.mul_zero,List.take_zero,Nat.add_zero] at this
  rw [this,ih m (k + nbl u) e (k + nbl u) ht (by omega) (by rw [show k + nbl u + m = k + (m + nbl u) from by omega]; exact hq) fun _ => rfl]
theorem Laid.congr {ep:Int} {bs bs':Nat → List Int}:∀ {us:List (List Int)} {k e:Nat},Laid ep bs k us e → (∀ i,k ≤ i → i < e → bs' i = bs i) → Laid ep bs' k us e:=by
 intro us
 induction us with
 | nil => intro k e h _; exact h
 | cons u t ih =>
  intro k e h hc
  have hle:=h.2.2.le
  exact ⟨h.1,fun j hj => (hc _ (by omega) (by omega)).trans (h.2.1 j hj),ih h.2.2 fun i h1 h2 => hc i (by omega) h2⟩
theorem Laid.snoc {ep:Int} {bs:Nat → List Int} {u:List Int}:∀ {us:List (List Int)} {k e:Nat},Laid ep bs k us e → u ≠ [] → (∀ j,j < nbl u → bs (e + j) = blk ep e u j) → Laid ep bs k (us ++ [u]) (e + nbl u):=by
 intro us
 induction us with
 | nil =>
  intro k e h hu hb
  have:k = e:=h
  subst this
  exact ⟨hu,hb,rfl⟩
 | cons v t ih => intro k e h hu hb; exact ⟨h.1,h.2.1,ih h.2.2 hu hb⟩
structure Ar (ep:Int) (bs:Nat → List Int) (count:Nat) (us:List (List Int)) (used:Nat):Prop where
 laid:Laid ep bs 0 us used
 le:used ≤ count
 quiet:Quiet ep bs used count
 old:∀ i,i < count → ∀ e,ep < e → e ≤ 18446744073709551615 → piece e i (bs i) = none
 range:0 ≤ ep ∧ ep ≤ 18446744073709551615
theorem Ar.scan {ep:Int} {bs:Nat → List Int} {count used:Nat} {us:List (List Int)} (h:Ar ep bs count us used):Gp.scan ep bs count 0 [] 0 = (us,used):=
 scan_laid ep bs us count 0 used 0 h.laid (by have:=h.le; omega) (by rw [Nat.zero_add]; exact h.quiet) fun _ => rfl
theorem Ar.zero {ep:Int} (count:Nat) (hr:0 ≤ ep ∧ ep ≤ 18446744073709551615) {bs:Nat → List Int} (hb:∀ i,i < count → bs i = List.replicate 256 0):Ar ep bs count [] 0:=
 ⟨rfl,Nat.zero_le _,(fun i _ hi x h => by rw [hb i hi,piece_zero] at h; cases h),fun i hi e _ _ => by rw [hb i hi,piece_zero],hr⟩
def put (bs:Nat → List Int) (ep:Int) (k:Nat) (u:List Int) (n:Nat):Nat → List Int:=fun i => if k ≤ i ∧ i < k + n then blk ep k u (i - k) else bs i
theorem put_old {ep e:Int} {bs:Nat → List Int} {count k n:Nat} {u:List Int} (ho:∀ i,i < count → ∀ e,ep < e → e ≤ 18446744073709551615 → piece e i (bs i) = none) (hr:0 ≤ ep ∧ ep ≤ 18446744073709551615)
 {i:Nat} (hi:i < count) (h1:ep < e) (h2:e ≤ 18446744073709551615):piece e i (put bs ep k u n i) = none:=by
 unfold put
 by_cases h:k ≤ i ∧ i < k + n
 · rw [if_pos h]
   have:=piece_other k u (i - k) hr ⟨by omega,h2⟩ (show ep ≠ e by omega)
   rwa [show k + (i - k) = i from by omega] at this
 · rw [if_neg h]
   exact ho i hi e h1 h2
theorem Ar.whole {ep:Int} {bs:Nat → List Int} {count used:Nat} {us:List (List Int)} {u:List Int} (h:Ar ep bs count us used) (hu:u ≠ []) (hfit:used + nbl u ≤ count):Ar ep (put bs ep used u (nbl u)) count (us ++ [u]) (used + nbl u):=by
 refine ⟨(h.laid.congr fun i _ hi => ?_).snoc hu fun j hj => ?_,hfit,fun i h1 h2 x hp => ?_,fun i hi e h1 h2 => put_old h.old h.range hi h1 h2,h.range⟩
 · unfold put
   rw [if_neg (by omega)]
 · unfold put
   rw [if_pos (by omega),show used + j - used = j from by omega]
 · unfold put at hp
   rw [if_neg (by omega)] at hp
   exact h.quiet i (by omega) h2 x hp
end Gp
end
