/-
  Part 27 of the proof of the statement that the last part ends in: lemmas, no conditions of their own.
-/
import Derived.Test.YtclfmpieapbfnaaGreatDoorZ07
import Derived.Test.YtclfmpieapbfnaaGreatDoorZ09
import Derived.Test.YtclfmpieapbfnaaGreatDoorProg
import Derived.Lib.SliceRun
import Derived.Lib.AppendZerosOnto
import Derived.Lib.Overlaps
import Derived.Laws.CopyRow
import Derived.Laws.AppendOwn
import Derived.Laws.Externs
import Derived.Deep.RegionHeld3
import Derived.Deep.RegionLaw
import Derived.Deep.DrawnRows
set_option linter.unusedVariables false
set_option linter.unusedSimpArgs false
section
namespace Go.Proofs.YtclfmpieapbfnaaGreatDoor.Nd
open Go.RowKit B
def lay (l:List Value) (o:Nat) (xs:List Value):Array Value:=(l.take o ++ xs ++ l.drop (o + xs.length)).toArray
theorem lay_size {l:List Value} {o:Nat} {xs:List Value} (h:o + xs.length ≤ l.length):(lay l o xs).size = l.length:=by
 unfold lay
 simp only [List.size_toArray,List.length_append,List.length_take,List.length_drop]
 omega
theorem lay_take {l:List Value} {o k:Nat} {xs:List Value} (h:o + xs.length ≤ l.length) (hk:o + xs.length ≤ k):(lay l o xs).toList.take k = l.take o ++ xs ++ (l.take k).drop (o + xs.length):=by
 unfold lay
 simp only
 apply List.ext_getElem?
 intro j
 rw [List.getElem?_take]
 simp only [List.getElem?_append,List.length_append,List.length_take,List.getElem?_drop,List.getElem?_take,Nat.min_eq_left (show o ≤ l.length by omega)]
 by_cases hj:j < k
 · rw [if_pos hj]
   split
   · rfl
   · rename_i h2
     rw [show o + xs.length + (j - (o + xs.length)) = j from by omega,if_pos hj]
 · rw [if_neg hj,if_neg (by omega),if_neg (by omega)]
theorem lay_low {l:List Value} {o k:Nat} {xs:List Value} (h:o + xs.length ≤ l.length) (hk:k ≤ o):(lay l o xs).toList.take k = l.take k:=by
 unfold lay
 simp only
 rw [List.append_assoc,List.take_append_of_le_length (by rw [List.length_take]; omega),List.take_take,Nat.min_eq_left hk]
theorem Upd.setRow {w:World} (g:Nat) (cur:Array Value):Upd (fun k => k = g) w (w.setRow g cur):=
 ⟨rfl,rfl,rfl,by simp,fun k _ hk => setRow_other w g k _ fun e => hk e⟩
theorem Blk.row {w:World} {g:Nat} {t:TypeId} {cs:Array Value} (h:Blk w g t cs) (cur:Array Value):Blk (w.setRow g cur) g t cur:=setRow_heap w g _ cur t (0,0) h
section
variable {P:Program}
theorem run_copy_rows (w:World) (dT sT ty elem:TypeId) (size g o dLen dCap:Nat) (a:Addr) (sLen sCap m:Nat) (cur:Array Value) (t:TypeId) (cs:List Value)
 (hu:P.underlying dT = some (.slice elem)) (hs:(P.info? elem).map (·.size) = some size)
 (hg:w.heap[g]? = some (.cells cur t (0,0))) (hm:m = Nat.min sLen dLen) (hn:cs.length = m * size)
 (hsrc:∀ j v,cs[j]? = some v → w.cell? (a.add j) = some v) (hfit:o + cs.length ≤ cur.size) (h1:∀ v ∈ cs,v.oneCell' = true) :
 (Builtin.copy_ #[dT,sT] ty #[.slice (some ⟨g,o,none⟩) dLen dCap,.slice (some a) sLen sCap]).run P w = .ok (goInt m) (w.setRow g (lay cur.toList o cs)):=by
 have hf:=run_firstCells_some (P:=P) w size m a sLen sCap cs hn hsrc
 have hst:=run_storeCells_at P g o t cs 0 cur w hg (by simpa using hfit) h1
 simp only [Nat.add_zero] at hst
 cases hq:P.info? elem with
 | none => simp [hq] at hs
 | some i =>
  have hi:i.size = size:=by simpa [hq] using hs
  simp [Builtin.copy_,run_underlying hu,Builtin.lenOf,sizeOf,typeInfo,hq,hi,← hm,hf,hst,lay]
theorem run_clear_rows (w:World) (t e ty:TypeId) (z:Value) (zs:List Value) (ht:P.underlying t = some (.slice e)) (hv:∀ w,(zeroValue e).run P w = .ok z w) (n:Nat) (hz:(Builtin.zeroCells z.cells n).toList = zs) (h1:∀ u ∈ zs,u.oneCell' = true) (g o c:Nat) (cur:Array Value) (tt:TypeId)
 (hg:w.heap[g]? = some (.cells cur tt (0,0))) (hn:0 < n) (hfit:o + zs.length ≤ cur.size) :
 (Builtin.clear_ #[t] ty #[.slice (some ⟨g,o,none⟩) n c]).run P w = .ok (.tuple #[]) (w.setRow g (lay cur.toList o zs)):=by
 have hst:=run_storeCells_at P g o tt zs 0 cur w hg (by simpa using hfit) h1
 simp only [Nat.add_zero] at hst
 obtain ⟨m,rfl⟩:∃ m,n = m + 1:=⟨n - 1,by omega⟩
 simp [Builtin.clear_,run_underlying ht,hv,hz,hst,lay]
section
variable {ops:Array Oper} {rest:List Oper} {o:Oper} {a:Act} {Q:Exit → Act → World → Prop} {K:Act → World → Prop} {E:Prop}
theorem wp_copy_eq {w:World} (d s:Operand) (t t':TypeId) (ho:o.op = .call { callee:=.builtin .copy,args:=#[d,s],argTypes:=#[t,t'] }) (v u:Value) (hd:a.eval d = v) (hs:a.eval s = u) {v':Value} {w':World}
 (hr:(Builtin.copy_ #[t,t'] o.type #[v,u]).run P w = .ok v' w') (h:K (a.put o.dst v') w'):o.wp P a w K Q:=by
 unfold Oper.wp execOp
 simp only [ho,resolve,invoke,builtin,Sem.run_bind,Sem.run_pure,Result.andThen_ok,List.map_toArray,List.map_cons,List.map_nil,hd,hs,hr]
 exact h
theorem wpList_copy_eq {w:World} (hgd:o.guard = none) (d s:Operand) (t t':TypeId) (ho:o.op = .call { callee:=.builtin .copy,args:=#[d,s],argTypes:=#[t,t'] }) (v u:Value) (hd:a.eval d = v) (hs:a.eval s = u) {v':Value} {w':World}
 (hr:(Builtin.copy_ #[t,t'] o.type #[v,u]).run P w = .ok v' w') (h:wpList P ops Q rest (a.put o.dst v') w'):wpList P ops Q (o :: rest) a w:=
 wpList_plain hgd fun _ hK => wp_copy_eq d s t t' ho v u hd hs hr (hK _ _ h)
theorem wp_append_eq {w:World} (d s:Operand) (t t':TypeId) (ho:o.op = .call { callee:=.builtin .append,args:=#[d,s],argTypes:=#[t,t'] }) (v u:Value) (hd:a.eval d = v) (hs:a.eval s = u) {v':Value} {w':World}
 (hr:(Builtin.append_ #[t,t'] o.type #[v,u]).run P w = .ok v' w') (h:K (a.put o.dst v') w'):o.wp P a w K Q:=by
 unfold Oper.wp execOp
 simp only [ho,resolve,invoke,builtin,Sem.run_bind,Sem.run_pure,Result.andThen_ok,List.map_toArray,List.map_cons,List.map_nil,hd,hs,hr]
 exact h
theorem wpList_append_eq {w:World} (hgd:o.guard = none) (d s:Operand) (t t':TypeId) (ho:o.op = .call { callee:=.builtin .append,args:=#[d,s],argTypes:=#[t,t'] }) (v u:Value) (hd:a.eval d = v) (hs:a.eval s = u) {v':Value} {w':World}
 (hr:(Builtin.append_ #[t,t'] o.type #[v,u]).run P w = .ok v' w') (h:wpList P ops Q rest (a.put o.dst v') w'):wpList P ops Q (o :: rest) a w:=
 wpList_plain hgd fun _ hK => wp_append_eq d s t t' ho v u hd hs hr (hK _ _ h)
theorem step_append_eq {w:World} (hg:o.guard = none) (d s:Operand) (t t':TypeId) (ho:o.op = .call { callee:=.builtin .append,args:=#[d,s],argTypes:=#[t,t'] }) (v u:Value) (hd:a.eval d = v) (hs:a.eval s = u) {v':Value} {w':World}
 (hr:(Builtin.append_ #[t,t'] o.type #[v,u]).run P w = .ok v' w') (h:K (a.put o.dst v') w'):if Region.wanted o (yielded ops a.tmps) = true then Oper.wp P o a w K Q else E:=by
 have hw:Region.wanted o (yielded ops a.tmps) = true:=by simp [Region.wanted,hg]
 rw [if_pos hw]
 exact wp_append_eq d s t t' ho v u hd hs hr h
end
theorem cut_lhm (t e:TypeId) (s:Nat) (ht:P.underlying t = some (.slice e)) (hi:(P.info? e).map (·.size) = some s) (A:Option Addr) (n c l h m:Nat) (h1:l ≤ h) (h2:h ≤ m) (h3:m ≤ c) :
 ∃ v:Value,∀ W:World,(Instr.slice t (.slice A n c) (some (.int .i64 l)) (some (.int .i64 h)) (some (.int .i64 m))).run P W = .ok v W:=by
 obtain ⟨i,hi1,hi2⟩:=Option.map_eq_some_iff.1 hi
 have hel:P.elem t = e:=by simp [Program.elem,ht]
 have hu:P.underlying t = some (.slice (P.elem t)):=by rw [hel]; exact ht
 refine ⟨.slice (if m = l then A else A.map (·.add (l * s))) (h - l) (m - l),fun W => ?_⟩
 rw [run_slice_lhm W t A n c hu .i64 .i64 .i64 (l:Int) (h:Int) (m:Int) (Int.natCast_nonneg _) (by omega) (by omega) (by omega),hel]
 simp [sizeOf,typeInfo,hi1,hi2,sliced,Result.andThen]
theorem cut_lo (t e:TypeId) (s:Nat) (ht:P.underlying t = some (.slice e)) (hi:(P.info? e).map (·.size) = some s) (A:Option Addr) (n c l n' c':Nat) (hl:l ≤ n) (hn:n' = n - l) (hc:c' = c - l) :
 ∃ A':Option Addr,A' = (if c = l then A else A.map (·.add (l * s))) ∧ ∀ W:World,(Instr.slice t (.slice A n c) (some (.int .i64 l)) none none).run P W = .ok (.slice A' n' c') W:=by
 subst hn hc
 refine ⟨_,rfl,fun W => ?_⟩
 obtain ⟨i,hi1,hi2⟩:=Option.map_eq_some_iff.1 hi
 have hel:P.elem t = e:=by simp [Program.elem,ht]
 have hu:P.underlying t = some (.slice (P.elem t)):=by rw [hel]; exact ht
 rw [run_slice_l W t A n c hu .i64 (l:Int) (Int.natCast_nonneg _) (by omega),hel]
 simp [sizeOf,typeInfo,hi1,hi2,sliced,Result.andThen]
theorem cut_hi (t e:TypeId) (s:Nat) (ht:P.underlying t = some (.slice e)) (hi:(P.info? e).map (·.size) = some s) (A:Option Addr) (n c h:Nat) (hh:h ≤ c) :
 ∀ W:World,(Instr.slice t (.slice A n c) none (some (.int .i64 h)) none).run P W = .ok (.slice A h c) W:=by
 intro W
 obtain ⟨i,hi1,hi2⟩:=Option.map_eq_some_iff.1 hi
 have hel:P.elem t = e:=by simp [Program.elem,ht]
 have hu:P.underlying t = some (.slice (P.elem t)):=by rw [hel]; exact ht
 rw [run_slice_h W t A n c hu .i64 (h:Int) (Int.natCast_nonneg _) (by omega),hel]
 have e0:(A.map fun x => x.add 0) = A:=by cases A <;> rfl
 simp [sizeOf,typeInfo,hi1,sliced,Result.andThen,e0]
theorem cut_lh (t e:TypeId) (s:Nat) (ht:P.underlying t = some (.slice e)) (hi:(P.info? e).map (·.size) = some s) (A:Option Addr) (n c l h n' c':Nat) (hl:l ≤ h) (hh:h ≤ c) (hn:n' = h - l) (hc:c' = c - l) :
 ∃ A':Option Addr,A' = (if c = l then A else A.map (·.add (l * s))) ∧ ∀ W:World,(Instr.slice t (.slice A n c) (some (.int .i64 l)) (some (.int .i64 h)) none).run P W = .ok (.slice A' n' c') W:=by
 subst hn hc
 refine ⟨_,rfl,fun W => ?_⟩
 obtain ⟨i,hi1,hi2⟩:=Option.map_eq_some_iff.1 hi
 have hel:P.elem t = e:=by simp [Program.elem,ht]
 have hu:P.underlying t = some (.slice (P.elem t)):=by rw [hel]; exact ht
 rw [run_slice_lh W t A n c hu .i64 .i64 (l:Int) (h:Int) (Int.natCast_nonneg _) (by omega) (by omega),hel]
 simp [sizeOf,typeInfo,hi1,hi2,sliced,Result.andThen]
end
theorem rm_info:(Tryz.prog.info? 71).map (fun i => (i.zero,i.size,i.bytes)) = some (some (.agg #[.string ⟨#[]⟩,.string ⟨#[]⟩,.int .i64 0,.int .i64 0,.int .i64 0]),5,56):=by kernel_rfl
theorem rm_size:(Tryz.prog.info? 71).map (·.size) = some 5:=by kernel_rfl
theorem rm_zero (w:World):(zeroValue 71).run Tryz.prog w = .ok (.agg #[.string ⟨#[]⟩,.string ⟨#[]⟩,.int .i64 0,.int .i64 0,.int .i64 0]) w:=by
 obtain ⟨i0,hi,hzz⟩:=Option.map_eq_some_iff.1 rm_info
 simp only [Prod.mk.injEq] at hzz
 simp [zeroValue,typeInfo,hi,hzz.1]
def zc:List Value:=[.string ⟨#[]⟩,.string ⟨#[]⟩,.int .i64 0,.int .i64 0,.int .i64 0]
theorem zc_eq:(Builtin.zeroCells (Value.agg #[.string ⟨#[]⟩,.string ⟨#[]⟩,.int .i64 0,.int .i64 0,.int .i64 0]).cells 1).toList = zc:=by
 simp [Builtin.zeroCells,Value.cells,zc]
 try rfl
theorem add_at (g o j:Nat):(⟨g,o,none⟩:Addr).add j = ⟨g,o + j,none⟩:=by unfold Addr.add; split <;> simp_all
set_option maxHeartbeats 4000000 in
set_option maxRecDepth 100000 in
theorem delete (base g c i j N N1:Nat) (cs:List Value) (w:World) (h:w.ownsRow base 71 5 (.slice (some ⟨g,0,none⟩) N c) N cs) (h1:∀ u ∈ cs,u.oneCell' = true) (hj:j = i + 1) (hN:N = N1 + 1) (hi:i < N) :
 Calls Tryz.prog 133 #[.slice (some ⟨g,0,none⟩) N c,.int .i64 i,.int .i64 j] w fun e w' => e = .returned (.slice (some ⟨g,0,none⟩) N1 c) ∧ w'.ownsRow base 71 5 (.slice (some ⟨g,0,none⟩) N1 c) N1 (cs.take (i * 5) ++ cs.drop (j * 5)) ∧ Upd (fun k => k = g) w w':=by
 obtain ⟨hlen,h2⟩:=h
 obtain ⟨g',cap,cur,hv,hbg,hg,hnc,hcm,hcs,htake⟩:∃ g' cap cur,Value.slice (some ⟨g,0,none⟩) N c = .slice (some ⟨g',0,none⟩) N cap ∧ base ≤ g' ∧ Blk w g' 71 cur ∧ N ≤ cap ∧ cap ≤ maxLen ∧ cur.size = cap * 5 ∧ cur.toList.take (N * 5) = cs:=by
  rcases h2 with ⟨h3,h4⟩ | ⟨g',cap,cur,h3,h4,h5,h6,h7,h8,h9⟩
  · omega
  · exact ⟨g',cap,cur,h3,h4,h5,h6,h7,h8,h9⟩
 injection hv with hv1 hv2 hv3
 injection hv1 with hv1
 injection hv1 with hv1
 subst hv1 hv3
 simp only [maxLen] at hcm
 obtain ⟨i0,hi0,hzz⟩:=Option.map_eq_some_iff.1 rm_info
 simp only [Prod.mk.injEq] at hzz
 obtain ⟨z0,z1,z2⟩:=hzz
 obtain ⟨v0,hS0⟩:=cut_lhm (P:=Tryz.prog) 80 71 5 Tryz.underlying80 rm_size (some ⟨g,0,none⟩) N c i j N (by omega) (by omega) hnc
 have hS1:=cut_hi (P:=Tryz.prog) 80 71 5 Tryz.underlying80 rm_size (some ⟨g,0,none⟩) N c i (by omega)
 obtain ⟨m,hm⟩:∃ m,m = N - j:=⟨_,rfl⟩
 obtain ⟨c2,hc2⟩:∃ c2,c2 = c - j:=⟨_,rfl⟩
 obtain ⟨A2,hA2,hS2⟩:=cut_lo (P:=Tryz.prog) 80 71 5 Tryz.underlying80 rm_size (some ⟨g,0,none⟩) N c j m c2 (by omega) hm hc2
 obtain ⟨c3,hc3⟩:∃ c3,c3 = c - N1:=⟨_,rfl⟩
 obtain ⟨A3,hA3,hS3⟩:=cut_lh (P:=Tryz.prog) 80 71 5 Tryz.underlying80 rm_size (some ⟨g,0,none⟩) N1 c N1 N 1 c3 (by omega) hnc (by omega) hc3
 rw [if_neg (by omega)] at hA3
 have hA3':A3 = some ⟨g,N1 * 5,none⟩:=by rw [hA3]; simp [add_at]
 subst hA3'
 clear hA3
 obtain ⟨ad2,hA2',hsrc⟩:∃ ad2,A2 = some ad2 ∧ ∀ k u,(cs.drop (j * 5))[k]? = some u → w.drew.cell? (ad2.add k) = some u:=by
  rw [hA2]
  by_cases hcj:c = j
  · rw [if_pos hcj]
    refine ⟨_,rfl,fun k u hu => ?_⟩
    rw [List.drop_of_length_le (by rw [hlen]; omega)] at hu
    simp at hu
  · rw [if_neg hcj]
    refine ⟨_,rfl,fun k u hu => ?_⟩
    show w.cell? (((⟨g,0,none⟩:Addr).add (j * 5)).add k) = some u
    rw [add_at,Nat.zero_add,add_at,hg.cell]
    rw [List.getElem?_drop,← htake,List.getElem?_take] at hu
    split at hu
    · rw [Array.getElem?_toList] at hu
      exact hu
    · cases hu
 subst hA2'
 clear hA2
 have hnl:(cs.drop (j * 5)).length = m * 5:=by rw [List.length_drop,hlen,hm,Nat.sub_mul]
 have hcl5:cur.toList.length = c * 5:=by rw [Array.length_toList,hcs]
 have him:i + m = N1:=by omega
 have hap:∀ ty,(Builtin.append_ #[80,80] ty #[.slice (some ⟨g,0,none⟩) i c,.slice (some ad2) m c2]).run Tryz.prog w.drew = .ok (.slice (some ⟨g,0,none⟩) N1 c) (w.drew.setRow g (lay cur.toList (i * 5) (cs.drop (j * 5)))):=fun ty => by
  have hr:=run_append_room (P:=Tryz.prog) w.drew 80 ty 71 i0 Tryz.underlying80 hi0 g i c cur hg ad2 m c2 (cs.drop (j * 5)) (by rw [z1]; exact hnl) hsrc (fun u hu => h1 u (List.mem_of_mem_drop hu)) (by omega) (by rw [z1,hnl,hcs]; omega)
  rw [z1,him] at hr
  exact hr
 obtain ⟨cur1,hcur1⟩:∃ cur1,cur1 = lay cur.toList (i * 5) (cs.drop (j * 5)):=⟨_,rfl⟩
 rw [← hcur1] at hap
 have hs1:cur1.size = c * 5:=by rw [hcur1,lay_size (by rw [hnl,hcl5]; omega),hcl5]
 obtain ⟨w1,hw1⟩:∃ w1,w1 = w.drew.setRow g cur1:=⟨_,rfl⟩
 rw [← hw1] at hap
 have hb1:Blk w1 g 71 cur1:=by rw [hw1]; exact Blk.row (Blk.drew hg) cur1
 have hu1:Upd (fun k => k = g) w w1:=by
  rw [hw1]
  exact ((Upd.refl (fun k => k = g) w).drew).trans (Upd.setRow g cur1) fun _ _ h => h
 have hcl:∀ ty,(Builtin.clear_ #[80] ty #[.slice (some ⟨g,N1 * 5,none⟩) 1 c3]).run Tryz.prog w1 = .ok (.tuple #[]) (w1.setRow g (lay cur1.toList (N1 * 5) zc)):=fun ty =>
  run_clear_rows (P:=Tryz.prog) w1 80 71 ty _ zc Tryz.underlying80 rm_zero 1 zc_eq (by intro u hu; simp only [zc,List.mem_cons,List.not_mem_nil,or_false] at hu; rcases hu with rfl | rfl | rfl | rfl | rfl <;> rfl) g (N1 * 5) c3 cur1 71 hb1 (by omega) (by rw [hs1]; simp only [zc,List.length_cons,List.length_nil]; omega)
 have HE:Hid ((w1.setRow g (lay cur1.toList (N1 * 5) zc)).ownsRow base 71 5 (.slice (some ⟨g,0,none⟩) N1 c) N1 (cs.take (i * 5) ++ cs.drop (j * 5)) ∧ Upd (fun k => k = g) w (w1.setRow g (lay cur1.toList (N1 * 5) zc))):=hid (by
  have hl1:cur1.toList.length = c * 5:=by rw [Array.length_toList,hs1]
  refine ⟨⟨?_,.inr ⟨g,c,_,rfl,hbg,Blk.row hb1 _,by omega,by simp only [maxLen]; omega,?_,?_⟩⟩,hu1.trans (Upd.setRow g _) fun _ _ h => h⟩
  · rw [List.length_append,hnl,List.length_take,hlen]; omega
  · rw [lay_size (by rw [hl1]; simp only [zc,List.length_cons,List.length_nil]; omega),hl1]
  · rw [lay_low (by rw [hl1]; simp only [zc,List.length_cons,List.length_nil]; omega) (Nat.le_refl _),hcur1,lay_take (by rw [hnl,hcl5]; omega) (by rw [hnl]; omega)]
    have e1:(cur.toList.take (N1 * 5)).drop (i * 5 + (cs.drop (j * 5)).length) = []:=List.drop_of_length_le (by rw [hnl,List.length_take]; omega)
    rw [e1,List.append_nil]
    congr 1
    rw [← htake,List.take_take,Nat.min_eq_left (by omega)])
 have hne:((i:Int) == (j:Int)) = false:=by
  rw [beq_eq_false_iff_ne]
  omega
 have HN:=hid hN
 clear hsrc hnl hcl5 him hcur1 hs1 hw1 hb1 hu1 htake hg hlen h1 h2 hm hc2 hc3 hj hN
 go_enter Tryz.func133,Tryz.ntmps133
 go_wp2
 go_region_law ((refine step_append_eq (by rfl) (.tmp 22) (.tmp 25) 80 80 (by rfl) (.slice (some ⟨g,0,none⟩) i c) (.slice (some ad2) m c2) (by rfl) (by rfl) (hap _) ?_))
 all_goals
  go_wp2
  go_ret
  exact ⟨rfl,HE.out.1,HE.out.2⟩
end Go.Proofs.YtclfmpieapbfnaaGreatDoor.Nd
end
section
namespace Go.Proofs.YtclfmpieapbfnaaGreatDoor.Nd
open Go.RowKit B
def InsOut (base N2:Nat) (v:Value) (cs:List Value) (w:World) (e:Ending) (w':World):Prop:=
 ∃ A1 c1,e = .returned (.slice A1 N2 c1) ∧ w'.ownsRow base 71 5 (.slice A1 N2 c1) N2 cs ∧ Upd (fun k => v.ownBlock = some k) w w' ∧ ∀ k,(Value.slice A1 N2 c1).ownBlock = some k → v.ownBlock = some k ∨ w.heap.size ≤ k
theorem InsOut.of {base N2:Nat} {v:Value} {cs:List Value} {w:World} {e:Ending} {w':World} (h:∃ A1 c1,e = .returned (.slice A1 N2 c1) ∧ w'.ownsRow base 71 5 (.slice A1 N2 c1) N2 cs ∧ Upd (fun k => v.ownBlock = some k) w w' ∧ ∀ k,(Value.slice A1 N2 c1).ownBlock = some k → v.ownBlock = some k ∨ w.heap.size ≤ k):InsOut base N2 v cs w e w':=h
theorem rd_blk {w:World} {g:Nat} {t:TypeId} {cs:Array Value} (h:Blk w g t cs):∀ j u,cs.toList[j]? = some u → w.cell? ((⟨g,0,none⟩:Addr).add j) = some u:=fun j u hu => by
 rw [add_at,Nat.zero_add,h.cell]
 simpa using hu
set_option maxHeartbeats 1000000 in
set_option maxRecDepth 100000 in
theorem insert_end (base N N2 c vb:Nat) (A:Option Addr) (cs:List Value) (x:Array Value) (w:World) (h:w.ownsRow base 71 5 (.slice A N c) N cs) (hN2:N2 = N + 1) (hs:N2 ≤ 1000)
 (hx:Blk w vb 71 x) (hxl:x.size = 5) (hx1:∀ u ∈ x.toList,u.oneCell' = true) (hbase:base ≤ w.heap.size) :
 Calls Tryz.prog 202 #[.slice A N c,.int .i64 N,.slice (some ⟨vb,0,none⟩) 1 1] w fun e w' => InsOut base N2 (.slice A N c) (cs ++ x.toList) w e w':=by
 obtain ⟨_,_,hsv,hnc,hcm⟩:=own_shape h
 simp only [Value.slice.injEq,true_and] at hsv
 obtain ⟨rfl,rfl⟩:=hsv
 simp only [maxLen] at hcm
 obtain ⟨n0,hn0⟩:∃ n0,n0 = N - N:=⟨_,rfl⟩
 obtain ⟨c0,hc0⟩:∃ c0,c0 = c - N:=⟨_,rfl⟩
 obtain ⟨A0,hA0,hS⟩:=cut_lo (P:=Tryz.prog) 80 71 5 Tryz.underlying80 rm_size A N c N n0 c0 (Nat.le_refl _) hn0 hc0
 have HO:=hid h
 have hrd:Rd w 5 (some ⟨vb,0,none⟩) 1 x.toList:=⟨by rw [Array.length_toList,hxl],fun _ => ⟨_,rfl,rd_blk hx⟩⟩
 have HR:=hid hrd
 have HX:=hid hx1
 have HB:=hid hbase
 have h63:N + 1 ≤ 9223372036854775807:=by omega
 have h47:(N + 1) * 56 ≤ 140737488355328:=by omega
 have HN:=hid hN2
 clear hA0 h hrd hx1 hn0 hc0 hx hxl hbase hN2 hs
 go_enter Tryz.func202,Tryz.ntmps202
 go_wp2_with (at_builtin; go_must (refine ap_row base rfl (.tmp 23) (.tmp 24) 80 71 (.agg #[.string ⟨#[]⟩,.string ⟨#[]⟩,.int .i64 0,.int .i64 0,.int .i64 0]) 5 56 rfl Tryz.underlying80 rm_info rfl (by omega) (.slice A N c) N cs (some ⟨vb,0,none⟩) 1 1 x.toList rfl rfl HO.out HR.out HX.out h63 h47 HB.out ?_); intro A1 c1 w1 ho1 hg1 hat1)
 have HE:Hid (InsOut base N2 (.slice A N c) (cs ++ x.toList) w (.returned (.slice A1 (N + 1) c1)) w1):=hid (.of (by
  rw [HN.out]
  exact ⟨A1,c1,rfl,ho1,(Upd.refl _ _).grown hg1 fun k hk => .inl hk,hat1⟩))
 clear ho1 hg1 hat1
 go_ret
 exact HE.out
theorem own_parts {w:World} {base e size N c:Nat} {A:Option Addr} {cs:List Value} (h:w.ownsRow base e size (.slice A N c) N cs) (h0:0 < N) :
 ∃ g cur,A = some ⟨g,0,none⟩ ∧ base ≤ g ∧ Blk w g e cur ∧ N ≤ c ∧ c ≤ maxLen ∧ cur.size = c * size ∧ cur.toList.take (N * size) = cs ∧ cs.length = N * size:=by
 obtain ⟨hl,h2⟩:=h
 rcases h2 with ⟨h3,h4⟩ | ⟨g',cap,cur,h3,h4,h5,h6,h7,h8,h9⟩
 · omega
 · injection h3 with e1 e2 e3
   subst e3
   exact ⟨g',cur,e1,h4,h5,h6,h7,h8,h9,hl⟩
theorem own_of_cur {w:World} {base e size N c g:Nat} {cur:Array Value} (hb:Blk w g e cur) (hg:base ≤ g) (hn:N ≤ c) (hc:c ≤ maxLen) (hs:cur.size = c * size):w.ownsRow base e size (.slice (some ⟨g,0,none⟩) N c) N (cur.toList.take (N * size)):=
 ⟨by rw [List.length_take,Array.length_toList,hs]; exact Nat.min_eq_left (Nat.mul_le_mul_right _ hn),.inr ⟨g,c,cur,rfl,hg,hb,hn,hc,hs,rfl⟩⟩
set_option maxHeartbeats 1000000 in
set_option maxRecDepth 100000 in
theorem insert_shift (base N N2 c i g vb:Nat) (cs:List Value) (x:Array Value) (w:World) (h:w.ownsRow base 71 5 (.slice (some ⟨g,0,none⟩) N c) N cs) (h1:∀ u ∈ cs,u.oneCell' = true) (hN2:N2 = N + 1) (hs:N2 ≤ 1000) (hi:i < N) (hroom:N2 ≤ c)
 (hx:Blk w vb 71 x) (hxl:x.size = 5) (hx1:∀ u ∈ x.toList,u.oneCell' = true) (hne:vb ≠ g) :
 Calls Tryz.prog 202 #[.slice (some ⟨g,0,none⟩) N c,.int .i64 i,.slice (some ⟨vb,0,none⟩) 1 1] w fun e w' => InsOut base N2 (.slice (some ⟨g,0,none⟩) N c) (cs.take (i * 5) ++ x.toList ++ cs.drop (i * 5)) w e w':=by
 obtain ⟨g',cur,hA,hbg,hg,hnc,hcm,hcs,htake,hlen⟩:=own_parts h (by omega)
 obtain rfl:g = g':=by injection hA with hA; injection hA
 have hcm2:=hcm
 simp only [maxLen] at hcm2
 obtain ⟨j,hj⟩:∃ j,j = i + 1:=⟨_,rfl⟩
 obtain ⟨m,hm⟩:∃ m,m = N - i:=⟨_,rfl⟩
 obtain ⟨m2,hm2⟩:∃ m2,m2 = N2 - i:=⟨_,rfl⟩
 obtain ⟨ci,hci⟩:∃ ci,ci = c - i:=⟨_,rfl⟩
 obtain ⟨cj,hcj⟩:∃ cj,cj = c - j:=⟨_,rfl⟩
 obtain ⟨A0,hA0,hS0⟩:=cut_lo (P:=Tryz.prog) 80 71 5 Tryz.underlying80 rm_size (some ⟨g,0,none⟩) N c i m ci (by omega) hm hci
 have hS1:=cut_hi (P:=Tryz.prog) 80 71 5 Tryz.underlying80 rm_size (some ⟨g,0,none⟩) N c N2 (by omega)
 obtain ⟨A2,hA2,hS2⟩:=cut_lo (P:=Tryz.prog) 80 71 5 Tryz.underlying80 rm_size (some ⟨g,0,none⟩) N2 c j m cj (by omega) (by omega) hcj
 obtain ⟨A3,hA3,hS3⟩:=cut_lo (P:=Tryz.prog) 80 71 5 Tryz.underlying80 rm_size (some ⟨g,0,none⟩) N2 c i m2 ci (by omega) hm2 hci
 rw [if_neg (by omega)] at hA2 hA3
 have hA2':A2 = some ⟨g,j * 5,none⟩:=by rw [hA2]; simp [add_at]
 have hA3':A3 = some ⟨g,i * 5,none⟩:=by rw [hA3]; simp [add_at]
 subst hA2' hA3'
 have hov:(callFunc 254 #[.slice (some ⟨vb,0,none⟩) 1 1,.slice (some ⟨g,j * 5,none⟩) m cj]).run Tryz.prog w = .ok (.value (.bool false)) w:=by
  have hsa:w.shape? vb = some (71,5):=by
   have:=hx
   unfold Blk at this
   simp [World.shape?,this,hxl]
  have hsb:w.shape? g = some (71,c * 5):=by
   have:=hg
   unfold Blk at this
   simp [World.shape?,this,hcs]
  have hsz:∀ w,(Go.sizeOf 71).run Tryz.prog w = .ok 5 w:=fun w => by
   obtain ⟨i0,hi0,hzz⟩:=Option.map_eq_some_iff.1 rm_size
   simp [sizeOf,typeInfo,hi0,hzz]
  rw [run_callFunc_extern Tryz.func254 (by kernel_rfl) (by kernel_rfl) (by kernel_rfl) (e:=Extern.SlicesOverlaps.overlaps #[80,80] #[4]) (by kernel_rfl),
   Lib.run_overlaps_apart w 80 4 71 Tryz.underlying80 5 hsz ⟨vb,0,none⟩ ⟨g,j * 5,none⟩ 1 1 m cj hne 71 71 5 (c * 5) hsa hsb (by omega) (hx.free 0) (hx.free 5)]
  rfl
 have hcl5:cur.toList.length = c * 5:=by rw [Array.length_toList,hcs]
 have hdl:(cs.drop (i * 5)).length = m * 5:=by rw [List.length_drop,hlen,hm,Nat.sub_mul]
 have hsrc:∀ k u,(cs.drop (i * 5))[k]? = some u → w.cell? ((⟨g,i * 5,none⟩:Addr).add k) = some u:=fun k u hu => by
  rw [add_at,hg.cell]
  rw [List.getElem?_drop,← htake,List.getElem?_take] at hu
  split at hu
  · rw [Array.getElem?_toList] at hu
    exact hu
  · cases hu
 have hcp1:∀ ty,(Builtin.copy_ #[80,80] ty #[.slice (some ⟨g,j * 5,none⟩) m cj,.slice (some ⟨g,i * 5,none⟩) m2 ci]).run Tryz.prog w.drew = .ok (goInt m) (w.drew.setRow g (lay cur.toList (j * 5) (cs.drop (i * 5)))):=fun ty =>
  run_copy_rows (P:=Tryz.prog) w.drew 80 80 ty 71 5 g (j * 5) m cj ⟨g,i * 5,none⟩ m2 ci m cur 71 _ Tryz.underlying80 rm_size hg (show m = min m2 m by omega) hdl hsrc (by rw [hdl,hcs]; omega) (fun u hu => h1 u (List.mem_of_mem_drop hu))
 obtain ⟨cur1,hcur1⟩:∃ cur1,cur1 = lay cur.toList (j * 5) (cs.drop (i * 5)):=⟨_,rfl⟩
 rw [← hcur1] at hcp1
 have hs1:cur1.size = c * 5:=by rw [hcur1,lay_size (by rw [hdl,hcl5]; omega),hcl5]
 have hl1:cur1.toList.length = c * 5:=by rw [Array.length_toList,hs1]
 obtain ⟨w1,hw1⟩:∃ w1,w1 = w.drew.setRow g cur1:=⟨_,rfl⟩
 rw [← hw1] at hcp1
 have hb1:Blk w1 g 71 cur1:=by rw [hw1]; exact Blk.row (Blk.drew hg) cur1
 have hu1:Upd (fun k => k = g) w w1:=by
  rw [hw1]
  exact ((Upd.refl (fun k => k = g) w).drew).trans (Upd.setRow g cur1) fun _ _ h => h
 have hx2:Blk w1 vb 71 x:=hx.upd hu1 hne
 have hcp2:∀ ty,(Builtin.copy_ #[80,80] ty #[.slice (some ⟨g,i * 5,none⟩) m2 ci,.slice (some ⟨vb,0,none⟩) 1 1]).run Tryz.prog w1 = .ok (goInt 1) (w1.setRow g (lay cur1.toList (i * 5) x.toList)):=fun ty =>
  run_copy_rows (P:=Tryz.prog) w1 80 80 ty 71 5 g (i * 5) m2 ci ⟨vb,0,none⟩ 1 1 1 cur1 71 _ Tryz.underlying80 rm_size hb1 (show 1 = min 1 m2 by omega) (by rw [Array.length_toList,hxl]) (rd_blk hx2) (by rw [Array.length_toList,hxl,hs1]; omega) hx1
 have HE:Hid (InsOut base N2 (.slice (some ⟨g,0,none⟩) N c) (cs.take (i * 5) ++ x.toList ++ cs.drop (i * 5)) w (.returned (.slice (some ⟨g,0,none⟩) N2 c)) (w1.setRow g (lay cur1.toList (i * 5) x.toList))):=hid (.of (by
  have hxl2:x.toList.length = 5:=by rw [Array.length_toList,hxl]
  have ho:=own_of_cur (N:=N2) (base:=base) (c:=c) (size:=5) (Blk.row hb1 (lay cur1.toList (i * 5) x.toList)) hbg hroom hcm (by rw [lay_size (by rw [hxl2,hl1]; omega),hl1])
  have e1:(lay cur1.toList (i * 5) x.toList).toList.take (N2 * 5) = cs.take (i * 5) ++ x.toList ++ cs.drop (i * 5):=by
   rw [lay_take (by rw [hxl2,hl1]; omega) (by rw [hxl2]; omega),hcur1,lay_low (by rw [hdl,hcl5]; omega) (by omega),lay_take (by rw [hdl,hcl5]; omega) (by rw [hdl]; omega)]
   have e2:cur.toList.take (i * 5) = cs.take (i * 5):=by rw [← htake,List.take_take,Nat.min_eq_left (by omega)]
   have e3:(cur.toList.take (N2 * 5)).drop (j * 5 + (cs.drop (i * 5)).length) = []:=List.drop_of_length_le (by rw [hdl,List.length_take]; omega)
   rw [e2,e3,List.append_nil,hxl2,List.drop_append,List.drop_of_length_le (by rw [List.length_take]; omega),List.length_take,hcl5,List.nil_append]
   congr 1
   have e4:i * 5 + 5 - min (j * 5) (c * 5) = 0:=by omega
   rw [e4,List.drop_zero]
  rw [e1] at ho
  exact ⟨_,_,rfl,ho,(hu1.trans (Upd.setRow g _) fun _ _ h => h).mono fun k _ hk => by rw [hk]; rfl,fun k hk => .inl hk⟩))
 have hne1:((i:Int) == (N:Int)) = false:=by rw [beq_eq_false_iff_ne]; omega
 have hNp:(N:Int) + 1 = (N2:Int):=by omega
 have hip:(i:Int) + 1 = (j:Int):=by omega
 have hrm:¬ (c:Int) < (N2:Int):=by omega
 clear hA0 hA2 hA3 hcl5 hdl hsrc hcur1 hs1 hl1 hw1 hb1 hu1 hx2 htake hlen hg hx hxl hx1 h h1 hm hm2 hci hcj hcs hj hN2
 go_enter Tryz.func202,Tryz.ntmps202
 go_wp2_with (simp only [hov])
 have hwj:IntKind.i64.wrap (j:Int) = (j:Int):=IntWalk.i64_in _ (by omega)
 refine wp_region_held_drew (S:=fun _ => True) (by kernel_rfl) trivial (fun hS => ?_)
 refine zt 0 hS ?_
 refine zt 1 hS ?_
 refine zt 2 hS ?_
 refine zh 3 hS (fun w hw => hwj) ?_
 refine zh 4 hS (fun w hw => hS2 w) ?_
 refine zt 5 hS ?_
 refine zt 6 hS ?_
 refine zh 7 hS (fun w hw => hS3 w) ?_
 refine zk 8 (fun K hK => ?_)
 refine wp_copy_eq (.tmp 73) (.tmp 76) 80 80 (by rfl) (.slice (some ⟨g,j * 5,none⟩) m cj) (.slice (some ⟨g,i * 5,none⟩) m2 ci) (by rfl) (by rfl) (hcp1 _) ?_
 refine hK.out _ _ (trivial) (fun hS => ?_)
 clear hK K
 try simp only [Act.put,zA,zB,zC]
 refine wpAnyH_done (by kernel_rfl) ?_ _
 go_wp2_with (at_builtin; refine wpList_copy_eq rfl (.tmp 80) (.tmp 81) 80 80 rfl (.slice (some ⟨g,i * 5,none⟩) m2 ci) (.slice (some ⟨vb,0,none⟩) 1 1) rfl rfl (hcp2 _) ?_)
 go_ret
 exact HE.out
set_option maxHeartbeats 2000000 in
set_option maxRecDepth 100000 in
theorem insert_grow (base N N2 c i g vb:Nat) (cs:List Value) (x:Array Value) (w:World) (h:w.ownsRow base 71 5 (.slice (some ⟨g,0,none⟩) N c) N cs) (h1:∀ u ∈ cs,u.oneCell' = true) (hN2:N2 = N + 1) (hs:N2 ≤ 1000) (hi:i < N) (hroom:c < N2)
 (hx:Blk w vb 71 x) (hxl:x.size = 5) (hx1:∀ u ∈ x.toList,u.oneCell' = true) (hbase:base ≤ w.heap.size) :
 Calls Tryz.prog 202 #[.slice (some ⟨g,0,none⟩) N c,.int .i64 i,.slice (some ⟨vb,0,none⟩) 1 1] w fun e w' => InsOut base N2 (.slice (some ⟨g,0,none⟩) N c) (cs.take (i * 5) ++ x.toList ++ cs.drop (i * 5)) w e w':=by
 obtain ⟨g',cur,hA,hbg,hg,hnc,hcm,hcs,htake,hlen⟩:=own_parts h (by omega)
 obtain rfl:g = g':=by injection hA with hA; injection hA
 have hcm2:=hcm
 simp only [maxLen] at hcm2
 obtain ⟨i0,hi0,hzz⟩:=Option.map_eq_some_iff.1 rm_info
 simp only [Prod.mk.injEq] at hzz
 obtain ⟨z0,z1,z2⟩:=hzz
 obtain ⟨j,hj⟩:∃ j,j = i + 1:=⟨_,rfl⟩
 obtain ⟨m,hm⟩:∃ m,m = N - i:=⟨_,rfl⟩
 obtain ⟨k,hk⟩:∃ k,k = N2 - i:=⟨_,rfl⟩
 obtain ⟨ci,hci⟩:∃ ci,ci = c - i:=⟨_,rfl⟩
 obtain ⟨G,hG⟩:∃ G,G = grownCap w N2 c 71:=⟨_,rfl⟩
 have hG1:N2 ≤ G:=by rw [hG]; exact grownCap_ge w _ _ _
 have hG2:G ≤ maxLen:=by rw [hG]; exact grownCap_le_maxLen w N2 c _ (by simp only [maxLen]; omega)
 have hG3:=hG2
 simp only [maxLen] at hG3
 obtain ⟨Gi,hGi⟩:∃ Gi,Gi = G - i:=⟨_,rfl⟩
 obtain ⟨Gj,hGj⟩:∃ Gj,Gj = G - j:=⟨_,rfl⟩
 obtain ⟨H,hH⟩:∃ H,H = w.heap.size:=⟨_,rfl⟩
 have hgl:=hg.lt
 obtain ⟨A0,hA0,hS0⟩:=cut_lo (P:=Tryz.prog) 80 71 5 Tryz.underlying80 rm_size (some ⟨g,0,none⟩) N c i m ci (by omega) hm hci
 rw [if_neg (by omega)] at hA0
 have hA0':A0 = some ⟨g,i * 5,none⟩:=by rw [hA0]; simp [add_at]
 subst hA0'
 have hS1:=cut_hi (P:=Tryz.prog) 80 71 5 Tryz.underlying80 rm_size (some ⟨g,0,none⟩) N c i (by omega)
 obtain ⟨A2,hA2,hS2⟩:=cut_lo (P:=Tryz.prog) 80 71 5 Tryz.underlying80 rm_size (some ⟨H,0,none⟩) N2 G j m Gj (by omega) (by omega) hGj
 obtain ⟨A3,hA3,hS3⟩:=cut_lo (P:=Tryz.prog) 80 71 5 Tryz.underlying80 rm_size (some ⟨H,0,none⟩) N2 G i k Gi (by omega) hk hGi
 rw [if_neg (by omega)] at hA2 hA3
 have hA2':A2 = some ⟨H,j * 5,none⟩:=by rw [hA2]; simp [add_at]
 have hA3':A3 = some ⟨H,i * 5,none⟩:=by rw [hA3]; simp [add_at]
 subst hA2' hA3'
 have hcl5:cur.toList.length = c * 5:=by rw [Array.length_toList,hcs]
 have hdl:(cs.drop (i * 5)).length = m * 5:=by rw [List.length_drop,hlen,hm,Nat.sub_mul]
 have htl:(cs.take (i * 5)).length = i * 5:=by rw [List.length_take,hlen]; omega
 have hold:(Builtin.firstCells i0.size i (.slice (some ⟨g,0,none⟩) i c)).run Tryz.prog w.drew = .ok (cs.take (i * 5)).toArray w.drew:=by
  rw [z1]
  exact run_firstCells_some w.drew 5 i ⟨g,0,none⟩ i c (cs.take (i * 5)) htl (fun t u hu => by
   show w.cell? _ = some u
   rw [add_at,Nat.zero_add,hg.cell]
   rw [List.getElem?_take] at hu
   split at hu
   · rw [← htake,List.getElem?_take] at hu
     split at hu
     · rw [Array.getElem?_toList] at hu
       exact hu
     · cases hu
   · cases hu)
 have hik:i + k = N2:=by omega
 obtain ⟨row,hrow⟩:∃ row:Array Value,row = (cs.take (i * 5)).toArray ++ Builtin.zeroCells (Value.agg #[.string ⟨#[]⟩,.string ⟨#[]⟩,.int .i64 0,.int .i64 0,.int .i64 0]).cells k ++ Builtin.zeroCells (Value.agg #[.string ⟨#[]⟩,.string ⟨#[]⟩,.int .i64 0,.int .i64 0,.int .i64 0]).cells (G - N2):=⟨_,rfl⟩
 have hap:∀ ty,(Builtin.append_ #[80,3] ty #[.slice (some ⟨g,0,none⟩) i c,.int .i64 k]).run Tryz.prog w = .ok (.slice (some ⟨H,0,none⟩) N2 G) (w.drew.alloc (.cells row 71)):=fun ty => by
  have hr:=Lib.run_append_grow_zeros (P:=Tryz.prog) w 80 3 ty 71 i0 _ .i64 .i64 Tryz.underlying80 Tryz.underlying3 hi0 z0 (some ⟨g,0,none⟩) i c (cs.take (i * 5)) hold k (by omega) (by omega) (by omega) (by omega) (by rw [z2]; omega) (by rw [z2,hik]; exact growslice_fits hroom (by omega))
  rw [hik,← hG,← hrow,← hH] at hr
  exact hr
 have hrs:row.size = G * 5:=by
  rw [hrow]
  have z5:(Value.agg #[.string ⟨#[]⟩,.string ⟨#[]⟩,.int .i64 0,.int .i64 0,.int .i64 0]).cells.size = 5:=rfl
  rw [Array.size_append,Array.size_append,Go.size_zeroCells,Go.size_zeroCells,z5,List.size_toArray,htl]
  omega
 obtain ⟨w1,hw1⟩:∃ w1,w1 = w.drew.alloc (.cells row 71):=⟨_,rfl⟩
 rw [← hw1] at hap
 have hb1:Blk w1 H 71 row:=by
  rw [hw1,hH]
  exact Blk.fresh w.drew _ _
 have hu1:Upd No w w1:=by rw [hw1]; exact ((Upd.refl No w).drew).alloc _
 have hrl:row.toList.length = G * 5:=by rw [Array.length_toList,hrs]
 have hx2:Blk w1 vb 71 x:=hx.upd hu1 (no_ _)
 have hcp1:∀ ty,(Builtin.copy_ #[80,80] ty #[.slice (some ⟨H,i * 5,none⟩) k Gi,.slice (some ⟨vb,0,none⟩) 1 1]).run Tryz.prog w1 = .ok (goInt 1) (w1.setRow H (lay row.toList (i * 5) x.toList)):=fun ty =>
  run_copy_rows (P:=Tryz.prog) w1 80 80 ty 71 5 H (i * 5) k Gi ⟨vb,0,none⟩ 1 1 1 row 71 _ Tryz.underlying80 rm_size hb1 (show 1 = min 1 k by omega) (by rw [Array.length_toList,hxl]) (rd_blk hx2) (by rw [Array.length_toList,hxl,hrs]; omega) hx1
 have hxl2:x.toList.length = 5:=by rw [Array.length_toList,hxl]
 obtain ⟨row2,hrow2⟩:∃ row2,row2 = lay row.toList (i * 5) x.toList:=⟨_,rfl⟩
 rw [← hrow2] at hcp1
 have hrs2:row2.size = G * 5:=by rw [hrow2,lay_size (by rw [hxl2,hrl]; omega),hrl]
 have hrl2:row2.toList.length = G * 5:=by rw [Array.length_toList,hrs2]
 obtain ⟨w2,hw2⟩:∃ w2,w2 = w1.setRow H row2:=⟨_,rfl⟩
 rw [← hw2] at hcp1
 have hb2:Blk w2 H 71 row2:=by rw [hw2]; exact Blk.row hb1 row2
 have hu2:Upd (fun k => k = H) w1 w2:=by rw [hw2]; exact Upd.setRow H row2
 have hg2:Blk w2 g 71 cur:=(hg.upd hu1 (no_ _)).upd hu2 (by omega)
 have hsrc:∀ t u,(cs.drop (i * 5))[t]? = some u → w2.drew.cell? ((⟨g,i * 5,none⟩:Addr).add t) = some u:=fun t u hu => by
  show w2.cell? _ = some u
  rw [add_at,hg2.cell]
  rw [List.getElem?_drop,← htake,List.getElem?_take] at hu
  split at hu
  · rw [Array.getElem?_toList] at hu
    exact hu
  · cases hu
 have hcp2:∀ ty,(Builtin.copy_ #[80,80] ty #[.slice (some ⟨H,j * 5,none⟩) m Gj,.slice (some ⟨g,i * 5,none⟩) m ci]).run Tryz.prog w2.drew = .ok (goInt m) (w2.drew.setRow H (lay row2.toList (j * 5) (cs.drop (i * 5)))):=fun ty =>
  run_copy_rows (P:=Tryz.prog) w2.drew 80 80 ty 71 5 H (j * 5) m Gj ⟨g,i * 5,none⟩ m ci m row2 71 _ Tryz.underlying80 rm_size (Blk.drew hb2) (show m = min m m by omega) hdl hsrc (by rw [hdl,hrs2]; omega) (fun u hu => h1 u (List.mem_of_mem_drop hu))
 have HE:Hid (InsOut base N2 (.slice (some ⟨g,0,none⟩) N c) (cs.take (i * 5) ++ x.toList ++ cs.drop (i * 5)) w (.returned (.slice (some ⟨H,0,none⟩) N2 G)) (w2.drew.setRow H (lay row2.toList (j * 5) (cs.drop (i * 5))))):=hid (.of (by
  have ho:=own_of_cur (N:=N2) (base:=base) (c:=G) (size:=5) (Blk.row (Blk.drew hb2) (lay row2.toList (j * 5) (cs.drop (i * 5)))) (by omega) hG1 hG2 (by rw [lay_size (by rw [hdl,hrl2]; omega),hrl2])
  have e1:(lay row2.toList (j * 5) (cs.drop (i * 5))).toList.take (N2 * 5) = cs.take (i * 5) ++ x.toList ++ cs.drop (i * 5):=by
   have e3:(row2.toList.take (N2 * 5)).drop (j * 5 + (cs.drop (i * 5)).length) = []:=List.drop_of_length_le (by rw [hdl,List.length_take]; omega)
   rw [lay_take (by rw [hdl,hrl2]; omega) (by rw [hdl]; omega),e3,List.append_nil,hrow2,lay_take (by rw [hxl2,hrl]; omega) (by rw [hxl2]; omega)]
   have e4:(row.toList.take (j * 5)).drop (i * 5 + x.toList.length) = []:=List.drop_of_length_le (by rw [hxl2,List.length_take]; omega)
   have e5:row.toList.take (i * 5) = cs.take (i * 5):=by
    rw [hrow]
    simp only [Array.toList_append,List.append_assoc]
    rw [List.take_append_of_le_length (by rw [htl]; exact Nat.le_refl _),List.take_of_length_le (by rw [htl]; exact Nat.le_refl _)]
   rw [e4,e5,List.append_nil]
  rw [e1] at ho
  refine ⟨_,_,rfl,ho,?_,fun t ht => ?_⟩
  · have hu3:Upd (fun k => k = H) w2 (w2.drew.setRow H (lay row2.toList (j * 5) (cs.drop (i * 5)))):=((Upd.refl _ w2).drew).trans (Upd.setRow H _) fun _ _ h => h
    exact ((hu1.mono fun _ _ h => h.elim).trans hu2 fun t ht e => absurd ht (by omega)).trans hu3 fun t ht e => absurd ht (by omega)
  · right
    have:H = t:=by simpa [Value.ownBlock] using ht
    omega))
 have hne1:((i:Int) == (N:Int)) = false:=by rw [beq_eq_false_iff_ne]; omega
 have hNp:(N:Int) + 1 = (N2:Int):=by omega
 have hip:(i:Int) + 1 = (j:Int):=by omega
 have hkp:(N2:Int) - (i:Int) = (k:Int):=by omega
 have hrm:(c:Int) < (N2:Int):=by omega
 have hwj:IntKind.i64.wrap (j:Int) = (j:Int):=IntWalk.i64_in _ (by omega)
 clear hA0 hA2 hA3 hcl5 hdl htl hold hsrc hrs hrl hrs2 hrl2 hw1 hw2 hb1 hb2 hu1 hu2 hg2 hx2 htake hlen hg hx hxl hx1 h h1 hm hk hci hcs hj hN2 hG hG1 hG2 hGi hGj hH hgl hxl2 hrow hrow2 hik z0 z1 z2 hi0
 go_enter Tryz.func202,Tryz.ntmps202
 go_wp2_with (first
  | (at_builtin; refine wpList_append_eq rfl (.tmp 34) (.tmp 39) 80 3 rfl (.slice (some ⟨g,0,none⟩) i c) (.int .i64 k) rfl rfl (hap _) ?_)
  | (at_builtin; refine wpList_copy_eq rfl (.tmp 43) (.tmp 44) 80 80 rfl (.slice (some ⟨H,i * 5,none⟩) k Gi) (.slice (some ⟨vb,0,none⟩) 1 1) rfl rfl (hcp1 _) ?_))
 refine wp_region_held_drew (S:=fun _ => True) (by kernel_rfl) trivial (fun hS => ?_)
 refine zt 0 hS ?_
 refine zt 1 hS ?_
 refine zt 2 hS ?_
 refine zh 3 hS (fun w hw => hwj) ?_
 refine zh 4 hS (fun w hw => hS2 w) ?_
 refine zt 5 hS ?_
 refine zt 6 hS ?_
 refine zh 7 hS (fun w hw => hS0 w) ?_
 refine zk 8 (fun K hK => ?_)
 refine wp_copy_eq (.tmp 50) (.tmp 53) 80 80 (by rfl) (.slice (some ⟨H,j * 5,none⟩) m Gj) (.slice (some ⟨g,i * 5,none⟩) m ci) (by rfl) (by rfl) (hcp2 _) ?_
 refine hK.out _ _ (trivial) (fun hS => ?_)
 clear hK K
 try simp only [Act.put,zA,zB,zC]
 refine wpAnyH_done (by kernel_rfl) ?_ _
 go_wp2
 go_ret
 exact HE.out
theorem insert (base N N2 c i vb:Nat) (A:Option Addr) (cs:List Value) (x:Array Value) (w:World) (h:w.ownsRow base 71 5 (.slice A N c) N cs) (h1:∀ u ∈ cs,u.oneCell' = true) (hN2:N2 = N + 1) (hs:N2 ≤ 1000) (hi:i ≤ N)
 (hx:Blk w vb 71 x) (hxl:x.size = 5) (hx1:∀ u ∈ x.toList,u.oneCell' = true) (hne:(Value.slice A N c).ownBlock ≠ some vb) (hbase:base ≤ w.heap.size) :
 Calls Tryz.prog 202 #[.slice A N c,.int .i64 i,.slice (some ⟨vb,0,none⟩) 1 1] w fun e w' => InsOut base N2 (.slice A N c) (cs.take (i * 5) ++ x.toList ++ cs.drop (i * 5)) w e w':=by
 rcases Nat.lt_or_ge i N with h2 | h2
 · obtain ⟨g',cur,hA,_⟩:=own_parts h (by omega)
   subst hA
   rcases Nat.lt_or_ge c N2 with h3 | h3
   · exact insert_grow base N N2 c i g' vb cs x w h h1 hN2 hs h2 h3 hx hxl hx1 hbase
   · exact insert_shift base N N2 c i g' vb cs x w h h1 hN2 hs h2 h3 hx hxl hx1 (fun e => hne (by rw [e]; rfl))
 · obtain rfl:i = N:=by omega
   have e1:cs.take (i * 5) = cs:=List.take_of_length_le (by rw [h.1]; exact Nat.le_refl _)
   have e2:cs.drop (i * 5) = []:=List.drop_of_length_le (by rw [h.1]; exact Nat.le_refl _)
   rw [e1,e2,List.append_nil]
   exact insert_end base i N2 c vb A cs x w h hN2 hs hx hxl hx1 hbase
end Go.Proofs.YtclfmpieapbfnaaGreatDoor.Nd
end
