/- Part 12: lemmas, no conditions. -/
import Derived.Test.YtclfmpieapbfnaaGreatDoorZ08
import Derived.Test.YtclfmpieapbfnaaGreatDoorZ09
import Derived.Lib.SliceRun
import Derived.Test.YtclfmpieapbfnaaGreatDoorProg
set_option maxHeartbeats 2000000
namespace Go.Proofs.YtclfmpieapbfnaaGreatDoor
set_option linter.unusedVariables false
set_option linter.unusedSimpArgs false
section
namespace Df
open Go.RowKit B
section
variable {α:Type} {q:α → Bool} {xs:List α} {r:Int}
def IxR (q:α → Bool) (xs:List α) (r:Int):Prop:=
 (r = -1 ∧ ∀ x ∈ xs,q x = false) ∨ ∃ (j:Nat) (hj:j < xs.length),r = (j:Int) ∧ q xs[j] = true ∧ ∀ i (hi:i < xs.length),i < j → q xs[i] = false
theorem IxR.ex (q:α → Bool):∀ xs:List α,∃ r,IxR q xs r
 | [] => ⟨-1,.inl ⟨rfl,fun x hx => by cases hx⟩⟩
 | x :: xs => by
  by_cases hx:q x = true
  · exact ⟨0,.inr ⟨0,by simp,rfl,hx,fun i hi h => by omega⟩⟩
  · obtain ⟨r,hr | ⟨j,hj,h1,h2,h3⟩⟩:=IxR.ex q xs
    · refine ⟨-1,.inl ⟨rfl,fun y hy => ?_⟩⟩
      rcases List.mem_cons.1 hy with rfl | hy
      · simpa using hx
      · exact hr.2 y hy
    · refine ⟨((j + 1:Nat):Int),.inr ⟨j + 1,by simpa using hj,rfl,by simpa using h2,fun i hi hij => ?_⟩⟩
      match i,hi,hij with
      | 0,_,_ => simpa using hx
      | i + 1,hi,hij => simpa using h3 i (by simpa using hi) (by omega)
theorem IxR.at_ (h:IxR q xs r) {j:Nat} (hj:j < xs.length) (hq:q xs[j] = true) (hb:∀ i (hi:i < xs.length),i < j → q xs[i] = false):r = (j:Int):=by
 rcases h with ⟨_,h⟩ | ⟨k,hk,rfl,h1,h2⟩
 · rw [h _ (List.getElem_mem hj)] at hq
   cases hq
 · rcases Nat.lt_trichotomy k j with h | h | h
   · rw [hb k hk h] at h1
     cases h1
   · rw [h]
   · rw [h2 j hj h] at hq
     cases hq
theorem IxR.end_ (h:IxR q xs r) (hb:∀ i (hi:i < xs.length),i < xs.length → q xs[i] = false):r = -1:=by
 rcases h with ⟨h,_⟩ | ⟨k,hk,rfl,h1,h2⟩
 · exact h
 · rw [hb k hk hk] at h1
   cases h1
theorem IxR.any (h:IxR q xs r):(0 ≤ r ↔ xs.any q = true):=by
 rcases h with ⟨rfl,h⟩ | ⟨k,hk,rfl,h1,h2⟩
 · refine ⟨fun h => by omega,fun h' => ?_⟩
   obtain ⟨x,hx,hq⟩:=List.any_eq_true.1 h'
   rw [h x hx] at hq
   cases hq
 · exact ⟨fun _ => List.any_eq_true.2 ⟨_,List.getElem_mem hk,h1⟩,fun _ => by omega⟩
theorem IxR.pos (h:IxR q xs r) (hn:r ≠ -1):∃ j:Nat,r = (j:Int) ∧ ∃ hj:j < xs.length,q xs[j] = true ∧ ∀ i (hi:i < xs.length),i < j → q xs[i] = false:=by
 rcases h with ⟨h,_⟩ | ⟨k,hk,rfl,h1,h2⟩
 · exact absurd h hn
 · exact ⟨k,rfl,hk,h1,h2⟩
structure Dl (q:α → Bool) (enc:α → Value) (xs:List α) (off i j:Nat) (cur:Array Value):Prop where
 len:i = ((xs.take j).filter fun x => !q x).length
 lo:∀ t (ht:t < ((xs.take j).filter fun x => !q x).length),cur[off + t]? = some (enc (((xs.take j).filter fun x => !q x)[t]))
 hi:∀ t (ht:t < xs.length),j ≤ t → cur[off + t]? = some (enc xs[t])
 lt:i < j
 room:off + xs.length ≤ cur.size
variable {enc:α → Value} {off i j:Nat} {cur:Array Value}
theorem Dl.start (hj:j < xs.length) (hq:q xs[j] = true) (hb:∀ i (hi:i < xs.length),i < j → q xs[i] = false) (hc:∀ t (ht:t < xs.length),cur[off + t]? = some (enc xs[t])) (hr:off + xs.length ≤ cur.size):Dl q enc xs off j (j + 1) cur:=by
 have h1:(xs.take j).filter (fun x => !q x) = xs.take j:=by
  rw [List.filter_eq_self]
  intro x hx
  obtain ⟨i,hi,rfl⟩:=List.getElem_of_mem hx
  rw [List.length_take] at hi
  rw [List.getElem_take,hb i (by omega) (by omega)]
  rfl
 have h2:(xs.take (j + 1)).filter (fun x => !q x) = xs.take j:=by
  rw [List.take_succ_eq_append_getElem hj,List.filter_append,h1]
  simp [hq]
 refine ⟨by rw [h2,List.length_take]; omega,fun t ht => ?_,fun t ht _ => hc t ht,by omega,hr⟩
 have ht':=ht
 rw [h2,List.length_take] at ht'
 rw [hc t (by omega)]
 congr 2
 simp only [h2,List.getElem_take]
theorem Dl.skip (h:Dl q enc xs off i j cur) (hj:j < xs.length) (hq:q xs[j] = true):Dl q enc xs off i (j + 1) cur:=by
 have h2:(xs.take (j + 1)).filter (fun x => !q x) = (xs.take j).filter (fun x => !q x):=by
  rw [List.take_succ_eq_append_getElem hj,List.filter_append]
  simp [hq]
 have hlt:=h.lt
 refine ⟨by rw [h2]; exact h.len,fun t ht => ?_,fun t ht htj => h.hi t ht (by omega),by omega,h.room⟩
 have ht':=ht
 rw [h2] at ht'
 rw [h.lo t ht']
 congr 2
 simp only [h2]
theorem Dl.keep (h:Dl q enc xs off i j cur) (hj:j < xs.length) (hq:q xs[j] = false):Dl q enc xs off (i + 1) (j + 1) (cur.setIfInBounds (off + i) (enc xs[j])):=by
 have h2:(xs.take (j + 1)).filter (fun x => !q x) = (xs.take j).filter (fun x => !q x) ++ [xs[j]]:=by
  rw [List.take_succ_eq_append_getElem hj,List.filter_append]
  simp [hq]
 have hlt:=h.lt
 have hl:=h.len
 have hr:=h.room
 refine ⟨by rw [h2]; simp; omega,fun t ht => ?_,fun t ht htj => ?_,by omega,by simpa using hr⟩
 · have ht':=ht
   rw [h2,List.length_append,List.length_singleton] at ht'
   rw [Array.getElem?_setIfInBounds]
   by_cases he:i = t
   · rw [if_pos (by omega),if_pos (by omega)]
     subst he
     congr 2
     simp only [h2]
     rw [List.getElem_append_right (by omega)]
     simp
   · rw [if_neg (by omega),h.lo t (by omega)]
     congr 2
     simp only [h2]
     rw [List.getElem_append_left (by omega)]
 · rw [Array.getElem?_setIfInBounds,if_neg (by omega)]
   exact h.hi t ht (by omega)
end
end Df
end
section
namespace Jn
open Go.RowKit B
abbrev Ev:=Int × Int
def ec (e:Ev):List Value:=[.int .i64 e.1,.int .i64 e.2]
def ecs (es:List Ev):List Value:=es.flatMap ec
def EvOk (e:Ev):Prop:=0 ≤ e.1 ∧ e.1 ≤ 7
def st1 (b:List Int) (e:Ev):List Int:=b.set e.1.toNat e.2
def sts (b:List Int) (es:List Ev):List Int:=es.foldl st1 b
theorem sts_length (es:List Ev):∀ b:List Int,(sts b es).length = b.length:=by
 induction es with
 | nil => exact fun _ => rfl
 | cons e r ih => intro b; rw [show sts b (e :: r) = sts (st1 b e) r from rfl,ih,st1,List.length_set]
theorem sts_snoc (b:List Int) (es:List Ev) (e:Ev):sts b (es ++ [e]) = st1 (sts b es) e:=by simp [sts]
theorem sts_append (b:List Int) (es fs:List Ev):sts b (es ++ fs) = sts (sts b es) fs:=by simp [sts]
theorem ecs_append (ps qs:List Ev):ecs (ps ++ qs) = ecs ps ++ ecs qs:=by simp [ecs]
theorem ecs_get (ps:List Ev):∀ j (h:j < ps.length),(ecs ps)[j * 2]? = some (.int .i64 ps[j].1) ∧ (ecs ps)[j * 2 + 1]? = some (.int .i64 ps[j].2):=by
 induction ps with
 | nil => intro j h; simp at h
 | cons e r ih =>
  intro j h
  match j,h with
  | 0,_ => exact ⟨rfl,rfl⟩
  | j + 1,h =>
   have:=ih j (by simpa using h)
   have e1:∀ k,(ecs (e :: r))[k + 2]? = (ecs r)[k]?:=fun k => rfl
   rw [show (j + 1) * 2 = j * 2 + 2 from by omega,show j * 2 + 2 + 1 = j * 2 + 1 + 2 from by omega,e1,e1]
   simpa using this
theorem ecs_drop (ps:List Ev) (k:Nat):(ecs ps).drop (k * 2) = ecs (ps.drop k):=by
 induction k generalizing ps with
 | zero => simp
 | succ k ih =>
  cases ps with
  | nil => simp [ecs]
  | cons e r =>
   rw [show (k + 1) * 2 = k * 2 + 2 from by omega]
   have:ecs (e :: r) = .int .i64 e.1 :: .int .i64 e.2 :: ecs r:=rfl
   rw [this,List.drop_succ_cons,List.drop_succ_cons,ih]
   rfl
theorem ecs_one (es:List Ev):∀ u ∈ ecs es,u.oneCell' = true:=by
 intro u hu
 simp only [ecs,List.mem_flatMap] at hu
 obtain ⟨e,_,h⟩:=hu
 simp only [ec,List.mem_cons,List.not_mem_nil,or_false] at h
 rcases h with rfl | rfl <;> rfl
def arr (b:List Int):Array Value:=#[.int .i64 (gi b 0),.int .i64 (gi b 1),.int .i64 (gi b 2),.int .i64 (gi b 3),.int .i64 (gi b 4),.int .i64 (gi b 5),.int .i64 (gi b 6),.int .i64 (gi b 7)]
def jc (b:List Int) (v:Value) (n:Int):Array Value:=#[.int .i64 (gi b 0),.int .i64 (gi b 1),.int .i64 (gi b 2),.int .i64 (gi b 3),.int .i64 (gi b 4),.int .i64 (gi b 5),.int .i64 (gi b 6),.int .i64 (gi b 7),v,.int .u64 n]
theorem gi_set (b:List Int) (i j:Nat) (x:Int) (hb:b.length = 8) (hi:i < 8):gi (b.set i x) j = if i = j then x else gi b j:=by
 unfold gi
 rw [List.getD_eq_getElem?_getD,List.getD_eq_getElem?_getD,List.getElem?_set]
 by_cases h:i = j
 · subst h
   rw [if_pos rfl,if_pos rfl,if_pos (by omega)]
   rfl
 · rw [if_neg h,if_neg h]
theorem lt8 {P:Nat → Prop} (h0:P 0) (h1:P 1) (h2:P 2) (h3:P 3) (h4:P 4) (h5:P 5) (h6:P 6) (h7:P 7):∀ i,i < 8 → P i:=by
 intro i hi
 match i,hi with
 | 0,_ => exact h0
 | 1,_ => exact h1
 | 2,_ => exact h2
 | 3,_ => exact h3
 | 4,_ => exact h4
 | 5,_ => exact h5
 | 6,_ => exact h6
 | 7,_ => exact h7
theorem jc_get (b:List Int) (v:Value) (n:Int):∀ i,i < 8 → (jc b v n)[i]? = some (.int .i64 (gi b i)):=lt8 rfl rfl rfl rfl rfl rfl rfl rfl
theorem arr_get (b:List Int):∀ i,i < 8 → (arr b)[i]? = some (.int .i64 (gi b i)):=lt8 rfl rfl rfl rfl rfl rfl rfl rfl
theorem jc_set (b:List Int) (v:Value) (n x:Int) (hb:b.length = 8):∀ i,i < 8 → (jc b v n).setIfInBounds i (.int .i64 x) = jc (b.set i x) v n:=by
 have g:=fun i j hi => gi_set b i j x hb hi
 refine lt8 ?_ ?_ ?_ ?_ ?_ ?_ ?_ ?_ <;> (unfold jc; simp [g])
theorem arr_set (b:List Int) (x:Int) (hb:b.length = 8):∀ i,i < 8 → (arr b).setIfInBounds i (.int .i64 x) = arr (b.set i x):=by
 have g:=fun i j hi => gi_set b i j x hb hi
 refine lt8 ?_ ?_ ?_ ?_ ?_ ?_ ?_ ?_ <;> (unfold arr; simp [g])
theorem box2 {w:World} {g:Nat} {t:TypeId} {a b:Value} (h:Blk w g t #[a,b]):w.cell? ⟨g,0,none⟩ = some a ∧ w.cell? ⟨g,1,none⟩ = some b:=⟨by simpa using h.cell 0,by simpa using h.cell 1⟩
section
variable {w w':World} {F G:Nat → Prop} {p:Nat} {t:TypeId} {b:List Int} {v:Value} {n:Int}
theorem jbox (h:Blk w p t (jc b v n)):(w.cell? ⟨p,0,none⟩ = some (.int .i64 (gi b 0)) ∧ w.cell? ⟨p,1,none⟩ = some (.int .i64 (gi b 1)) ∧ w.cell? ⟨p,2,none⟩ = some (.int .i64 (gi b 2)) ∧ w.cell? ⟨p,3,none⟩ = some (.int .i64 (gi b 3)) ∧
 w.cell? ⟨p,4,none⟩ = some (.int .i64 (gi b 4)) ∧ w.cell? ⟨p,5,none⟩ = some (.int .i64 (gi b 5)) ∧ w.cell? ⟨p,6,none⟩ = some (.int .i64 (gi b 6)) ∧ w.cell? ⟨p,7,none⟩ = some (.int .i64 (gi b 7))) ∧ w.cell? ⟨p,8,none⟩ = some v ∧ w.cell? ⟨p,9,none⟩ = some (.int .u64 n):=
 ⟨⟨h.cell 0,h.cell 1,h.cell 2,h.cell 3,h.cell 4,h.cell 5,h.cell 6,h.cell 7⟩,h.cell 8,h.cell 9⟩
theorem abox (h:Blk w p t (arr b)):w.cell? ⟨p,0,none⟩ = some (.int .i64 (gi b 0)) ∧ w.cell? ⟨p,1,none⟩ = some (.int .i64 (gi b 1)) ∧ w.cell? ⟨p,2,none⟩ = some (.int .i64 (gi b 2)) ∧ w.cell? ⟨p,3,none⟩ = some (.int .i64 (gi b 3)) ∧
 w.cell? ⟨p,4,none⟩ = some (.int .i64 (gi b 4)) ∧ w.cell? ⟨p,5,none⟩ = some (.int .i64 (gi b 5)) ∧ w.cell? ⟨p,6,none⟩ = some (.int .i64 (gi b 6)) ∧ w.cell? ⟨p,7,none⟩ = some (.int .i64 (gi b 7)):=
 ⟨h.cell 0,h.cell 1,h.cell 2,h.cell 3,h.cell 4,h.cell 5,h.cell 6,h.cell 7⟩
theorem jput (h:Blk w p t (jc b v n)) (hb:b.length = 8) {i:Nat} (hi:i < 8) (x:Int):Blk (w.setCell ⟨p,i,none⟩ (.int .i64 x)) p t (jc (b.set i x) v n):=by
 have:=h.put i (.int .i64 x)
 rwa [jc_set b v n x hb i hi] at this
theorem jput8 (h:Blk w p t (jc b v n)) (u:Value):Blk (w.setCell ⟨p,8,none⟩ u) p t (jc b u n):=h.put 8 u
theorem jput9 (h:Blk w p t (jc b v n)) (m:Int):Blk (w.setCell ⟨p,9,none⟩ (.int .u64 m)) p t (jc b v m):=h.put 9 (.int .u64 m)
theorem aput (h:Blk w p t (arr b)) (hb:b.length = 8) {i:Nat} (hi:i < 8) (x:Int):Blk (w.setCell ⟨p,i,none⟩ (.int .i64 x)) p t (arr (b.set i x)):=by
 have:=h.put i (.int .i64 x)
 rwa [arr_set b x hb i hi] at this
end
theorem ev_at {w:World} {t:TypeId} {A:Option Addr} {c:Nat} {es:List Ev} (h:Sl w 0 t 2 (.slice A es.length c) es.length (ecs es)) {j:Nat} (hj:j < es.length) :
 ∃ g off,A = some ⟨g,off,none⟩ ∧ w.cell? ⟨g,off + j * 2,none⟩ = some (.int .i64 es[j].1) ∧ w.cell? ⟨g,off + j * 2 + 1,none⟩ = some (.int .i64 es[j].2) ∧ g < w.heap.size:=by
 rcases h.2 with ⟨_,h⟩ | ⟨g,off,cap,cur,hv,_,hh,_,_,_,hc⟩
 · omega
 · simp only [Value.slice.injEq,true_and] at hv
   obtain ⟨rfl,rfl⟩:=hv
   obtain ⟨h1,h2⟩:=ecs_get es j hj
   exact ⟨g,off,rfl,by rw [hh.cell]; exact hc _ _ h1,by rw [hh.cell,Nat.add_assoc]; exact hc _ _ h2,hh.lt⟩
theorem clone_info:(Tryz.prog.info? 160).map (fun i => (i.zero,i.size,i.bytes)) = some (some (.agg #[.int .i64 0,.int .i64 0]),2,16):=by kernel_rfl
theorem clone (A:Option Addr) (n c:Nat) (xs:List Value) (w:World) (hr:Rd w 2 A n xs) (h1:∀ u ∈ xs,u.oneCell' = true) (hn:n * 16 ≤ 140737488355328) :
 Calls Tryz.prog 253 #[.slice A n c] w fun e w' => ∃ A' c',e = .returned (.slice A' n c') ∧ w'.ownsRow w.heap.size 160 2 (.slice A' n c') n xs ∧ Upd No w w' ∧ (A = none → A' = none):=by
 have q:∀ (w:World) (a:Option Addr) (n c n' c':Nat),(binOp .eql 156 (.slice a n c) (.slice none n' c')).run Tryz.prog w = .ok (.bool a.isNone) w:=fun w a n c n' c' => Go.Lib.run_eql_slice_nil w _ _ a n c n' c' Tryz.underlying156
 rcases A with _ | ad
 · obtain rfl:n = 0:=by
    rcases Nat.eq_zero_or_pos n with h0 | h0
    · exact h0
    · obtain ⟨ad,h,_⟩:=hr.2 h0
      cases h
   obtain rfl:xs = []:=List.eq_nil_of_length_eq_zero (by simpa using hr.1)
   go_enter Tryz.func253,Tryz.ntmps253
   go_wp2
   go_ret
   exact ⟨none,0,rfl,⟨by simp,.inl ⟨rfl,rfl⟩⟩,Upd.refl _ _,fun _ => rfl⟩
 · go_enter Tryz.func253,Tryz.ntmps253
   go_wp2_with (at_builtin; refine ap_row w.heap.size rfl _ _ 156 160 (.agg #[.int .i64 0,.int .i64 0]) 2 16 rfl Tryz.underlying156 clone_info rfl (by omega) (.slice (some ⟨w.heap.size,0,none⟩) 0 0) 0 [] (some ad) n c xs rfl rfl (World.ownsRow_made w #[] 0 (Nat.le_refl _) (Nat.zero_le _) rfl) (Rd.alloc hr (by omega) _) h1 (by omega) (by omega) (by simp) ?_; intro A1 c1 w1 ho hg hat; rw [Nat.zero_add,List.nil_append] at ho; rw [Nat.zero_add])
   go_wp2
   go_ret
   refine ⟨A1,c1,rfl,ho,?_,fun h => by cases h⟩
   have h5:Upd No w (w.alloc (.cells #[] 160)):=(Upd.refl _ _).alloc _
   exact h5.grown hg fun k hk => by
    have:w.heap.size = k:=by simpa [Value.ownBlock] using hk
    exact .inr (by omega)
abbrev S:=List Int × List Ev × Int
structure Jx (w:World) (F:Nat → Prop) (p:Nat) (s:S) (v:Value):Prop where
 blk:Blk w p 158 (jc s.1 v s.2.2)
 row:Sl w 0 160 2 v s.2.1.length (ecs s.2.1)
 fp:F p
 fv:∀ k,v.ownBlock = some k → F k
 lt:∀ k,F k → k < w.heap.size
def Jd (w:World) (F:Nat → Prop) (p:Nat) (s:S):Prop:=∃ v,Jx w F p s v
structure Ok (s:S):Prop where
 b8:s.1.length = 8
 le:s.2.1.length ≤ 600
 ev:∀ e ∈ s.2.1,EvOk e
section
variable {w w':World} {F H:Nat → Prop} {p:Nat} {s:S} {v:Value}
theorem Jx.upd (h:Jx w F p s v) (hu:Upd H w w') (hn:∀ k,F k → ¬ H k):Jx w' F p s v where
 blk:=h.blk.upd hu (hn _ h.fp)
 row:=h.row.upd hu fun g hg => hn _ (h.fv g hg)
 fp:=h.fp
 fv:=h.fv
 lt:=fun k hk => Nat.lt_of_lt_of_le (h.lt k hk) hu.size
theorem Jd.upd (h:Jd w F p s) (hu:Upd H w w') (hn:∀ k,F k → ¬ H k):Jd w' F p s:=by
 obtain ⟨v,h⟩:=h
 exact ⟨v,h.upd hu hn⟩
theorem Jd.lt (h:Jd w F p s):∀ k,F k → k < w.heap.size:=by
 obtain ⟨v,h⟩:=h
 exact h.lt
theorem Jx.vp (h:Jx w F p s v):∀ k,v.ownBlock = some k → k ≠ p:=fun k hk e => h.row.ne h.blk (by decide) (by rw [hk,e])
theorem Jx.fin {wz:World} {vz:Value} {s':S} (h:Jx w F p s v) (hu:Upd F w wz) (hB:Blk wz p 158 (jc s'.1 vz s'.2.2)) (hO:Sl wz 0 160 2 vz s'.2.1.length (ecs s'.2.1)) (hv:∀ k,vz.ownBlock = some k → F k ∨ w.heap.size ≤ k) :
 ∃ F',Jd wz F' p s' ∧ Mv F F' w wz:=by
 refine ⟨fun k => F k ∨ vz.ownBlock = some k,⟨vz,hB,hO,.inl h.fp,fun k hk => .inr hk,fun k hk => ?_⟩,⟨hu,fun k hk => ?_⟩⟩
 · rcases hk with hk | hk
   · exact Nat.lt_of_lt_of_le (h.lt k hk) hu.size
   · exact (hO.lt k hk).2
 · rcases hk with hk | hk
   · exact .inl hk
   · exact hv k hk
end
theorem cut_upto {P:Program} (t e:TypeId) (s:Nat) (ht:P.underlying t = some (.slice e)) (hi:(P.info? e).map (·.size) = some s) (A:Option Addr) (n c h:Nat) (hh:h ≤ c) :
 ∀ W:World,(Instr.slice t (.slice A n c) none (some (.int .i64 (h:Int))) none).run P W = .ok (.slice A h c) W:=by
 intro W
 obtain ⟨i,hi1,hi2⟩:=Option.map_eq_some_iff.1 hi
 have hel:P.elem t = e:=by simp [Program.elem,ht]
 have hu:P.underlying t = some (.slice (P.elem t)):=by rw [hel]; exact ht
 rw [run_slice_h W t A n c hu .i64 (h:Int) (Int.natCast_nonneg _) (by omega),hel]
 have e0:(A.map fun x => x.add 0) = A:=by cases A <;> rfl
 simp [sizeOf,typeInfo,hi1,hi2,sliced,Result.andThen,e0]
def foldS (s:S) (n:Nat):S:=(sts s.1 (s.2.1.take n),s.2.1.drop n,s.2.2)
def FoldOut (w:World) (F:Nat → Prop) (p:Nat) (s:S) (e:Ending) (w':World):Prop:=e = .returned (.tuple #[]) ∧ ∃ F',Jd w' F' p s ∧ Mv F F' w w'
theorem FoldOut.of {w:World} {F:Nat → Prop} {p:Nat} {s:S} {e:Ending} {w':World} (h:e = .returned (.tuple #[]) ∧ ∃ F',Jd w' F' p s ∧ Mv F F' w w'):FoldOut w F p s e w':=h
theorem fold {w:World} {F:Nat → Prop} {p:Nat} {s:S} (n:Nat) (h:Jd w F p s) (hok:Ok s) (hn:n ≤ s.2.1.length) :
 Calls Tryz.prog 200 #[.pointer (some ⟨p,0,none⟩),.int .i64 n] w fun e w' => FoldOut w F p (foldS s n) e w':=by
 obtain ⟨v,h⟩:=h
 obtain ⟨bs,es,ver⟩:=s
 have hb8:=hok.b8
 have hle:=hok.le
 have HEv:=hid hok.ev
 simp only at hb8 hle hn
 obtain ⟨A,c,hv,hc1,hc2⟩:=h.row.shape
 subst hv
 simp only at hc1
 have hvp:=h.vp
 obtain ⟨_,c8,c9⟩:=jbox h.blk
 simp only at c8 c9
 have hcut:=cut_upto (P:=Tryz.prog) 156 160 2 Tryz.underlying156 (by kernel_rfl) A es.length c n (by omega)
 have HX:=hid h
 have HH:=hid (And.intro h.blk (And.intro h.row (And.intro h.fp hvp)))
 have hn600:n ≤ 600:=by omega
 clear h hvp hok
 go_enter Tryz.func200,Tryz.ntmps200
 go_wp2_with (fail)
 clear hcut c8 c9
 go_loopw [13] (fun v13 W => ∃ j:Nat,j ≤ n ∧ v13 = .int .i64 j ∧ Hid (Blk W p 158 (jc (sts bs (es.take j)) (.slice A es.length c) ver)) ∧ Hid (Upd (fun k => k = p) w W)) (fun v13 _ => n - (intOf v13).toNat)
 case atStart => exact ⟨0,by omega,rfl,hid (by simpa [sts] using HH.out.1),hid (Upd.refl _ _)⟩
 case round =>
  obtain ⟨j,hj,rfl,HB,HU⟩:=hrel
  by_cases hlt:j < n
  · have hje:j < es.length:=by omega
    obtain ⟨g,off,rfl,d0,d1,hgl⟩:=ev_at (HH.out.2.1.upd HU.out fun k hk => HH.out.2.2.2 k hk) hje
    have hev:=HEv.out _ (List.getElem_mem hje)
    have HN:Hid (sts bs (es.take (j + 1)) = st1 (sts bs (es.take j)) es[j] ∧ (sts bs (es.take j)).length = 8):=hid ⟨by rw [List.take_succ_eq_append_getElem hje,sts_snoc],by rw [sts_length,hb8]⟩
    have hj2:(j:Int) < (n:Int):=by omega
    generalize es[j] = e0 at *
    obtain ⟨r,y⟩:=e0
    obtain ⟨r,rfl⟩:∃ t:Nat,r = t:=⟨r.toNat,by have:=hev.1; simp only at this; omega⟩
    have hr8:r < 8:=by have:=hev.2; simp only at this; omega
    have hr8':(r:Int) < 8:=by omega
    simp only [st1,Int.toNat_natCast] at HN
    simp only at d0 d1
    have hpl:=HB.out.lt
    generalize sts bs (es.take j) = b at *
    go_wp2_with (fail)
    have hw2:∃ w2,w2 = wr.alloc (.cells #[.int .i64 (r:Int),.int .i64 y] 160):=⟨_,rfl⟩
    obtain ⟨w2,hw2⟩:=hw2
    have hD:Blk w2 wr.heap.size 160 #[.int .i64 (r:Int),.int .i64 y]:=by rw [hw2]; exact Blk.fresh _ _ _
    have hB2:Blk w2 p 158 (jc b (.slice (some ⟨g,off,none⟩) es.length c) ver):=by rw [hw2]; exact HB.out.alloc _
    have HU2:Hid (Upd (fun k => k = p) w w2):=hid (by rw [hw2]; exact HU.out.alloc _)
    rw [← hw2]
    clear hw2 d0 d1
    have hbr:=jc_get b (.slice (some ⟨g,off,none⟩) es.length c) ver r hr8
    have k0:=hB2.drew.cell r
    have f0:=hB2.drew.free r
    rw [hbr] at k0
    have HE:Hid (Blk (w2.drew.setCell ⟨p,r,none⟩ (.int .i64 y)) p 158 (jc (sts bs (es.take (j + 1))) (.slice (some ⟨g,off,none⟩) es.length c) ver) ∧ Upd (fun k => k = p) w (w2.drew.setCell ⟨p,r,none⟩ (.int .i64 y))):=hid ⟨by rw [HN.out.1]; exact jput hB2.drew HN.out.2 hr8 y,HU2.out.drew.set1 r _⟩
    clear hbr hB2
    refine wp_region_held_drew (S:=fun W => Blk W wr.heap.size 160 #[.int .i64 (r:Int),.int .i64 y]) (by kernel_rfl) hD.drew (fun hS => ?_)
    refine zt 0 hS ?_
    refine zt 1 hS ?_
    refine zh 2 hS (fun w hw => (box2 hw).1) ?_
    refine zt 3 hS ?_
    refine zh 4 hS (fun w hw => (box2 hw).2) ?_
    refine zt 5 hS ?_
    refine zt 6 hS ?_
    refine zt 7 hS ?_
    refine zk 8 (fun K hK => ?_)
    go_simp
    refine hK.out _ _ ((by exact hD.drew.far (by simp; omega) _)) (fun hS => ?_)
    clear hK K
    try simp only [Act.put,zA,zB,zC]
    refine wpAnyH_done (by kernel_rfl) ?_ _
    clear hS k0 f0 hD
    go_wp2
    go_roundw
    case rel => exact ⟨j + 1,by omega,by go_num,hid HE.out.1,hid HE.out.2⟩
    case measure => simp [intOf]; omega
  · obtain rfl:j = n:=by omega
    have hrow:=HH.out.2.1.upd HU.out fun k hk => HH.out.2.2.2 k hk
    obtain ⟨_,c8,c9⟩:=jbox HB.out
    obtain ⟨A5,hA5,hcut⟩:=cut_tail (P:=Tryz.prog) 156 160 .i64 2 Tryz.underlying156 (by kernel_rfl) A es.length c j (j:Int) rfl (by omega)
    have hr5:Rd wr 2 A5 (es.length - j) (ecs (es.drop j)):=by
     have:=Rd.drop (k:=j) (Sl.rd hrow) (by omega) hc1
     rw [ecs_drop] at this
     rw [hA5]
     exact this
    have HC:=hid (clone A5 (es.length - j) (c - j) (ecs (es.drop j)) wr hr5 (ecs_one _) (by omega))
    have HA5:=hid hA5
    clear hrow hr5 hA5
    go_wp2_with (fail)
    refine Calls.mono HC.out ?_
    rintro e w5 ⟨A6,c6,rfl,ho6,hu6,_⟩
    have b5:=HB.out.upd hu6 (no_ _)
    obtain ⟨_,y8,y9⟩:=jbox b5
    have f8:=b5.free 8
    have HE:Hid (∃ F',Jd (w5.setCell ⟨p,8,none⟩ (.slice A6 (es.length - j) c6)) F' p (foldS (bs,es,ver) j) ∧ Mv F F' w (w5.setCell ⟨p,8,none⟩ (.slice A6 (es.length - j) c6))):=by
     have hus:=HU.out.size
     have hpl:=HX.out.lt p HX.out.fp
     refine hid (HX.out.fin (((HU.out.mono fun k _ e => by rw [e]; exact HX.out.fp).next (hu6.mono fun _ _ h => h.elim)).set (p:=⟨p,8,none⟩) (.inl HX.out.fp) _) (jput8 b5 _) ?_ (fun k hk => .inr (by have:=(ho6.lt k hk).1; omega)))
     have hOz:Sl w5 0 160 2 (.slice A6 (es.length - j) c6) (es.length - j) (ecs (es.drop j)):=Sl.of_own (own_base ho6 (Nat.zero_le _))
     have:=hOz.upd ((Upd.refl (fun k => k = p) _).set1 8 (.slice A6 (es.length - j) c6)) fun k hk e => by
      have:=(ho6.lt k hk).1
      omega
     simpa [foldS] using this
    have HO:=hid (And.intro ho6 hu6)
    clear ho6 hu6 c8 c9
    go_wp2
    exact bodyPost_ret (results_none rfl _ _ _) rfl (.of ⟨rfl,HE.out⟩)
end Jn
end
section
namespace Jn
open Go.RowKit B
theorem jboxA {w:World} {p:Nat} {t:TypeId} {b:List Int} {v:Value} {n:Int} (h:Blk w p t (jc b v n)):(∀ o,(w.alloc o).cell? ⟨p,0,none⟩ = some (.int .i64 (gi b 0))) ∧ (∀ o,(w.alloc o).cell? ⟨p,1,none⟩ = some (.int .i64 (gi b 1))) ∧ (∀ o,(w.alloc o).cell? ⟨p,2,none⟩ = some (.int .i64 (gi b 2))) ∧
 (∀ o,(w.alloc o).cell? ⟨p,3,none⟩ = some (.int .i64 (gi b 3))) ∧ (∀ o,(w.alloc o).cell? ⟨p,4,none⟩ = some (.int .i64 (gi b 4))) ∧ (∀ o,(w.alloc o).cell? ⟨p,5,none⟩ = some (.int .i64 (gi b 5))) ∧ (∀ o,(w.alloc o).cell? ⟨p,6,none⟩ = some (.int .i64 (gi b 6))) ∧ (∀ o,(w.alloc o).cell? ⟨p,7,none⟩ = some (.int .i64 (gi b 7))):=
 ⟨fun o => (h.alloc o).cell 0,fun o => (h.alloc o).cell 1,fun o => (h.alloc o).cell 2,fun o => (h.alloc o).cell 3,fun o => (h.alloc o).cell 4,fun o => (h.alloc o).cell 5,fun o => (h.alloc o).cell 6,fun o => (h.alloc o).cell 7⟩
theorem jbox8 {w:World} {p:Nat} {t:TypeId} {b:List Int} {v:Value} {n:Int} (h:Blk w p t (jc b v n)) (o o':Obj):((w.alloc o).alloc o').cell? ⟨p,8,none⟩ = some v:=((h.alloc o).alloc o').cell 8
def put8 (w:World) (g:Nat) (b:List Int):World:=
 (((((((w.setCell ⟨g,0,none⟩ (.int .i64 (gi b 0))).setCell ⟨g,1,none⟩ (.int .i64 (gi b 1))).setCell ⟨g,2,none⟩ (.int .i64 (gi b 2))).setCell ⟨g,3,none⟩ (.int .i64 (gi b 3))).setCell ⟨g,4,none⟩ (.int .i64 (gi b 4))).setCell ⟨g,5,none⟩ (.int .i64 (gi b 5))).setCell ⟨g,6,none⟩ (.int .i64 (gi b 6))).setCell ⟨g,7,none⟩ (.int .i64 (gi b 7))
theorem put8_blk {w:World} {g:Nat} {t:TypeId} {b c:List Int} (h:Blk w g t (arr c)):Blk (put8 w g b) g t (arr b):=by
 have:=(((((((h.put 0 (.int .i64 (gi b 0))).put 1 (.int .i64 (gi b 1))).put 2 (.int .i64 (gi b 2))).put 3 (.int .i64 (gi b 3))).put 4 (.int .i64 (gi b 4))).put 5 (.int .i64 (gi b 5))).put 6 (.int .i64 (gi b 6))).put 7 (.int .i64 (gi b 7))
 unfold put8
 unfold arr at this ⊢
 simpa using this
theorem put8_upd {F:Nat → Prop} {a w:World} {g:Nat} (h:Upd F a w) (hg:F g ∨ a.heap.size ≤ g) (b:List Int):Upd F a (put8 w g b):=
 (((((((h.set (p:=⟨g,0,none⟩) hg _).set (p:=⟨g,1,none⟩) hg _).set (p:=⟨g,2,none⟩) hg _).set (p:=⟨g,3,none⟩) hg _).set (p:=⟨g,4,none⟩) hg _).set (p:=⟨g,5,none⟩) hg _).set (p:=⟨g,6,none⟩) hg _).set (p:=⟨g,7,none⟩) hg _
def s0:S:=([0,0,0,0,0,0,0,0],[],0)
theorem Ok.s0:Ok s0:=⟨rfl,by simp [Jn.s0],fun e he => by simp [Jn.s0] at he⟩
theorem new_ (w:World):Calls Tryz.prog 241 #[] w fun e w' => e = .returned (.pointer (some ⟨w.heap.size,0,none⟩)) ∧ w' = w.alloc (.cells (jc s0.1 (.slice none 0 0) 0) 158):=by
 go_enter Tryz.func241,Tryz.ntmps241
 go_wp2
 go_ret
 exact ⟨rfl,rfl⟩
theorem Jd.new {w:World} {o:Obj} (ho:o = .cells (jc s0.1 (.slice none 0 0) 0) 158):Jd (w.alloc o) (fun k => k = w.heap.size) w.heap.size s0:=by
 subst ho
 exact ⟨.slice none 0 0,Blk.fresh _ _ _,Sl.nil _ _ _ _,rfl,fun k hk => by simp [Value.ownBlock] at hk,fun k hk => by subst hk; simp⟩
theorem version {w:World} {F:Nat → Prop} {p:Nat} {s:S} (h:Jd w F p s) :
 Calls Tryz.prog 190 #[.pointer (some ⟨p,0,none⟩)] w fun e w' => e = .returned (.int .u64 s.2.2) ∧ w = w':=by
 obtain ⟨v,h⟩:=h
 obtain ⟨_,c8,c9⟩:=jbox h.blk
 go_enter Tryz.func190,Tryz.ntmps190
 go_wp2
 go_ret
 exact ⟨rfl,rfl⟩
theorem state {w:World} {F:Nat → Prop} {p:Nat} {s:S} (h:Jd w F p s) (hok:Ok s) :
 Calls Tryz.prog 14 #[.pointer (some ⟨p,0,none⟩)] w fun e w' => e = .returned (.agg (arr (sts s.1 s.2.1))) ∧ Upd No w w':=by
 obtain ⟨v,h⟩:=h
 obtain ⟨bs,es,ver⟩:=s
 obtain ⟨z0,z1,z2,z3,z4,z5,z6,z7⟩:=jboxA h.blk
 simp only at z0 z1 z2 z3 z4 z5 z6 z7
 have z8:=jbox8 h.blk
 have hb8:=hok.b8
 have hle:=hok.le
 have HEv:=hid hok.ev
 simp only at hb8 hle
 obtain ⟨A,c,hv,hc1,hc2⟩:=h.row.shape
 subst hv
 simp only at hc1 z8
 have HX:=hid h
 have hpl:=h.lt p h.fp
 clear h hok
 go_enter Tryz.func14,Tryz.ntmps14
 go_wp2_with (fail)
 have HW0:Hid (∃ (w2:World) (g3:Nat),w2 = (w.alloc (.cells (arr s0.1) 61)).alloc (.cells (arr bs) 61) ∧ g3 = w.heap.size + 1 ∧ Blk w2 w.heap.size 61 (arr s0.1) ∧ Blk w2 g3 61 (arr bs) ∧ Upd No w w2):=
  hid ⟨_,_,rfl,rfl,(Blk.fresh _ _ _).alloc _,by
   have:=Blk.fresh (w.alloc (.cells (arr s0.1) 61)) 61 (arr bs)
   simpa using this,((Upd.refl _ _).alloc _).alloc _⟩
 obtain ⟨w2,g3,hw2,hg3,hA2,hB2,hU2⟩:=HW0.out
 simp only [arr,s0] at hw2
 change _ = ((w.alloc (.cells #[.int .i64 0,.int .i64 0,.int .i64 0,.int .i64 0,.int .i64 0,.int .i64 0,.int .i64 0,.int .i64 0] 61)).alloc _) at hw2
 rw [← hw2,← hg3]
 have HA2:=hid (And.intro hA2 hU2)
 have HB2:=hid hB2
 have hgl:w.heap.size < g3:=by omega
 clear z0 z1 z2 z3 z4 z5 z6 z7 z8 hw2 hg3 hA2 hB2 hU2 HW0
 go_loopw [18] (fun v18 W => ∃ j:Nat,j ≤ es.length ∧ v18 = .int .i64 j ∧ Hid (Blk W g3 61 (arr (sts bs (es.take j)))) ∧ Hid (Blk W w.heap.size 61 (arr s0.1)) ∧ Hid (Upd No w W)) (fun v18 _ => es.length - (intOf v18).toNat)
 case atStart => exact ⟨0,by omega,rfl,hid (by simpa [sts] using HB2.out),hid HA2.out.1,hid HA2.out.2⟩
 case round =>
  obtain ⟨j,hj,rfl,HB,HC,HU⟩:=hrel
  by_cases hje:j < es.length
  · obtain ⟨g,off,rfl,d0,d1,_⟩:=ev_at (HX.out.row.upd HU.out fun _ _ => no_ _) hje
    have hev:=HEv.out _ (List.getElem_mem hje)
    have HN:Hid (sts bs (es.take (j + 1)) = st1 (sts bs (es.take j)) es[j] ∧ (sts bs (es.take j)).length = 8):=hid ⟨by rw [List.take_succ_eq_append_getElem hje,sts_snoc],by rw [sts_length,hb8]⟩
    have hj2:(j:Int) < (es.length:Int):=by omega
    generalize es[j] = e0 at *
    obtain ⟨r,y⟩:=e0
    obtain ⟨r,rfl⟩:∃ t:Nat,r = t:=⟨r.toNat,by have:=hev.1; simp only at this; omega⟩
    have hr8:r < 8:=by have:=hev.2; simp only at this; omega
    have hr8':(r:Int) < 8:=by omega
    simp only [st1,Int.toNat_natCast] at HN
    simp only at d0 d1
    generalize sts bs (es.take j) = b at *
    have hbr:=arr_get b r hr8
    have k0:∀ o,(wr.alloc o).cell? ⟨g3,r,none⟩ = some (.int .i64 (gi b r)):=fun o => by rw [(HB.out.alloc o).cell r,hbr]
    have f0:∀ o,(wr.alloc o).frozen? ⟨g3,r,none⟩ = false:=fun o => (HB.out.alloc o).free r
    have HE:Hid (∀ o,Blk ((wr.alloc o).setCell ⟨g3,r,none⟩ (.int .i64 y)) g3 61 (arr (sts bs (es.take (j + 1)))) ∧ Blk ((wr.alloc o).setCell ⟨g3,r,none⟩ (.int .i64 y)) w.heap.size 61 (arr s0.1) ∧ Upd No w ((wr.alloc o).setCell ⟨g3,r,none⟩ (.int .i64 y))):=hid fun o =>
     ⟨by rw [HN.out.1]; exact aput (HB.out.alloc o) HN.out.2 hr8 y,(HC.out.alloc o).far (by simp; omega) _,(HU.out.alloc o).set (.inr (by simp; omega)) _⟩
    clear hbr
    go_wp2
    go_roundw
    case rel => exact ⟨j + 1,by omega,by go_num,hid (HE.out _).1,hid (HE.out _).2.1,hid (HE.out _).2.2⟩
    case measure => simp [intOf]; omega
  · obtain rfl:j = es.length:=by omega
    have HS:Hid (sts bs (es.take es.length) = sts bs es):=hid (by rw [List.take_length])
    rw [HS.out] at HB
    obtain ⟨b,hb⟩:∃ b,b = sts bs es:=⟨_,rfl⟩
    rw [← hb] at HB
    have HSB:=hid hb
    clear hb HS
    obtain ⟨z0,z1,z2,z3,z4,z5,z6,z7⟩:=abox HB.out
    obtain ⟨y0,y1,y2,y3,y4,y5,y6,y7⟩:=abox HC.out
    have g0:=HC.out.free 0
    have g1:=HC.out.free 1
    have g2:=HC.out.free 2
    have g3':=HC.out.free 3
    have g4:=HC.out.free 4
    have g5:=HC.out.free 5
    have g6:=HC.out.free 6
    have g7:=HC.out.free 7
    have HF:=hid (put8_blk (b:=b) HC.out)
    have HG:=hid (put8_upd HU.out (.inr (Nat.le_refl _)) b)
    go_wp2
    unfold put8 at HF HG
    generalize (((((((wr.setCell ⟨w.heap.size,0,none⟩ (.int .i64 (gi b 0))).setCell ⟨w.heap.size,1,none⟩ (.int .i64 (gi b 1))).setCell ⟨w.heap.size,2,none⟩ (.int .i64 (gi b 2))).setCell ⟨w.heap.size,3,none⟩ (.int .i64 (gi b 3))).setCell ⟨w.heap.size,4,none⟩ (.int .i64 (gi b 4))).setCell ⟨w.heap.size,5,none⟩ (.int .i64 (gi b 5))).setCell ⟨w.heap.size,6,none⟩ (.int .i64 (gi b 6))).setCell ⟨w.heap.size,7,none⟩ (.int .i64 (gi b 7)) = wz at *
    obtain ⟨q0,q1,q2,q3,q4,q5,q6,q7⟩:=abox HF.out
    exact bodyPost_ret (v:=.agg (arr b)) (by simp [results,go_sem,arr,q0,q1,q2,q3,q4,q5,q6,q7]) rfl ⟨by rw [HSB.out],HG.out⟩
end Jn
end
section
namespace Jn
open Go.RowKit B
def bad (e:Ev):Bool:=decide (e.1 < 0) || decide (8 ≤ e.1)
theorem bad_iff (e:Ev):bad e = false ↔ EvOk e:=by
 unfold bad EvOk
 simp
 omega
def addS (s:S) (l:List Ev):Int × S:=if l.any bad then (3,s) else (0,foldS (s.1,s.2.1 ++ l,IntKind.u64.wrap (s.2.2 + l.length)) ((s.2.1 ++ l).length - 16))
theorem add1 (e:Ev) (w:World):Calls Tryz.prog 199 #[.agg #[.int .i64 e.1,.int .i64 e.2]] w fun r w' => r = .returned (.bool (bad e)) ∧ Upd No w w':=by
 obtain ⟨r,y⟩:=e
 have hu:Upd No w (w.alloc (.cells #[.int .i64 r,.int .i64 y] 160)):=(Upd.refl _ _).alloc _
 unfold bad
 simp only
 by_cases h0:r < 0
 · rw [show decide (r < 0) = true from decide_eq_true h0]
   go_enter Tryz.func199,Tryz.ntmps199
   go_wp2
   go_ret
   exact ⟨rfl,hu⟩
 · rw [show decide (r < 0) = false from decide_eq_false h0,Bool.false_or]
   by_cases h8:8 ≤ r
   · rw [show decide (8 ≤ r) = true from decide_eq_true h8]
     go_enter Tryz.func199,Tryz.ntmps199
     go_wp2
     go_ret
     exact ⟨rfl,hu⟩
   · rw [show decide (8 ≤ r) = false from decide_eq_false h8]
     have h8':decide (8 ≤ r) = false:=decide_eq_false h8
     go_enter Tryz.func199,Tryz.ntmps199
     go_wp2
     go_ret
     exact ⟨congrArg (fun z => Ending.returned (.bool z)) (by first | rfl | exact h8'),hu⟩
theorem rd_ev {w:World} {A:Option Addr} {es:List Ev} (h:Rd w 2 A es.length (ecs es)) {j:Nat} (hj:j < es.length) :
 ∃ ad,A = some ad ∧ w.cell? (ad.add (j * 2)) = some (.int .i64 es[j].1) ∧ w.cell? (ad.add (j * 2 + 1)) = some (.int .i64 es[j].2):=by
 obtain ⟨ad,e,hc⟩:=h.2 (by omega)
 obtain ⟨h1,h2⟩:=ecs_get es j hj
 exact ⟨ad,e,hc _ _ h1,hc _ _ h2⟩
theorem add_field (ad:Addr) (m k:Nat) (hk:0 < k):ad.add (m + k) = ⟨(ad.add m).block,(ad.add m).off + k,none⟩:=by
 unfold Addr.add
 by_cases hm:m = 0
 · subst hm; simp; omega
 · simp [hm]; omega
def IdxOut (w:World) (b:Bool) (e:Ending) (w':World):Prop:=∃ r:Int,e = .returned (.int .i64 r) ∧ decide (0 ≤ r) = b ∧ Upd No w w'
theorem IdxOut.of {w:World} {b:Bool} {e:Ending} {w':World} (h:∃ r:Int,e = .returned (.int .i64 r) ∧ decide (0 ≤ r) = b ∧ Upd No w w'):IdxOut w b e w':=h
theorem idx {w:World} {A:Option Addr} {c:Nat} {l:List Ev} (hr:Rd w 2 A l.length (ecs l)) (hl:l.length ≤ 9223372036854775807) :
 Calls Tryz.prog 252 #[.slice A l.length c,.func (.func 199) #[] #[]] w fun e w' => IdxOut w (l.any bad) e w':=by
 go_enter Tryz.func252,Tryz.ntmps252
 go_wp2_with (fail)
 go_loopw [8] (fun v8 W => ∃ j:Nat,j ≤ l.length ∧ v8 = .int .i64 j ∧ Hid (∀ i (hi:i < l.length),i < j → bad l[i] = false) ∧ Hid (Upd No w W)) (fun v8 _ => l.length - (intOf v8).toNat)
 case atStart => exact ⟨0,by omega,rfl,hid fun i _ h => by omega,hid (Upd.refl _ _)⟩
 case round =>
  obtain ⟨j,hj,rfl,hH,HU⟩:=hrel
  by_cases hlt:j < l.length
  · obtain ⟨ad,rfl,d0,d1⟩:=rd_ev (hr.upd (by omega) HU.out fun _ _ => no_ _) hlt
    rw [add_field _ _ _ (by omega)] at d1
    have HN:Hid (bad l[j] = false → ∀ i (hi:i < l.length),i < j + 1 → bad l[i] = false):=hid fun h i hi hij => by
     by_cases h':i < j
     · exact hH.out i hi h'
     · obtain rfl:i = j:=by omega
       exact h
    have HY:Hid (bad l[j] = true → l.any bad = true):=hid fun h => List.any_eq_true.2 ⟨_,List.getElem_mem hlt,h⟩
    have hj2:(j:Int) < (l.length:Int):=by omega
    have HC:=hid (add1 l[j] wr)
    generalize l[j] = e0 at *
    rcases hb:bad e0 with _ | _
    · rw [hb] at HC
      replace HN:=hid (HN.out hb)
      clear HY hb
      obtain ⟨r,y⟩:=e0
      simp only at d0 d1 HC
      go_wp2_with (fail)
      refine Calls.mono HC.out ?_
      rintro e w' ⟨rfl,hu⟩
      have HU2:=hid (HU.out.next hu)
      clear hu
      go_wp2
      go_roundw
      case rel => exact ⟨j + 1,by omega,by go_num,HN,HU2⟩
      case measure => simp [intOf]; omega
    · rw [hb] at HC
      replace HY:=hid (HY.out hb)
      clear HN hb
      obtain ⟨r,y⟩:=e0
      simp only at d0 d1 HC
      go_wp2_with (fail)
      refine Calls.mono HC.out ?_
      rintro e w' ⟨rfl,hu⟩
      have HU2:=hid (HU.out.next hu)
      clear hu
      go_wp2
      go_ret
      exact .of ⟨(j:Int),rfl,by rw [HY.out]; simp,HU2.out⟩
  · obtain rfl:j = l.length:=by omega
    have HY:Hid (l.any bad = false):=hid (List.any_eq_false.2 fun x hx => by
     obtain ⟨i,hi,rfl⟩:=List.getElem_of_mem hx
     rw [hH.out i hi hi]
     simp)
    go_wp2
    go_ret
    exact .of ⟨-1,rfl,by rw [HY.out]; simp,HU.out⟩
theorem has {w:World} {A:Option Addr} {c:Nat} {l:List Ev} (hr:Rd w 2 A l.length (ecs l)) (hl:l.length ≤ 9223372036854775807) :
 Calls Tryz.prog 198 #[.slice A l.length c,.func (.func 199) #[] #[]] w fun e w' => e = .returned (.bool (l.any bad)) ∧ Upd No w w':=by
 have HI:=hid (idx (c:=c) hr hl)
 generalize l.any bad = b at *
 clear hr
 go_enter Tryz.func198,Tryz.ntmps198
 go_wp2_with (fail)
 refine Calls.mono HI.out ?_
 rintro e w' ⟨r,rfl,hb,hu⟩
 have HH:=hid (And.intro hb hu)
 clear hb hu
 go_wp2
 go_ret
 exact ⟨congrArg (fun z => Ending.returned (.bool z)) HH.out.1,HH.out.2⟩
theorem ev_info:(Tryz.prog.info? 160).map (fun i => (i.zero,i.size,i.bytes)) = some (some (.agg #[.int .i64 0,.int .i64 0]),2,16):=by kernel_rfl
def AddOut (w:World) (F:Nat → Prop) (p:Nat) (r:Int × S) (e:Ending) (w':World):Prop:=e = .returned (.int .i64 r.1) ∧ ∃ F',Jd w' F' p r.2 ∧ Mv F F' w w'
theorem AddOut.of {w:World} {F:Nat → Prop} {p:Nat} {r:Int × S} {e:Ending} {w':World} (h:e = .returned (.int .i64 r.1) ∧ ∃ F',Jd w' F' p r.2 ∧ Mv F F' w w'):AddOut w F p r e w':=h
theorem add {w:World} {F:Nat → Prop} {p:Nat} {s:S} {A:Option Addr} {c:Nat} {l:List Ev} (h:Jd w F p s) (hok:Ok s) (h16:s.2.1.length ≤ 16) (hr:Rd w 2 A l.length (ecs l)) (hl:l.length ≤ 500) :
 Calls Tryz.prog 132 #[.pointer (some ⟨p,0,none⟩),.slice A l.length c] w fun e w' => AddOut w F p (addS s l) e w':=by
 have HI:=has (c:=c) hr (by omega)
 rcases hb:l.any bad with _ | _
 · rw [hb] at HI
   have HA:Hid (addS s l = (0,foldS (s.1,s.2.1 ++ l,IntKind.u64.wrap (s.2.2 + l.length)) ((s.2.1 ++ l).length - 16))):=hid (by unfold addS; rw [hb]; rfl)
   rw [HA.out]
   obtain ⟨v,h⟩:=h
   obtain ⟨bs,es,ver⟩:=s
   simp only at h16
   obtain ⟨Av,cv,hv,hc1,hc2⟩:=h.row.shape
   subst hv
   simp only at hc1
   have HX:=hid h
   have HR:=hid hr
   have HI2:=hid HI
   obtain ⟨n,hn⟩:∃ n,n = es.length + l.length - 16:=⟨_,rfl⟩
   have hev:∀ e ∈ es ++ l,EvOk e:=fun e he => by
    rcases List.mem_append.1 he with he | he
    · exact hok.ev e he
    · rw [List.any_eq_false] at hb
      exact (bad_iff e).1 (by simpa using hb e he)
   have HOk:Hid (Ok (bs,es ++ l,IntKind.u64.wrap (ver + l.length))):=hid ⟨hok.b8,by simp; omega,hev⟩
   rw [show (es ++ l).length - 16 = n from by simp; omega]
   have HN:Hid (n ≤ (es ++ l).length):=hid (by simp; omega)
   have hcase:((es.length:Int) + (l.length:Int) - 16 < 0 ∧ (n:Int) = 0) ∨ (¬ (es.length:Int) + (l.length:Int) - 16 < 0 ∧ (es.length:Int) + (l.length:Int) - 16 = (n:Int)):=by omega
   have HF:=hid fun W (F2:Nat → Prop) (h2:Jd W F2 p (bs,es ++ l,IntKind.u64.wrap (ver + l.length))) => fold n h2 HOk.out HN.out
   clear h hok hb hev HA hr HI hn
   rcases hcase with ⟨hc0,hc3⟩ | ⟨hc0,hc3⟩
   case' inl =>
    rw [hc3] at HF
   all_goals
    have HC:=hid hc0
    have HC3:=hid hc3
    clear hc0 hc3
    go_enter Tryz.func132,Tryz.ntmps132
    go_wp2_with (fail)
    refine Calls.mono HI2.out ?_
    rintro e w1 ⟨rfl,hu1⟩
    have HU1:=hid hu1
    have hX1:=HX.out.upd hu1 fun _ _ => no_ _
    obtain ⟨_,c8,c9⟩:=jbox hX1.blk
    have hr1:=HR.out.upd (by omega) hu1 (fun _ _ => no_ _)
    have HX1:=hid hX1
    have HR1:=hid hr1
    simp only at c8 c9
    clear hu1 hX1 hr1
    go_wp2_with (at_builtin; go_must (refine ap_sl 0 rfl (.tmp 13) (.tmp 14) 156 160 (.agg #[.int .i64 0,.int .i64 0]) 2 16 rfl Tryz.underlying156 ev_info rfl (by omega) (.slice Av es.length cv) es.length (ecs es) A l.length c (ecs l) rfl rfl HX1.out.row HR1.out (ecs_one _) (by omega) (by omega) (Nat.zero_le _) ?_); intro A2 c2 w2 ho2 hu2 hat2; have b2:=HX1.out.blk.upd hu2 (fun e => HX1.out.vp _ e rfl); obtain ⟨_,e8,e9⟩:=jbox b2; have f8:=b2.free 8; have b3:=jput8 b2 (.slice A2 (es.length + l.length) c2); obtain ⟨_,i8,i9⟩:=jbox b3; have j9:=b3.free 9; have b4:=jput9 b3 (IntKind.u64.wrap (ver + l.length)); obtain ⟨_,m8,m9⟩:=jbox b4; have hcc:=HC.out; have hcc3:=HC3.out)
    have HE:Hid (∃ F',Jd ((w2.setCell ⟨p,8,none⟩ (.slice A2 (es.length + l.length) c2)).setCell ⟨p,9,none⟩ (.int .u64 (IntKind.u64.wrap (ver + l.length)))) F' p (bs,es ++ l,IntKind.u64.wrap (ver + l.length)) ∧ Mv F F' w ((w2.setCell ⟨p,8,none⟩ (.slice A2 (es.length + l.length) c2)).setCell ⟨p,9,none⟩ (.int .u64 (IntKind.u64.wrap (ver + l.length))))):=by
     have hpl:=HX1.out.lt p HX1.out.fp
     have hne:∀ k,(Value.slice A2 (es.length + l.length) c2).ownBlock = some k → k ≠ p:=fun k hk => (hat2 k hk).elim (fun h => HX1.out.vp k h) fun h => by omega
     have hz1:=HU1.out.size
     refine hid (HX.out.fin (((HU1.out.mono fun _ _ h => h.elim).next (hu2.mono fun k _ h => HX.out.fv k h)).set (p:=⟨p,8,none⟩) (.inl HX.out.fp) _ |>.set (p:=⟨p,9,none⟩) (.inl HX.out.fp) _) b4 ?_ (fun k hk => (hat2 k hk).imp (HX.out.fv k) fun h => by omega))
     have:=(ho2.upd ((Upd.refl (fun k => k = p) _).set1 8 (.slice A2 (es.length + l.length) c2)) fun k hk e => hne k hk e).upd ((Upd.refl (fun k => k = p) _).set1 9 (.int .u64 (IntKind.u64.wrap (ver + l.length)))) fun k hk e => hne k hk e
     simpa [ecs_append] using this
    have HO:=hid (And.intro ho2 (And.intro hu2 hat2))
    clear ho2 hu2 hat2 b2 b3 b4
    obtain ⟨F2,hE1,hE2⟩:=HE.out
    have HE2:=hid hE2
    refine Calls.mono (HF.out _ F2 hE1) ?_
    rintro e w3 ⟨rfl,F3,h3,hm3⟩
    have H3:=hid (And.intro h3 (HE2.out.trans hm3))
    clear h3 hm3 hE1 hE2
    go_wp2
    go_ret
    exact .of ⟨rfl,F3,H3.out⟩
 · rw [hb] at HI
   have HA:Hid (addS s l = (3,s)):=hid (by unfold addS; rw [hb]; rfl)
   rw [HA.out]
   have HH:=hid h
   have HI2:=hid HI
   clear h hr HI
   go_enter Tryz.func132,Tryz.ntmps132
   go_wp2_with (fail)
   refine Calls.mono HI2.out ?_
   rintro e w1 ⟨rfl,hu1⟩
   have HU1:=hid hu1
   clear hu1
   go_wp2
   go_ret
   exact .of ⟨rfl,F,HH.out.upd HU1.out fun _ _ => no_ _,HU1.out.mono fun _ _ h => h.elim,fun k hk => .inl hk⟩
end Jn
end
section
namespace At
open Go.RowKit B Df
theorem ba_ne {v x:ByteArray} (h:¬ v = x):(v.toList == x.toList) = false ∧ (v.toList != x.toList) = true:=by
 have h':v.toList ≠ x.toList:=fun e => h (by
  have e2:∀ b:ByteArray,b.toList = b.data.toList:=fun b => by
   rcases b with ⟨⟨l⟩⟩
   exact ByteArray.toList_mk l
  rw [e2,e2] at e
  rcases v with ⟨⟨l⟩⟩
  rcases x with ⟨⟨m⟩⟩
  simpa using e)
 exact ⟨by simpa using h',by simpa using h'⟩
section
variable {q:ByteArray → Bool} {xs:List ByteArray} {r:Int} {A:Option Addr} {c:Nat} {w:World}
theorem s_idxf (b:Nat) (hr:Rd w 1 A xs.length (xs.map fun x => (.string x))) (hn:xs.length ≤ 9223372036854775807) (hR:Hid (IxR q xs r))
 (hcl:Hid (∀ x ∈ xs,Calls Tryz.prog 240 #[(.string x),.pointer (some ⟨b,0,none⟩)] w fun e w' => e = .returned (.bool (q x)) ∧ w = w')) :
 Calls Tryz.prog 281 #[.slice A xs.length c,.func (.func 240) #[] #[.pointer (some ⟨b,0,none⟩)]] w fun e w' => e = .returned (.int .i64 r) ∧ w = w':=by
 go_enter Tryz.func281,Tryz.ntmps281
 go_wp2_with (fail)
 go_loop [8] (fun v8 => ∃ j:Nat,j ≤ xs.length ∧ v8 = .int .i64 j ∧ Hid (∀ i (hi:i < xs.length),i < j → q xs[i] = false)) (fun v8 => xs.length - (intOf v8).toNat)
 case atStart => exact ⟨0,by omega,rfl,hid fun i _ h => by omega⟩
 case round =>
  obtain ⟨j,hj,rfl,hH⟩:=hrel
  by_cases hlt:j < xs.length
  · obtain ⟨ad,u,rfl,hu,hc⟩:=hr.at_ hlt
    rw [List.getElem?_map,List.getElem?_eq_getElem hlt] at hu
    simp only [Option.map_some,Option.some.injEq] at hu
    subst hu
    have HC:=hid (hcl.out _ (List.getElem_mem hlt))
    have HN:Hid (q xs[j] = false → ∀ i (hi:i < xs.length),i < j + 1 → q xs[i] = false):=hid fun h i hi hij => by
     by_cases h':i < j
     · exact hH.out i hi h'
     · obtain rfl:i = j:=by omega
       exact h
    have HY:Hid (q xs[j] = true → r = (j:Int)):=hid fun h => hR.out.at_ hlt h hH.out
    have hj2:(j:Int) < (xs.length:Int):=by omega
    generalize xs[j] = x at *
    rcases hq:q x with _ | _
    · rw [hq] at HC HN
      replace HN:=hid (HN.out rfl)
      clear HY hq
      go_wp2_with (fail)
      refine Calls.mono HC.out ?_
      rintro e w' ⟨rfl,rfl⟩
      go_wp2
      go_round
      case rel => exact ⟨j + 1,by omega,by go_num,HN⟩
      case measure => simp [intOf]; omega
    · rw [hq] at HC HY
      replace HY:=hid (HY.out rfl)
      clear HN hq
      go_wp2_with (fail)
      refine Calls.mono HC.out ?_
      rintro e w' ⟨rfl,rfl⟩
      go_wp2
      go_ret
      exact ⟨congrArg (fun z => Ending.returned (.int .i64 z)) HY.out.symm,rfl⟩
  · obtain rfl:j = xs.length:=by omega
    have HY:Hid (r = -1):=hid (hR.out.end_ hH.out)
    go_wp2
    go_ret
    exact ⟨congrArg (fun z => Ending.returned (.int .i64 z)) HY.out.symm,rfl⟩
theorem s_idx (v:ByteArray) (hr:Rd w 1 A xs.length (xs.map fun x => (.string x))) (hn:xs.length ≤ 9223372036854775807) (hR:Hid (IxR (fun x => decide (v = x)) xs r)) :
 Calls Tryz.prog 243 #[.slice A xs.length c,(.string v)] w fun e w' => e = .returned (.int .i64 r) ∧ w = w':=by
 go_enter Tryz.func243,Tryz.ntmps243
 go_wp2_with (fail)
 go_loop [8] (fun v8 => ∃ j:Nat,j ≤ xs.length ∧ v8 = .int .i64 j ∧ Hid (∀ i (hi:i < xs.length),i < j → decide (v = xs[i]) = false)) (fun v8 => xs.length - (intOf v8).toNat)
 case atStart => exact ⟨0,by omega,rfl,hid fun i _ h => by omega⟩
 case round =>
  obtain ⟨j,hj,rfl,hH⟩:=hrel
  by_cases hlt:j < xs.length
  · obtain ⟨ad,u,rfl,hu,hc⟩:=hr.at_ hlt
    rw [List.getElem?_map,List.getElem?_eq_getElem hlt] at hu
    simp only [Option.map_some,Option.some.injEq] at hu
    subst hu
    have HN:Hid (¬ v = xs[j] → ∀ i (hi:i < xs.length),i < j + 1 → decide (v = xs[i]) = false):=hid fun h i hi hij => by
     by_cases h':i < j
     · exact hH.out i hi h'
     · obtain rfl:i = j:=by omega
       simpa using h
    have HY:Hid (v = xs[j] → r = (j:Int)):=hid fun h => hR.out.at_ hlt (by simpa using h) hH.out
    have hj2:(j:Int) < (xs.length:Int):=by omega
    generalize xs[j] = x at *
    by_cases hv:v = x
    · subst hv
      replace HY:=hid (HY.out rfl)
      clear HN
      go_wp2
      go_ret
      exact ⟨congrArg (fun z => Ending.returned (.int .i64 z)) HY.out.symm,rfl⟩
    · replace HN:=hid (HN.out hv)
      obtain ⟨n1,n2⟩:=ba_ne hv
      clear HY hv
      go_wp2
      go_round
      case rel => exact ⟨j + 1,by omega,by go_num,HN⟩
      case measure => simp [intOf]; omega
  · obtain rfl:j = xs.length:=by omega
    have HY:Hid (r = -1):=hid (hR.out.end_ hH.out)
    go_wp2
    go_ret
    exact ⟨congrArg (fun z => Ending.returned (.int .i64 z)) HY.out.symm,rfl⟩
theorem s_any (v:ByteArray) (hr:Rd w 1 A xs.length (xs.map fun x => (.string x))) (hn:xs.length ≤ 9223372036854775807) :
 Calls Tryz.prog 192 #[.slice A xs.length c,(.string v)] w fun e w' => e = .returned (.bool (xs.any fun x => decide (v = x))) ∧ w = w':=by
 obtain ⟨r,hR⟩:=IxR.ex (fun x => decide (v = x)) xs
 have HC:=s_idx (c:=c) v hr hn (hid hR)
 have ha:=hR.any
 rcases hv:xs.any (fun x => decide (v = x)) with _ | _
 · have h0:decide (0 ≤ r) = false:=decide_eq_false fun h => by rw [ha.1 h] at hv; cases hv
   clear ha hv hR
   go_enter Tryz.func192,Tryz.ntmps192
   go_wp2_with (fail)
   refine Calls.mono HC ?_
   rintro e w' ⟨rfl,rfl⟩
   go_wp2
   go_ret
   exact ⟨congrArg (fun z => Ending.returned (.bool z)) (by first | rfl | exact h0),rfl⟩
 · have h0:0 ≤ r:=ha.2 hv
   have h1:decide (0 ≤ r) = true:=decide_eq_true h0
   clear ha hv hR
   go_enter Tryz.func192,Tryz.ntmps192
   go_wp2_with (fail)
   refine Calls.mono HC ?_
   rintro e w' ⟨rfl,rfl⟩
   go_wp2
   go_ret
   exact ⟨congrArg (fun z => Ending.returned (.bool z)) (by first | rfl | exact h1),rfl⟩
theorem s_zero (w:World):(zeroValue 9).run Tryz.prog w = .ok (.string ⟨#[]⟩) w:=by kernel_rfl
theorem s_del (base b:Nat) (hs:Sl w base 9 1 (.slice A xs.length c) xs.length (xs.map fun x => (.string x))) (hn:xs.length ≤ 9223372036854775807)
 (hcl:Hid (∀ W,Upd (fun k => (Value.slice A xs.length c).ownBlock = some k) w W → ∀ x ∈ xs,Calls Tryz.prog 240 #[(.string x),.pointer (some ⟨b,0,none⟩)] W fun e w' => e = .returned (.bool (q x)) ∧ W = w')) :
 Calls Tryz.prog 239 #[.slice A xs.length c,.func (.func 240) #[] #[.pointer (some ⟨b,0,none⟩)]] w fun e w' => e = .returned (.slice A (xs.filter fun x => !q x).length c) ∧
  Sl w' base 9 1 (.slice A (xs.filter fun x => !q x).length c) (xs.filter fun x => !q x).length ((xs.filter fun x => !q x).map fun x => (.string x)) ∧ Upd (fun k => (Value.slice A xs.length c).ownBlock = some k) w w':=by
 obtain ⟨r,hR⟩:=IxR.ex q xs
 have HC:=hid (s_idxf (c:=c) b (Sl.rd hs) hn (hid hR) (hid (hcl.out w (Upd.refl _ _))))
 by_cases hr1:r = -1
 · subst hr1
   have hf:xs.filter (fun x => !q x) = xs:=by
    rw [List.filter_eq_self]
    intro x hx
    rcases hR with ⟨_,h⟩ | ⟨k,hk,h,_⟩
    · rw [h x hx]; rfl
    · omega
   rw [hf]
   have hS:=hid hs
   clear hf hs hR
   go_enter Tryz.func239,Tryz.ntmps239
   go_wp2_with (fail)
   refine Calls.mono HC.out ?_
   rintro e w' ⟨rfl,rfl⟩
   go_wp2
   go_ret
   exact ⟨rfl,hS.out,Upd.refl _ _⟩
 · obtain ⟨j0,rfl,hj0,hq0,hb0⟩:=hR.pos hr1
   rcases hs.2 with ⟨_,h⟩ | ⟨g,off,cap,cur0,hv,hbg,hB0,hnc,hcm,hroom,hc0⟩
   · omega
   simp only [Value.slice.injEq,true_and] at hv
   obtain ⟨rfl,rfl⟩:=hv
   have hown:(Value.slice (some ⟨g,off,none⟩) xs.length c).ownBlock = some g:=rfl
   simp only [hown,Option.some.injEq] at hcl ⊢
   have hc0':∀ t (ht:t < xs.length),cur0[off + t]? = some ((.string xs[t])):=fun t ht => hc0 t _ (by rw [List.getElem?_map,List.getElem?_eq_getElem ht]; rfl)
   have HD0:Hid (Dl q (fun x => (.string x)) xs off j0 (j0 + 1) cur0):=hid (Dl.start hj0 hq0 hb0 hc0' (by omega))
   have HB0:=hid hB0
   have hne:((j0:Int) == -1) = false:=by simp
   obtain ⟨sz,hsz⟩:∃ sz,sz = cur0.size:=⟨_,rfl⟩
   have HSZ:=hid hsz
   rw [← hsz] at hroom
   simp only [Nat.mul_one] at hroom
   simp only [maxLen] at hcm
   clear hR hs hr1 hb0 hc0 hc0' hB0 hsz hown hq0
   go_enter Tryz.func239,Tryz.ntmps239
   go_wp2_with (fail)
   refine Calls.mono HC.out ?_
   rintro e w' ⟨rfl,rfl⟩
   go_wp2_with (fail)
   go_loopw [5,6] (fun v5 v6 W => ∃ (i j:Nat) (cur:Array Value),v5 = .int .i64 i ∧ v6 = .int .i64 j ∧ j ≤ xs.length ∧ Hid (Dl q (fun x => (.string x)) xs off i j cur) ∧ Hid (Blk W g 9 cur ∧ cur.size = sz) ∧ Hid (Upd (fun k => g = k) w W)) (fun _ v6 _ => xs.length - (intOf v6).toNat)
   case atStart => exact ⟨j0,j0 + 1,cur0,rfl,by go_num,by omega,HD0,hid ⟨HB0.out,HSZ.out.symm⟩,hid (Upd.refl _ _)⟩
   case round =>
    obtain ⟨i,j,cur,rfl,rfl,hj,hD,hB,hU⟩:=hrel
    have hij:=hD.out.lt
    by_cases hlt:j < xs.length
    · have hj2:(j:Int) < (xs.length:Int):=by omega
      have cj:=hB.out.1.cell (off + j)
      rw [hD.out.hi j hlt (Nat.le_refl _)] at cj
      have HX:=hid (hcl.out wr hU.out _ (List.getElem_mem hlt))
      rcases hq:q xs[j] with _ | _
      · have hci:off + i < cur.size:=by have:=hB.out.2; omega
        have ci:=hB.out.1.cell (off + i)
        rw [Array.getElem?_eq_getElem hci] at ci
        have fi:=hB.out.1.free (off + i)
        have HE:Hid (∃ cur',Dl q (fun x => (.string x)) xs off (i + 1) (j + 1) cur' ∧ (Blk (wr.setCell ⟨g,off + i,none⟩ ((.string xs[j]))) g 9 cur' ∧ cur'.size = sz) ∧ Upd (fun k => g = k) w (wr.setCell ⟨g,off + i,none⟩ ((.string xs[j])))):=
         hid ⟨_,hD.out.keep hlt hq,⟨hB.out.1.put (off + i) _,by simpa using hB.out.2⟩,hU.out.set (.inl rfl) _⟩
        rw [hq] at HX
        clear hq
        generalize xs[j] = x at *
        generalize cur[off + i] = u at *
        go_wp2_with (fail)
        refine Calls.mono HX.out ?_
        rintro e w' ⟨rfl,rfl⟩
        go_wp2
        obtain ⟨cur',h1,h2,h3⟩:=HE.out
        go_roundw
        case rel => exact ⟨i + 1,j + 1,cur',by go_num,by go_num,by omega,hid h1,hid h2,hid h3⟩
        case measure => simp [intOf]; omega
      · have HE:Hid (Dl q (fun x => (.string x)) xs off i (j + 1) cur):=hid (hD.out.skip hlt hq)
        rw [hq] at HX
        clear hq
        generalize xs[j] = x at *
        go_wp2_with (fail)
        refine Calls.mono HX.out ?_
        rintro e w' ⟨rfl,rfl⟩
        go_wp2
        go_roundw
        case rel => exact ⟨i,j + 1,cur,rfl,by go_num,by omega,HE,hB,hU⟩
        case measure => simp [intOf]; omega
    · obtain rfl:j = xs.length:=by omega
      have hclr:∀ ty,(Builtin.clear_ #[31] ty #[.slice (some ⟨g,off + i,none⟩) (xs.length - i) (c - i)]).run Tryz.prog wr = .ok (.tuple #[]) (wr.setCells g (off + i) (List.replicate (xs.length - i) (.string ⟨#[]⟩))):=
       fun ty => Go.Lib.run_clear_slice wr _ _ ty _ Tryz.underlying31 s_zero rfl rfl g (off + i) _ _ (by omega)
        (fun t ht => by
         have:=hB.out.2
         rw [hB.out.1.cell,Array.getElem?_eq_getElem (by omega)]; rfl) (fun t ht => hB.out.1.free _)
      have HE:Hid (i = (xs.filter fun x => !q x).length ∧ Sl (wr.setCells g (off + i) (List.replicate (xs.length - i) (.string ⟨#[]⟩))) base 9 1 (.slice (some ⟨g,off,none⟩) (xs.filter fun x => !q x).length c) (xs.filter fun x => !q x).length ((xs.filter fun x => !q x).map fun x => (.string x)) ∧ Upd (fun k => g = k) w (wr.setCells g (off + i) (List.replicate (xs.length - i) (.string ⟨#[]⟩)))):=by
       have hl:=hD.out.len
       have hlo:=hD.out.lo
       simp only [List.take_length] at hl hlo
       have hle:=List.length_filter_le (fun x => !q x) xs
       obtain ⟨cs',b1,b2,b3,_⟩:=hB.out.1.puts (List.replicate (xs.length - i) (.string ⟨#[]⟩)) (off + i) wr cur (by have:=hB.out.2; simp; omega)
       refine hid ⟨hl,⟨by simp,.inr ⟨g,off,c,cs',rfl,hbg,b1,by omega,by simp only [maxLen]; omega,by have:=hB.out.2; omega,fun t u hu => ?_⟩⟩,hU.out.puts _ _ (.inl rfl)⟩
       rw [List.getElem?_map] at hu
       obtain ⟨y,hy,rfl⟩:=Option.map_eq_some_iff.1 hu
       obtain ⟨ht,rfl⟩:=List.getElem?_eq_some_iff.1 hy
       rw [b3 (off + t) (.inl (by omega))]
       exact hlo t ht
      clear hD hB hU
      go_wp2
      go_ret
      exact ⟨congrArg (fun z => Ending.returned (.slice (some ⟨g,off,none⟩) z c)) HE.out.1,HE.out.2⟩
end
end At
end
section
namespace At
open Go.RowKit B Df
theorem clone_info:(Tryz.prog.info? 9).map (fun i => (i.zero,i.size,i.bytes)) = some (some (.string ⟨#[]⟩),1,16):=by kernel_rfl
theorem clone (A:Option Addr) (n c:Nat) (xs:List Value) (w:World) (hr:Rd w 1 A n xs) (h1:∀ u ∈ xs,u.oneCell' = true) (hn:n * 16 ≤ 140737488355328) :
 Calls Tryz.prog 111 #[.slice A n c] w fun e w' => ∃ A' c',e = .returned (.slice A' n c') ∧ w'.ownsRow w.heap.size 9 1 (.slice A' n c') n xs ∧ Upd No w w' ∧ (A = none → A' = none):=by
 have q:∀ (w:World) (a:Option Addr) (n c n' c':Nat),(binOp .eql 31 (.slice a n c) (.slice none n' c')).run Tryz.prog w = .ok (.bool a.isNone) w:=fun w a n c n' c' => Go.Lib.run_eql_slice_nil w _ _ a n c n' c' Tryz.underlying31
 rcases A with _ | ad
 · obtain rfl:n = 0:=by
    rcases Nat.eq_zero_or_pos n with h0 | h0
    · exact h0
    · obtain ⟨ad,h,_⟩:=hr.2 h0
      cases h
   obtain rfl:xs = []:=List.eq_nil_of_length_eq_zero (by simpa using hr.1)
   go_enter Tryz.func111,Tryz.ntmps111
   go_wp2
   go_ret
   exact ⟨none,0,rfl,⟨by simp,.inl ⟨rfl,rfl⟩⟩,Upd.refl _ _,fun _ => rfl⟩
 · go_enter Tryz.func111,Tryz.ntmps111
   go_wp2_with (at_builtin; refine ap_row w.heap.size rfl _ _ 31 9 (.string ⟨#[]⟩) 1 16 rfl Tryz.underlying31 clone_info rfl (by omega) (.slice (some ⟨w.heap.size,0,none⟩) 0 0) 0 [] (some ad) n c xs rfl rfl (World.ownsRow_made w #[] 0 (Nat.le_refl _) (Nat.zero_le _) rfl) (Rd.alloc hr (by omega) _) h1 (by omega) (by omega) (by simp) ?_; intro A1 c1 w1 ho hg hat; rw [Nat.zero_add,List.nil_append] at ho; rw [Nat.zero_add])
   go_wp2
   go_ret
   refine ⟨A1,c1,rfl,ho,?_,fun h => by cases h⟩
   have h5:Upd No w (w.alloc (.cells #[] 9)):=(Upd.refl _ _).alloc _
   exact h5.grown hg fun k hk => by
    have:w.heap.size = k:=by simpa [Value.ownBlock] using hk
    exact .inr (by omega)
def strs (x:List ByteArray):List Value:=x.map fun k => .string k
theorem strs_one (x:List ByteArray):∀ u ∈ strs x,u.oneCell' = true:=by
 intro u hu
 simp only [strs,List.mem_map] at hu
 obtain ⟨k,_,rfl⟩:=hu
 rfl
theorem s_info:(Tryz.prog.info? 9).map (fun i => (i.zero,i.size,i.bytes)) = some (some (.string ⟨#[]⟩),1,16):=by kernel_rfl
theorem box1 {w:World} {g:Nat} {t:TypeId} {a:Value} (h:Blk w g t #[a]):w.cell? ⟨g,0,none⟩ = some a:=by simpa using h.cell 0
theorem box2 {w:World} {g:Nat} {t:TypeId} {a b:Value} (h:Blk w g t #[a,b]):w.cell? ⟨g,0,none⟩ = some a ∧ w.cell? ⟨g,1,none⟩ = some b:=⟨by simpa using h.cell 0,by simpa using h.cell 1⟩
theorem ownb (A:Option Addr) (n c n' c':Nat):(Value.slice A n c).ownBlock = (Value.slice A n' c').ownBlock:=by cases A <;> rfl
def mst (room:Int):Int:=if room < 1 then 1 else room
def strike (x:List ByteArray) (k:ByteArray):List ByteArray:=x.filter fun y => !decide (y = k)
def laidk (x:List ByteArray) (k:ByteArray):List ByteArray:=strike x k ++ [k]
def hasK (x:List ByteArray) (k:ByteArray):Bool:=x.any fun y => decide (k = y)
def touchX (x:List ByteArray) (mm:Int) (k:ByteArray):List ByteArray × ByteArray × Bool:=
 if ((laidk x k).length:Int) ≤ mm then (laidk x k,⟨#[]⟩,false) else ((laidk x k).drop 1,(laidk x k).headD ⟨#[]⟩,true)
theorem strike_le (x:List ByteArray) (k:ByteArray):(strike x k).length ≤ x.length:=List.length_filter_le _ _
theorem strike_self {x:List ByteArray} {k:ByteArray} (h:hasK x k = false):strike x k = x:=by
 unfold strike
 rw [List.filter_eq_self]
 intro y hy
 unfold hasK at h
 rw [List.any_eq_false] at h
 have:=h y hy
 simp only [decide_eq_true_eq] at this
 simp only [Bool.not_eq_true',decide_eq_false_iff_not]
 exact fun e => this e.symm
theorem touchX_le (x:List ByteArray) (mm:Int) (k:ByteArray) (h:mm ≤ 10000) (hx:x.length ≤ 10000):(touchX x mm k).1.length ≤ 10000:=by
 have h1:=strike_le x k
 unfold touchX
 split
 · simp only; omega
 · simp only [List.length_drop,laidk,List.length_append,List.length_singleton]; omega
def Ta (w:World) (F:Nat → Prop) (p:Nat) (room:Int) (x:List ByteArray):Prop:=
 ∃ v,Blk w p 206 #[.int .i64 room,v] ∧ Sl w 0 9 1 v x.length (strs x) ∧ F p ∧ (∀ k,v.ownBlock = some k → F k) ∧ ∀ k,F k → k < w.heap.size
section
variable {w w':World} {F H:Nat → Prop} {p:Nat} {room:Int} {x:List ByteArray}
theorem Ta.upd (h:Ta w F p room x) (hu:Upd H w w') (hn:∀ k,F k → ¬ H k):Ta w' F p room x:=by
 obtain ⟨v,h1,h2,h3,h4,h5⟩:=h
 exact ⟨v,h1.upd hu (hn _ h3),h2.upd hu fun g hg => hn _ (h4 g hg),h3,h4,fun k hk => Nat.lt_of_lt_of_le (h5 k hk) hu.size⟩
theorem Ta.lt (h:Ta w F p room x):∀ k,F k → k < w.heap.size:=by
 obtain ⟨v,h1,h2,h3,h4,h5⟩:=h
 exact h5
theorem Ta.new {o:Obj} (ho:o = .cells #[.int .i64 room,.slice none 0 0] 206):Ta (w.alloc o) (fun k => k = w.heap.size) w.heap.size room []:=by
 subst ho
 exact ⟨_,Blk.fresh _ _ _,Sl.nil _ _ _ _,rfl,fun k hk => by simp [Value.ownBlock] at hk,fun k hk => by subst hk; simp⟩
end
theorem most_ {w:World} {p:Nat} {room:Int} {v:Value} (h:Blk w p 206 #[.int .i64 room,v]) :
 Calls Tryz.prog 187 #[.pointer (some ⟨p,0,none⟩)] w fun e w' => e = .returned (.int .i64 (mst room)) ∧ w = w':=by
 obtain ⟨c0,c1⟩:=box2 h
 unfold mst
 by_cases hr:room < 1
 · rw [if_pos hr]
   go_enter Tryz.func187,Tryz.ntmps187
   go_wp2
   go_ret
   exact ⟨rfl,rfl⟩
 · rw [if_neg hr]
   go_enter Tryz.func187,Tryz.ntmps187
   go_wp2
   go_ret
   exact ⟨rfl,rfl⟩
theorem has_ {w:World} {F:Nat → Prop} {p:Nat} {room:Int} {x:List ByteArray} (k:ByteArray) (h:Ta w F p room x) :
 Calls Tryz.prog 123 #[.pointer (some ⟨p,0,none⟩),.string k] w fun e w' => e = .returned (.bool (hasK x k)) ∧ w = w':=by
 obtain ⟨v,h1,h2,_,_,_⟩:=h
 obtain ⟨A,c,rfl,hc1,hc2⟩:=h2.shape
 simp only [maxLen] at hc2
 obtain ⟨c0,c1⟩:=box2 h1
 have HC:=hid (s_any (c:=c) k (Sl.rd h2) (by omega))
 rw [show x.any (fun y => decide (k = y)) = hasK x k from rfl] at HC
 clear h2
 go_enter Tryz.func123,Tryz.ntmps123
 go_wp2_with (fail)
 refine Calls.mono HC.out ?_
 rintro e w' ⟨rfl,rfl⟩
 go_wp2
 go_ret
 exact ⟨rfl,rfl⟩
theorem drop1 (b:Nat) (k y:ByteArray) (w:World) (hb:w.cell? ⟨b,0,none⟩ = some (.string k)) :
 Calls Tryz.prog 240 #[.string y,.pointer (some ⟨b,0,none⟩)] w fun e w' => e = .returned (.bool (decide (y = k))) ∧ w = w':=by
 by_cases h:y = k
 · subst h
   go_enter Tryz.func240,Tryz.ntmps240
   go_wp2
   go_ret
   exact ⟨congrArg (fun z => Ending.returned (.bool z)) (by simp),rfl⟩
 · have hT:Hid (decide (y = k) = false):=hid (by simpa using h)
   obtain ⟨n1,n2⟩:=ba_ne h
   clear h
   go_enter Tryz.func240,Tryz.ntmps240
   go_wp2
   go_ret
   exact ⟨congrArg (fun z => Ending.returned (.bool z)) hT.out.symm,rfl⟩
theorem drop {w:World} {F:Nat → Prop} {p:Nat} {room:Int} {x:List ByteArray} (k:ByteArray) (h:Ta w F p room x) :
 Calls Tryz.prog 186 #[.pointer (some ⟨p,0,none⟩),.string k] w fun e w' => e = .returned (.bool (hasK x k)) ∧ Ta w' F p room (strike x k) ∧ Upd F w w':=by
 have hu1:Upd No w (w.alloc (.cells #[.string k] 9)):=(Upd.refl _ _).alloc _
 have hb1:=Blk.fresh w 9 #[.string k]
 have h1:=h.upd hu1 fun _ _ => no_ _
 have HS:=hid (has_ k h1)
 have e1:=box1 hb1
 rcases hk:hasK x k with _ | _
 · rw [hk] at HS
   have HE:Hid (Ta (w.alloc (.cells #[.string k] 9)) F p room (strike x k) ∧ Upd F w (w.alloc (.cells #[.string k] 9))):=hid ⟨by rw [strike_self hk]; exact h1,hu1.mono fun _ _ h => h.elim⟩
   clear hk h1
   go_enter Tryz.func186,Tryz.ntmps186
   go_wp2_with (fail)
   refine Calls.mono HS.out ?_
   rintro e w' ⟨rfl,rfl⟩
   go_wp2
   go_ret
   exact ⟨rfl,HE.out.1,HE.out.2⟩
 · rw [hk] at HS
   have hlt:=h.lt
   obtain ⟨v,b1,s1,fp,fv,lt1⟩:=h1
   obtain ⟨A,c,rfl,hc1,hc2⟩:=s1.shape
   simp only [maxLen] at hc2
   have hbF:∀ k',F k' → k' ≠ w.heap.size:=fun k' hk' => by have:=hlt k' hk'; omega
   have hvp:∀ k',(Value.slice A x.length c).ownBlock = some k' → k' ≠ p:=fun k' hk' e => s1.ne b1 (by decide) (by rw [hk',e])
   have hC:=s_del (q:=fun y => decide (y = k)) (c:=c) 0 w.heap.size s1 (by omega) (hid fun W hu y hy => drop1 _ k y W (box1 (hb1.upd hu fun e => hbF _ (fv _ e) rfl)))
   have HC:=hid hC
   have HH:=hid (And.intro b1 (And.intro fp (And.intro fv (And.intro lt1 (And.intro hu1 hvp)))))
   obtain ⟨c0,c1⟩:=box2 b1
   clear hC s1 fv lt1 hbF hvp hk
   go_enter Tryz.func186,Tryz.ntmps186
   go_wp2_with (fail)
   refine Calls.mono HS.out ?_
   rintro e w' ⟨rfl,rfl⟩
   go_wp2_with (fail)
   refine Calls.mono HC.out ?_
   rintro e w2 ⟨rfl,hO,hu⟩
   obtain ⟨b1,fp,fv,lt1,hu1,hvp⟩:=HH.out
   have hb2:=b1.upd hu fun e => hvp _ e rfl
   obtain ⟨d0,d1⟩:=box2 hb2
   have f1:=hb2.free 1
   have HE:Hid (Ta (w2.setCell ⟨p,1,none⟩ (.slice A (strike x k).length c)) F p room (strike x k) ∧ Upd F w (w2.setCell ⟨p,1,none⟩ (.slice A (strike x k).length c))):=hid ⟨⟨.slice A (strike x k).length c,by simpa using hb2.put 1 (.slice A (strike x k).length c),Sl.upd hO ((Upd.refl _ _).set1 1 _) (fun g hg => hvp g (by rw [← hg]; exact ownb _ _ _ _ _)),fp,fun k' hk' => fv k' (by rw [← hk']; exact ownb _ _ _ _ _),fun k' hk' => by
    have:=lt1 k' hk'
    have:=hu.size
    simp only [World.setCell,Array.size_modify]
    omega⟩,(((hu1.mono fun _ _ h => h.elim).next (hu.mono fun k' _ h => fv k' h)).set (p:=⟨p,1,none⟩) (.inl fp) _)⟩
   have HO:=hid (And.intro hO hu)
   clear hO hu fv lt1 hvp hu1
   go_wp2
   go_ret
   exact ⟨rfl,HE.out.1,HE.out.2⟩
def TouchOut (w:World) (F:Nat → Prop) (p:Nat) (room:Int) (r:List ByteArray × ByteArray × Bool) (e:Ending) (w':World):Prop:=
 e = .returned (.tuple #[.string r.2.1,.bool r.2.2]) ∧ ∃ F',Ta w' F' p room r.1 ∧ Mv F F' w w'
theorem TouchOut.of {w:World} {F:Nat → Prop} {p:Nat} {room:Int} {r:List ByteArray × ByteArray × Bool} {e:Ending} {w':World}
 (h:e = .returned (.tuple #[.string r.2.1,.bool r.2.2]) ∧ ∃ F',Ta w' F' p room r.1 ∧ Mv F F' w w'):TouchOut w F p room r e w':=h
theorem first_cell {w:World} {t:TypeId} {A:Option Addr} {n c:Nat} {u:Value} {r:List Value} (h:Sl w 0 t 1 (.slice A (n + 1) c) (n + 1) (u :: r)):∃ g off,A = some ⟨g,off,none⟩ ∧ w.cell? ⟨g,off,none⟩ = some u ∧ g < w.heap.size:=by
 rcases h.2 with ⟨_,h⟩ | ⟨g,off,cap,cur,hv,_,hh,_,_,_,hc⟩
 · omega
 · simp only [Value.slice.injEq,true_and] at hv
   obtain ⟨rfl,rfl⟩:=hv
   exact ⟨g,off,rfl,by rw [hh.cell]; exact hc 0 u rfl,hh.lt⟩
theorem Sl.cap {w:World} {base e size n c:Nat} {A:Option Addr} {xs:List Value} (h:Sl w base e size (.slice A n c) n xs):n ≤ c ∧ c ≤ maxLen:=by
 obtain ⟨_,_,he,h1,h2⟩:=B.Sl.shape h
 simp only [Value.slice.injEq,true_and] at he
 obtain ⟨_,rfl⟩:=he
 exact ⟨h1,h2⟩
theorem touch {w:World} {F:Nat → Prop} {p:Nat} {room:Int} {x:List ByteArray} (k:ByteArray) (h:Ta w F p room x) (hl:x.length ≤ 10000) :
 Calls Tryz.prog 115 #[.pointer (some ⟨p,0,none⟩),.string k] w fun e w' => TouchOut w F p room (touchX x (mst room) k) e w':=by
 have HD:=hid (drop k h)
 have hlt:=h.lt
 have hle:=strike_le x k
 have hxl:∃ n,n = (strike x k).length:=⟨_,rfl⟩
 obtain ⟨n,hn⟩:=hxl
 have HX:Hid (touchX x (mst room) k = if ((n:Int) + 1 ≤ mst room) then (laidk x k,⟨#[]⟩,false) else ((laidk x k).drop 1,(laidk x k).headD ⟨#[]⟩,true)):=hid (by
  unfold touchX
  rw [show ((laidk x k).length:Int) = (n:Int) + 1 from by rw [hn]; simp [laidk]])
 have hn1:n ≤ 10000:=by omega
 have HN:=hid hn
 clear hle h hn
 obtain ⟨mm,hmm⟩:∃ mm,mm = mst room:=⟨_,rfl⟩
 have HM:=hid hmm
 rw [← hmm] at HX ⊢
 clear hmm
 by_cases hm:(n:Int) + 1 ≤ mm
 · rw [if_pos hm] at HX
   rw [HX.out]
   have hm':decide ((n:Int) + 1 ≤ mm) = true:=decide_eq_true hm
   clear hm
   go_enter Tryz.func115,Tryz.ntmps115
   go_wp2_with (fail)
   refine Calls.mono HD.out ?_
   rintro e w1 ⟨rfl,⟨v,b1,s1,fp,fv,lt1⟩,hu1⟩
   rw [← HN.out] at s1
   obtain ⟨A,c,rfl,hc1,hc2⟩:=s1.shape
   have hvp:∀ k',(Value.slice A n c).ownBlock = some k' → k' ≠ p:=fun k' hk' e => s1.ne b1 (by decide) (by rw [hk',e])
   have HH:=hid (And.intro b1 (And.intro s1 (And.intro fp (And.intro fv (And.intro lt1 (And.intro hu1 hvp))))))
   obtain ⟨d0,d1⟩:=box2 b1
   clear fv lt1 hu1 hvp
   go_wp2_with (at_builtin; go_must (refine ap_sl 0 rfl (.tmp 16) (.tmp 18) 31 9 (.string ⟨#[]⟩) 1 16 rfl Tryz.underlying31 s_info rfl (by omega) (.slice A n c) n (strs (strike x k)) (some ⟨w1.heap.size,0,none⟩) 1 1 [.string k] rfl rfl (Sl.alloc s1 _) (Rd_lit w1 _ 1 1 [.string k] rfl) (by intro u hu; obtain rfl:=List.mem_singleton.1 hu; rfl) (by omega) (by omega) (Nat.zero_le _) ?_); intro A2 c2 w2 ho2 hu2 hat2; have b2:=(HH.out.1.alloc (.cells #[.string k] 9)).upd hu2 (fun e => HH.out.2.2.2.2.2.2 _ e rfl); obtain ⟨e0,e1⟩:=box2 b2; have f1:=b2.free 1)
   have hB3:Hid (Blk (w2.setCell ⟨p,1,none⟩ (.slice A2 (n + 1) c2)) p 206 #[.int .i64 room,.slice A2 (n + 1) c2]):=hid (by simpa using b2.put 1 (.slice A2 (n + 1) c2))
   have hne:∀ k',(Value.slice A2 (n + 1) c2).ownBlock = some k' → k' ≠ p:=fun k' hk' => (hat2 k' hk').elim (fun h => HH.out.2.2.2.2.2.2 k' h) fun h => by
    have h3:=HH.out.2.2.2.2.1 p HH.out.2.2.1
    simp at h
    omega
   have HE:Hid (∃ F',Ta (w2.setCell ⟨p,1,none⟩ (.slice A2 (n + 1) c2)) F' p room (laidk x k) ∧ Mv F F' w (w2.setCell ⟨p,1,none⟩ (.slice A2 (n + 1) c2))):=by
    obtain ⟨b1,s1,fp,fv,lt1,hu1,hvp⟩:=HH.out
    have hll:(laidk x k).length = n + 1:=by rw [HN.out]; simp [laidk]
    have hz:=hu2.size
    simp at hz
    refine hid ⟨fun k' => F k' ∨ (Value.slice A2 (n + 1) c2).ownBlock = some k',⟨_,hB3.out,?_,.inl fp,fun k' hk' => .inr hk',fun k' hk' => ?_⟩,⟨?_,fun k' hk' => ?_⟩⟩
    · rw [hll,show strs (laidk x k) = strs (strike x k) ++ [.string k] from by simp [laidk,strs]]
      exact ho2.upd ((Upd.refl _ _).set1 1 _) fun g hg e => hne g hg e
    · rcases hk' with hk' | hk'
      · have:=lt1 k' hk'
        simp only [World.setCell,Array.size_modify]
        omega
      · have:=(ho2.lt k' hk').2
        simp only [World.setCell,Array.size_modify]
        omega
    · exact ((hu1.alloc _).next (hu2.mono fun k' _ h => fv k' h)).set (p:=⟨p,1,none⟩) (.inl fp) _
    · rcases hk' with hk' | hk'
      · exact .inl hk'
      · rcases hat2 k' hk' with h | h
        · exact .inl (fv k' h)
        · have:=hu1.size
          simp at h
          exact .inr (by omega)
   have HO:=hid (And.intro ho2 (And.intro hu2 hat2))
   clear ho2 hu2 hat2 hne
   generalize w2.setCell ⟨p,1,none⟩ (.slice A2 (n + 1) c2) = w3 at *
   obtain ⟨q0,q1⟩:=box2 hB3.out
   refine wp_region_held_drew (S:=fun W => Blk W p 206 #[.int .i64 room,.slice A2 (n + 1) c2] ∧ Upd No w3 W) (by kernel_rfl) ⟨hB3.out.drew,(Upd.refl _ _).drew⟩ (fun hS => ?_)
   refine zt 0 hS ?_
   refine zt 1 hS ?_
   refine zt 2 hS ?_
   refine zh 3 hS (fun w hw => (box2 hw.1).2) ?_
   refine zt 4 hS ?_
   refine zt 5 hS ?_
   refine zk 6 (fun K hK => ?_)
   go_simp
   refine Calls.mono (most_ hS.1) ?_
   rintro e w' ⟨rfl,rfl⟩
   rw [← HM.out]
   go_wp2_with (fail)
   refine hK.out _ _ (hS) (fun hS => ?_)
   clear hK K
   try simp only [Act.put,zA,zB,zC]
   refine zt 7 hS ?_
   refine wpAnyH_done (by kernel_rfl) ?_ _
   have HS:=hid hS.2
   clear hS
   go_wp2
   go_ret2
   obtain ⟨F',h1,h2⟩:=HE.out
   exact .of ⟨rfl,F',h1.upd HS.out fun _ _ => no_ _,h2.trans ⟨HS.out.mono fun _ _ h => h.elim,fun k' hk' => .inl hk'⟩⟩
 · rw [if_neg hm] at HX
   rw [HX.out]
   have hm':decide ((n:Int) + 1 ≤ mm) = false:=decide_eq_false hm
   clear hm
   obtain ⟨k0,r0,hkr⟩:∃ k0 r0,laidk x k = k0 :: r0:=by
    rcases hl:laidk x k with _ | ⟨k0,r0⟩
    · simp [laidk] at hl
    · exact ⟨k0,r0,rfl⟩
   have hr0:r0.length = n:=by
    have:(laidk x k).length = n + 1:=by rw [HN.out]; simp [laidk]
    rw [hkr] at this
    simpa using this
   rw [hkr]
   have HKR:=hid (And.intro hkr hr0)
   clear hkr hr0
   go_enter Tryz.func115,Tryz.ntmps115
   go_wp2_with (fail)
   refine Calls.mono HD.out ?_
   rintro e w1 ⟨rfl,⟨v,b1,s1,fp,fv,lt1⟩,hu1⟩
   rw [← HN.out] at s1
   obtain ⟨A,c,rfl,hc1,hc2⟩:=s1.shape
   have hvp:∀ k',(Value.slice A n c).ownBlock = some k' → k' ≠ p:=fun k' hk' e => s1.ne b1 (by decide) (by rw [hk',e])
   have HH:=hid (And.intro b1 (And.intro s1 (And.intro fp (And.intro fv (And.intro lt1 (And.intro hu1 hvp))))))
   obtain ⟨d0,d1⟩:=box2 b1
   clear fv lt1 hu1 hvp
   go_wp2_with (at_builtin; go_must (refine ap_sl 0 rfl (.tmp 16) (.tmp 18) 31 9 (.string ⟨#[]⟩) 1 16 rfl Tryz.underlying31 s_info rfl (by omega) (.slice A n c) n (strs (strike x k)) (some ⟨w1.heap.size,0,none⟩) 1 1 [.string k] rfl rfl (Sl.alloc s1 _) (Rd_lit w1 _ 1 1 [.string k] rfl) (by intro u hu; obtain rfl:=List.mem_singleton.1 hu; rfl) (by omega) (by omega) (Nat.zero_le _) ?_); intro A2 c2 w2 ho2 hu2 hat2; have b2:=(HH.out.1.alloc (.cells #[.string k] 9)).upd hu2 (fun e => HH.out.2.2.2.2.2.2 _ e rfl); obtain ⟨e0,e1⟩:=box2 b2; have f1:=b2.free 1)
   have hB3:Hid (Blk (w2.setCell ⟨p,1,none⟩ (.slice A2 (n + 1) c2)) p 206 #[.int .i64 room,.slice A2 (n + 1) c2]):=hid (by simpa using b2.put 1 (.slice A2 (n + 1) c2))
   have hne:∀ k',(Value.slice A2 (n + 1) c2).ownBlock = some k' → k' ≠ p:=fun k' hk' => (hat2 k' hk').elim (fun h => HH.out.2.2.2.2.2.2 k' h) fun h => by
    have h3:=HH.out.2.2.2.2.1 p HH.out.2.2.1
    simp at h
    omega
   have HE:Hid (∃ F',Ta (w2.setCell ⟨p,1,none⟩ (.slice A2 (n + 1) c2)) F' p room (laidk x k) ∧ Mv F F' w (w2.setCell ⟨p,1,none⟩ (.slice A2 (n + 1) c2))):=by
    obtain ⟨b1,s1,fp,fv,lt1,hu1,hvp⟩:=HH.out
    have hll:(laidk x k).length = n + 1:=by rw [HN.out]; simp [laidk]
    have hz:=hu2.size
    simp at hz
    refine hid ⟨fun k' => F k' ∨ (Value.slice A2 (n + 1) c2).ownBlock = some k',⟨_,hB3.out,?_,.inl fp,fun k' hk' => .inr hk',fun k' hk' => ?_⟩,⟨?_,fun k' hk' => ?_⟩⟩
    · rw [hll,show strs (laidk x k) = strs (strike x k) ++ [.string k] from by simp [laidk,strs]]
      exact ho2.upd ((Upd.refl _ _).set1 1 _) fun g hg e => hne g hg e
    · rcases hk' with hk' | hk'
      · have:=lt1 k' hk'
        simp only [World.setCell,Array.size_modify]
        omega
      · have:=(ho2.lt k' hk').2
        simp only [World.setCell,Array.size_modify]
        omega
    · exact ((hu1.alloc _).next (hu2.mono fun k' _ h => fv k' h)).set (p:=⟨p,1,none⟩) (.inl fp) _
    · rcases hk' with hk' | hk'
      · exact .inl hk'
      · rcases hat2 k' hk' with h | h
        · exact .inl (fv k' h)
        · have:=hu1.size
          simp at h
          exact .inr (by omega)
   have HO:=hid (And.intro ho2 (And.intro hu2 hat2))
   clear ho2 hu2 hat2 hne
   generalize w2.setCell ⟨p,1,none⟩ (.slice A2 (n + 1) c2) = w3 at *
   obtain ⟨q0,q1⟩:=box2 hB3.out
   refine wp_region_held_drew (S:=fun W => Blk W p 206 #[.int .i64 room,.slice A2 (n + 1) c2] ∧ Upd No w3 W) (by kernel_rfl) ⟨hB3.out.drew,(Upd.refl _ _).drew⟩ (fun hS => ?_)
   refine zt 0 hS ?_
   refine zt 1 hS ?_
   refine zt 2 hS ?_
   refine zh 3 hS (fun w hw => (box2 hw.1).2) ?_
   refine zt 4 hS ?_
   refine zt 5 hS ?_
   refine zk 6 (fun K hK => ?_)
   go_simp
   refine Calls.mono (most_ hS.1) ?_
   rintro e w' ⟨rfl,rfl⟩
   rw [← HM.out]
   go_wp2_with (fail)
   refine hK.out _ _ (hS) (fun hS => ?_)
   clear hK K
   try simp only [Act.put,zA,zB,zC]
   refine zt 7 hS ?_
   refine wpAnyH_done (by kernel_rfl) ?_ _
   have HS:=hid hS.2
   have hB4:=hid hS.1
   clear hS
   obtain ⟨F',hE1,hE2⟩:=HE.out
   have hT4:=hE1.upd HS.out fun _ _ => no_ _
   have hM4:=hE2.trans (⟨HS.out.mono fun _ _ h => h.elim,fun k' hk' => .inl hk'⟩:Mv F' F' w3 w3.drew)
   generalize w3.drew = w4 at *
   obtain ⟨v4,b4,s4,fp4,fv4,lt4⟩:=hT4
   have hv4:v4 = .slice A2 (n + 1) c2:=by
    have h1:=(box2 b4).2
    rw [(box2 hB4.out).2] at h1
    simpa using h1.symm
   subst hv4
   rw [HKR.out.1] at s4
   have hs4:Sl w4 0 9 1 (.slice A2 (n + 1) c2) (n + 1) (.string k0 :: strs r0):=by
    have e:(k0 :: r0).length = n + 1:=by simp [HKR.out.2]
    rw [e] at s4
    exact s4
   obtain ⟨g9,o9,rfl,q9,hg9⟩:=first_cell hs4
   have hcc:=Sl.cap hs4
   obtain ⟨A5,hA5,hcut⟩:=cut_from (P:=Tryz.prog) 31 9 .i64 Tryz.underlying31 (by kernel_rfl) (some ⟨g9,o9,none⟩) (n + 1) c2 1 1 rfl (by omega)
   have hr5:Rd w4 1 A5 n (strs r0):=by
    rw [hA5]
    exact Rd.drop (k:=1) (Sl.rd hs4) (by omega) hcc.1
   have HC:=hid (clone A5 n (c2 - 1) (strs r0) w4 hr5 (strs_one _) (by omega))
   obtain ⟨z0,z1⟩:=box2 b4
   have HH4:=hid (And.intro b4 (And.intro fp4 (And.intro fv4 (And.intro lt4 (And.intro hM4 hA5)))))
   clear s4 hs4 hcc hr5 fv4 lt4 hM4 hA5 hE1 hE2 HE hB4 HO q0 q1 d0 d1 e0 e1 f1
   go_wp2_with (fail)
   refine Calls.mono HC.out ?_
   rintro e w5 ⟨A6,c6,rfl,ho6,hu6,_⟩
   have b5:=HH4.out.1.upd hu6 (no_ _)
   obtain ⟨y0,y1⟩:=box2 b5
   have y2:=b5.free 1
   have HE:Hid (∃ F',Ta (w5.setCell ⟨p,1,none⟩ (.slice A6 n c6)) F' p room r0 ∧ Mv F F' w (w5.setCell ⟨p,1,none⟩ (.slice A6 n c6))):=by
    obtain ⟨b4,fp4,fv4,lt4,hM4,hA5⟩:=HH4.out
    have h1:=hu6.size
    have h2:=hM4.upd.size
    have hpl:=lt4 p fp4
    have hB6:Blk (w5.setCell ⟨p,1,none⟩ (.slice A6 n c6)) p 206 #[.int .i64 room,.slice A6 n c6]:=by simpa using b5.put 1 (.slice A6 n c6)
    refine hid ⟨fun k' => F' k' ∨ (Value.slice A6 n c6).ownBlock = some k',⟨.slice A6 n c6,hB6,?_,.inl fp4,fun k' hk' => .inr hk',fun k' hk' => ?_⟩,⟨?_,fun k' hk' => ?_⟩⟩
    · rw [HKR.out.2]
      refine (Sl.of_own (own_base ho6 (Nat.zero_le _))).upd ((Upd.refl _ _).set1 1 _) fun g hg e => ?_
      have:=(ho6.lt g hg).1
      omega
    · rcases hk' with hk' | hk'
      · have:=lt4 k' hk'
        simp only [World.setCell,Array.size_modify]
        omega
      · have:=(ho6.lt k' hk').2
        simp only [World.setCell,Array.size_modify]
        omega
    · refine hM4.upd.trans ((hu6.mono fun _ _ h => h.elim:Upd (fun k' => k' = p) w4 w5).set1 1 _) ?_
      rintro i hi rfl
      exact (hM4.sub _ fp4).elim id fun h => by omega
    · rcases hk' with hk' | hk'
      · exact hM4.sub k' hk'
      · have:=(ho6.lt k' hk').1
        exact .inr (by omega)
   have HO6:=hid (And.intro ho6 hu6)
   clear ho6 hu6
   go_wp2
   go_ret2
   exact .of ⟨rfl,HE.out⟩
end At
end
section
namespace At
open Go.RowKit B Df
def clip (r:Int):Int:=if r < 1 then 1 else if 10000 < r then 10000 else r
theorem clip_le (r:Int):1 ≤ clip r ∧ clip r ≤ 10000:=by
 unfold clip
 split
 · omega
 · split <;> omega
theorem mst_clip (r:Int):mst (clip r) = clip r:=by
 have:=clip_le r
 unfold mst
 rw [if_neg (by omega)]
theorem new_ (r:Int) (w:World):Calls Tryz.prog 26 #[.int .i64 r] w fun e w' => e = .returned (.pointer (some ⟨w.heap.size,0,none⟩)) ∧ Ta w' (fun k => k = w.heap.size) w.heap.size (clip r) [] ∧ Upd No w w':=by
 have hT:=fun o => Ta.new (w:=w) (room:=clip r) (o:=o)
 have hU:=fun o => (Upd.refl No w).alloc o
 unfold clip at hT ⊢
 by_cases h1:r < 1
 · simp only [if_pos h1] at hT ⊢
   go_enter Tryz.func26,Tryz.ntmps26
   go_wp2
   go_ret
   exact ⟨rfl,hT _ rfl,hU _⟩
 · simp only [if_neg h1] at hT ⊢
   by_cases h2:10000 < r
   · simp only [if_pos h2] at hT ⊢
     have h3:¬ r ≤ 10000:=by omega
     go_enter Tryz.func26,Tryz.ntmps26
     go_wp2
     go_ret
     exact ⟨rfl,hT _ rfl,hU _⟩
   · simp only [if_neg h2] at hT ⊢
     have h3:r ≤ 10000:=by omega
     go_enter Tryz.func26,Tryz.ntmps26
     go_wp2
     go_ret
     exact ⟨rfl,hT _ rfl,hU _⟩
end At
end
