/- Part 19: lemmas, no conditions. -/
import Derived.Test.YtclfmpieapbfnaaGreatDoorZ07
import Derived.Test.YtclfmpieapbfnaaGreatDoorZ01
import Derived.Test.YtclfmpieapbfnaaGreatDoorZ09
import Derived.Test.YtclfmpieapbfnaaGreatDoorProg
import Derived.Lib.SliceRun
import Derived.Deep.RegionHeld3
import Derived.Deep.RegionLaw
import Derived.Deep.DrawnRows
import Derived.Test.YtclfmpieapbfnaaGreatDoorZ10
set_option maxHeartbeats 2000000
namespace Go.Proofs.YtclfmpieapbfnaaGreatDoor
set_option linter.unusedVariables false
set_option linter.unusedSimpArgs false
section
namespace Dk
open Go.RowKit B Sm
abbrev Pw:=Nat × List Int × Value
def ab (ps:List Pw):List (Nat × List Int):=ps.map fun x => (x.1,x.2.1)
def last (l:List (Nat × List Int)) (i:Nat):Option (List Int):=l.foldl (fun o r => if r.1 = i then some r.2 else o) none
def slot (ps:List Pw) (i:Nat):Value:=ps.foldl (fun o r => if r.1 = i then r.2.2 else o) (.slice none 0 0)
theorem last_snoc (l:List (Nat × List Int)) (r:Nat × List Int) (i:Nat):last (l ++ [r]) i = if r.1 = i then some r.2 else last l i:=by simp [last,List.foldl_append]
theorem slot_snoc (l:List Pw) (r:Pw) (i:Nat):slot (l ++ [r]) i = if r.1 = i then r.2.2 else slot l i:=by simp [slot,List.foldl_append]
theorem slot_acc (ps:List Pw) (i:Nat):∀ (o:Option (List Int)) (v:Value),
 ((ab ps).foldl (fun o r => if r.1 = i then some r.2 else o) o = o ∧ ps.foldl (fun o r => if r.1 = i then r.2.2 else o) v = v) ∨
 ∃ x ∈ ps,x.1 = i ∧ (ab ps).foldl (fun o r => if r.1 = i then some r.2 else o) o = some x.2.1 ∧ ps.foldl (fun o r => if r.1 = i then r.2.2 else o) v = x.2.2:=by
 induction ps with
 | nil => intro o v; exact .inl ⟨rfl,rfl⟩
 | cons r t ih =>
  intro o v
  have e1:(ab (r :: t)).foldl (fun o r => if r.1 = i then some r.2 else o) o = (ab t).foldl (fun o r => if r.1 = i then some r.2 else o) (if r.1 = i then some r.2.1 else o):=rfl
  have e2:(r :: t).foldl (fun o r => if r.1 = i then r.2.2 else o) v = t.foldl (fun o r => if r.1 = i then r.2.2 else o) (if r.1 = i then r.2.2 else v):=rfl
  rw [e1,e2]
  by_cases h:r.1 = i
  · rw [if_pos h,if_pos h]
    rcases ih (some r.2.1) r.2.2 with ⟨h1,h2⟩ | ⟨x,hx,h1⟩
    · exact .inr ⟨r,by simp,h,h1,h2⟩
    · exact .inr ⟨x,by simp [hx],h1⟩
  · rw [if_neg h,if_neg h]
    rcases ih o v with h1 | ⟨x,hx,h1⟩
    · exact .inl h1
    · exact .inr ⟨x,by simp [hx],h1⟩
theorem slot_of (ps:List Pw) (i:Nat):(last (ab ps) i = none ∧ slot ps i = .slice none 0 0) ∨ ∃ x ∈ ps,x.1 = i ∧ last (ab ps) i = some x.2.1 ∧ slot ps i = x.2.2:=slot_acc ps i none (.slice none 0 0)
def wcells (ps:List Pw):List Value:=ps.flatMap fun x => [.int .i64 x.1,x.2.2]
theorem wr_info:(Tryz.prog.info? 383).map (fun i => (i.zero,i.size,i.bytes)) = some (some (.agg #[.int .i64 0,.slice none 0 0]),2,32):=by kernel_rfl
theorem sl_info:(Tryz.prog.info? 22).map (fun i => (i.zero,i.size,i.bytes)) = some (some (.slice none 0 0),1,24):=by kernel_rfl
theorem u8_info:(Tryz.prog.info? 5).map (fun i => (i.zero,i.size,i.bytes)) = some (some (.int .u8 0),1,1):=by kernel_rfl
theorem clone_info:(Tryz.prog.info? 5).map (fun i => (i.zero,i.size,i.bytes)) = some (some (.int .u8 0),1,1):=by kernel_rfl
theorem clone (A:Option Addr) (n c:Nat) (xs:List Value) (w:World) (hr:Rd w 1 A n xs) (h1:∀ u ∈ xs,u.oneCell' = true) (hn:n * 1 ≤ 140737488355328) :
 Calls Tryz.prog 90 #[.slice A n c] w fun e w' => ∃ A' c',e = .returned (.slice A' n c') ∧ w'.ownsRow w.heap.size 5 1 (.slice A' n c') n xs ∧ Upd No w w' ∧ (A = none → A' = none):=by
 have q:∀ (w:World) (a:Option Addr) (n c n' c':Nat),(binOp .eql 22 (.slice a n c) (.slice none n' c')).run Tryz.prog w = .ok (.bool a.isNone) w:=fun w a n c n' c' => Go.Lib.run_eql_slice_nil w _ _ a n c n' c' Tryz.underlying22
 rcases A with _ | ad
 · obtain rfl:n = 0:=by
    rcases Nat.eq_zero_or_pos n with h0 | h0
    · exact h0
    · obtain ⟨ad,h,_⟩:=hr.2 h0
      cases h
   obtain rfl:xs = []:=List.eq_nil_of_length_eq_zero (by simpa using hr.1)
   go_enter Tryz.func90,Tryz.ntmps90
   go_wp2
   go_ret
   exact ⟨none,0,rfl,⟨by simp,.inl ⟨rfl,rfl⟩⟩,Upd.refl _ _,fun _ => rfl⟩
 · go_enter Tryz.func90,Tryz.ntmps90
   go_wp2_with (at_builtin; refine ap_row w.heap.size rfl _ _ 22 5 (.int .u8 0) 1 1 rfl Tryz.underlying22 clone_info rfl (by omega) (.slice (some ⟨w.heap.size,0,none⟩) 0 0) 0 [] (some ad) n c xs rfl rfl (World.ownsRow_made w #[] 0 (Nat.le_refl _) (Nat.zero_le _) rfl) (Rd.alloc hr (by omega) _) h1 (by omega) (by omega) (by simp) ?_; intro A1 c1 w1 ho hg hat; rw [Nat.zero_add,List.nil_append] at ho; rw [Nat.zero_add])
   go_wp2
   go_ret
   refine ⟨A1,c1,rfl,ho,?_,fun h => by cases h⟩
   have h5:Upd No w (w.alloc (.cells #[] 5)):=(Upd.refl _ _).alloc _
   exact h5.grown hg fun k hk => by
    have:w.heap.size = k:=by simpa [Value.ownBlock] using hk
    exact .inr (by omega)
structure Dm where
 nb:Nat
 log:List (Nat × List Int)
 fuse:Int
 down:Bool
def Dm.ok (m:Dm):Prop:=-1 ≤ m.fuse ∧ m.fuse ≤ 9223372036854775807 ∧ m.nb ≤ 65536
def Dm.wr (m:Dm) (i:Int) (b:List Int):Int × Dm:=
 if m.down then (9,m) else if i < 0 ∨ (m.nb:Int) ≤ i ∨ b.length ≠ 256 then (1,m)
 else if m.fuse = 0 then (9,{ m with down:=true })
 else (0,{ m with fuse:=if 0 < m.fuse then m.fuse - 1 else m.fuse,log:=m.log ++ [(i.toNat,b)] })
def Dm.rd (m:Dm) (i:Int):List Int × Int:=
 if m.down then ([],9) else if i < 0 ∨ (m.nb:Int) ≤ i then ([],1) else ((last m.log i.toNat).getD (List.replicate 256 0),0)
theorem wr_zero (nb:Nat) (log:List (Nat × List Int)) (j:Nat) (l:List Int) (hj:j < nb) (hl:l.length = 256):Dm.wr ⟨nb,log,0,false⟩ (j:Int) l = (9,⟨nb,log,0,true⟩):=by
 have h:¬ ((j:Int) < 0 ∨ (nb:Int) ≤ j ∨ l.length ≠ 256):=by omega
 unfold Dm.wr
 rw [if_neg (by simp),if_neg h,if_pos rfl]
theorem wr_ok (nb:Nat) (log:List (Nat × List Int)) (f:Int) (j:Nat) (l:List Int) (hj:j < nb) (hl:l.length = 256) (hf:f ≠ 0):Dm.wr ⟨nb,log,f,false⟩ (j:Int) l = (0,⟨nb,log ++ [(j,l)],if 0 < f then f - 1 else f,false⟩):=by
 have h:¬ ((j:Int) < 0 ∨ (nb:Int) ≤ j ∨ l.length ≠ 256):=by omega
 unfold Dm.wr
 rw [if_neg (by simp),if_neg h,if_neg hf]
 simp
def Okb (w:World) (F:Nat → Prop) (x:Pw):Prop:=∃ g c,x.2.2 = .slice (some ⟨g,0,none⟩) 256 c ∧ F g ∧ w.ownsRow 0 5 1 x.2.2 256 (nums .u8 x.2.1)
def Dk (w:World) (F:Nat → Prop) (p:Nat) (m:Dm):Prop:=
 ∃ (ps:List Pw) (g:Nat) (vl:Value),ab ps = m.log ∧
  Blk w p 122 #[.slice (some ⟨g,0,none⟩) m.nb m.nb,vl,.int .i64 m.fuse,.bool m.down] ∧
  Blk w g 22 ((List.range m.nb).map (slot ps)).toArray ∧
  w.ownsRow 0 383 2 vl ps.length (wcells ps) ∧
  (∀ x ∈ ps,Okb w F x) ∧ F p ∧ F g ∧ (∀ k,vl.ownBlock = some k → F k) ∧ (∀ k,F k → k < w.heap.size)
section
variable {w w':World} {F G:Nat → Prop} {p:Nat} {m:Dm}
theorem Okb.upd {x:Pw} (h:Okb w F x) (hu:Upd G w w') (hn:∀ k,F k → ¬ G k):Okb w' F x:=by
 obtain ⟨g,c,e,hF,ho⟩:=h
 refine ⟨g,c,e,hF,own_upd ho hu fun k hk => ?_⟩
 rw [e] at hk
 have:g = k:=by simpa [Value.ownBlock] using hk
 exact hn k (this ▸ hF)
theorem Okb.keep {x:Pw} (h:Okb w F x) (hk:∀ g,x.2.2.ownBlock = some g → w'.heap[g]? = w.heap[g]?):Okb w' F x:=by
 obtain ⟨g,c,e,hF,ho⟩:=h
 exact ⟨g,c,e,hF,own_keep ho hk⟩
theorem Dk.upd (h:Dk w F p m) (hu:Upd G w w') (hn:∀ k,F k → ¬ G k):Dk w' F p m:=by
 obtain ⟨ps,g,vl,h1,h2,h3,h4,h5,h6,h7,h8,h9⟩:=h
 exact ⟨ps,g,vl,h1,h2.upd hu (hn _ h6),h3.upd hu (hn _ h7),own_upd h4 hu fun k hk => hn k (h8 k hk),fun x hx => (h5 x hx).upd hu hn,h6,h7,h8,fun k hk => Nat.lt_of_lt_of_le (h9 k hk) hu.size⟩
theorem Dk.lt (h:Dk w F p m):∀ k,F k → k < w.heap.size:=by
 obtain ⟨ps,g,vl,h1,h2,h3,h4,h5,h6,h7,h8,h9⟩:=h
 exact h9
theorem Okb.ne {x:Pw} (h:Okb w F x) {q:Nat} {t:TypeId} {cs:Array Value} (hq:Blk w q t cs) (ht:5 ≠ t):∀ g,x.2.2.ownBlock = some g → g ≠ q:=by
 obtain ⟨g,c,e,hF,ho⟩:=h
 rintro k hk rfl
 exact own_blk_ne ho hq ht hk
theorem Dk.word (h:Dk w F p m) (f:Int) (d:Bool) (hb:∀ a b,Blk w p 122 #[a,b,.int .i64 m.fuse,.bool m.down] → Blk w' p 122 #[a,b,.int .i64 f,.bool d]) (hu:Upd (fun k => k = p) w w') :
 Dk w' F p { m with fuse:=f,down:=d }:=by
 obtain ⟨ps,g,vl,h1,h2,h3,h4,h5,h6,h7,h8,h9⟩:=h
 refine ⟨ps,g,vl,h1,hb _ _ h2,h3.upd hu (Blk.ne_type h3 h2 (by decide)),own_upd h4 hu fun k hk => ?_,fun x hx => (h5 x hx).keep fun k hk => hu.block k ?_ ((h5 x hx).ne h2 (by decide) k hk),h6,h7,h8,fun k hk => Nat.lt_of_lt_of_le (h9 k hk) hu.size⟩
 · rintro rfl
   exact own_blk_ne h4 h2 (by decide) hk
 · obtain ⟨g',c,e,hF,ho⟩:=h5 x hx
   exact (ho.lt k hk).2
end
theorem Rd_lit (w:World) (t:TypeId) (size n:Nat) (xs:List Value) (h:xs.length = n * size):Rd (w.alloc (.cells xs.toArray t)) size (some ⟨w.heap.size,0,none⟩) n xs:=by
 refine ⟨h,fun _ => ⟨_,rfl,fun j u hu => ?_⟩⟩
 rw [add_plain,cell_of_row _ _ _ _ t (0,0) (heap_alloc_new w _)]
 simpa using hu
theorem Dk.wrote {w w2 w3:World} {F:Nat → Prop} {p g:Nat} {m:Dm} {ps:List Pw} {vl:Value} {i:Nat} {l:List Int} {g' c':Nat} {A3:Option Addr} {c3:Nat}
 (h1:ab ps = m.log) (h2:Blk w p 122 #[.slice (some ⟨g,0,none⟩) m.nb m.nb,vl,.int .i64 m.fuse,.bool m.down]) (h3:Blk w g 22 ((List.range m.nb).map (slot ps)).toArray)
 (h4:w.ownsRow 0 383 2 vl ps.length (wcells ps)) (h5:∀ x ∈ ps,Okb w F x) (h6:F p) (h7:F g) (h8:∀ k,vl.ownBlock = some k → F k) (h9:∀ k,F k → k < w.heap.size)
 (hv:w.ownsRow 0 5 1 (.slice (some ⟨g',0,none⟩) 256 c') 256 (nums .u8 l)) (hi:i < m.nb) (hu2:Upd (fun k => k = g) w w2) (hg2:Blk w2 g 22 (((List.range m.nb).map (slot ps)).toArray.setIfInBounds i (.slice (some ⟨g',0,none⟩) 256 c')))
 (ho:w3.ownsRow 0 383 2 (.slice A3 (ps.length + 1) c3) (ps.length + 1) (wcells ps ++ [.int .i64 i,.slice (some ⟨g',0,none⟩) 256 c'])) (hg:w2.grownBy w3 vl.ownBlock)
 (hat:∀ k,(Value.slice A3 (ps.length + 1) c3).ownBlock = some k → vl.ownBlock = some k ∨ w2.heap.size ≤ k) :
 ∃ F',Dk (w3.setCell ⟨p,1,none⟩ (.slice A3 (ps.length + 1) c3)) F' p { m with log:=m.log ++ [(i,l)] } ∧ Upd F w (w3.setCell ⟨p,1,none⟩ (.slice A3 (ps.length + 1) c3)) ∧ ∀ k,F' k → F k ∨ k = g' ∨ w.heap.size ≤ k:=by
 have hpg:p ≠ g:=Blk.ne_type h2 h3 (by decide)
 have hb2:Blk w2 p 122 #[.slice (some ⟨g,0,none⟩) m.nb m.nb,vl,.int .i64 m.fuse,.bool m.down]:=h2.upd hu2 hpg
 have hp3:=hb2.grown hg (own_blk_ne h4 h2 (by decide)).symm
 have hnep:=own_blk_ne ho hp3 (by decide)
 have hg3:=hg2.grown hg (own_blk_ne h4 h3 (by decide)).symm
 have hug:∀ k,vl.ownBlock = some k → k ≠ g:=fun k hk e => own_blk_ne h4 h3 (by decide) (e ▸ hk)
 have hup:∀ k,vl.ownBlock = some k → k ≠ p:=fun k hk e => own_blk_ne h4 h2 (by decide) (e ▸ hk)
 -- a block of bytes stays
 have byt:∀ {v:Value} {n:Nat} {l:List Value},w.ownsRow 0 5 1 v n l → (w3.setCell ⟨p,1,none⟩ (.slice A3 (ps.length + 1) c3)).ownsRow 0 5 1 v n l:=by
  intro v n l hv
  refine own_keep hv fun k hk => ?_
  have hkl:=(hv.lt k hk).2
  have hkp:k ≠ p:=fun e => own_blk_ne hv h2 (by decide) (e ▸ hk)
  have hkg:k ≠ g:=fun e => own_blk_ne hv h3 (by decide) (e ▸ hk)
  rw [Below.heap_setCell _ _ _ k hkp,hg.block k (Nat.lt_of_lt_of_le hkl hu2.size) ?_,hu2.block k hkl hkg]
  exact fun e => own_own_ne hv h4 (by decide) hk e.symm
 have hsub:∀ k,(Value.slice A3 (ps.length + 1) c3).ownBlock = some k → F k ∨ w.heap.size ≤ k:=fun k hk => (hat k hk).elim (fun h => .inl (h8 k h)) fun h => .inr (Nat.le_trans hu2.size h)
 have hsz:w.heap.size ≤ (w3.setCell ⟨p,1,none⟩ (.slice A3 (ps.length + 1) c3)).heap.size:=by
  have h1:=hu2.size
  have h2:=hg.size
  simp [World.setCell]
  omega
 refine ⟨fun k => F k ∨ k = g' ∨ (Value.slice A3 (ps.length + 1) c3).ownBlock = some k,⟨ps ++ [(i,l,.slice (some ⟨g',0,none⟩) 256 c')],g,.slice A3 (ps.length + 1) c3,?_,?_,?_,?_,?_,.inl h6,.inl h7,fun k hk => .inr (.inr hk),?_⟩,?_,?_⟩
 · simp [ab,← h1]
 · have:=hp3.put 1 (.slice A3 (ps.length + 1) c3)
   simpa using this
 · have:=hg3.far (p:=⟨p,1,none⟩) (Ne.symm hpg) (.slice A3 (ps.length + 1) c3)
   refine (Eq.trans this ?_:_)
   congr 2
   apply Array.ext'
   apply List.ext_getElem
   · simp
   · intro j h1 h2
     simp [List.getElem_set,slot_snoc]
 · have e:wcells (ps ++ [(i,l,.slice (some ⟨g',0,none⟩) 256 c')]) = wcells ps ++ [.int .i64 i,.slice (some ⟨g',0,none⟩) 256 c']:=by simp [wcells]
   rw [List.length_append,e]
   exact own_keep ho fun k hk => Below.heap_setCell _ _ _ _ (by rintro rfl; exact hnep hk)
 · intro x hx
   rcases List.mem_append.1 hx with hx | hx
   · obtain ⟨gx,cx,e,hF,hox⟩:=h5 x hx
     exact ⟨gx,cx,e,.inl hF,byt hox⟩
   · obtain rfl:x = _:=List.mem_singleton.1 hx
     exact ⟨g',c',rfl,.inr (.inl rfl),byt hv⟩
 · rintro k (hk | rfl | hk)
   · exact Nat.lt_of_lt_of_le (h9 k hk) hsz
   · exact Nat.lt_of_lt_of_le (hv.lt _ rfl).2 hsz
   · have:=(ho.lt k hk).2
     simpa [World.setCell] using this
 · exact ((hu2.mono fun k _ hk => hk ▸ h7).grown hg fun k hk => .inl (h8 k hk)).set (.inl h6) _
 · rintro k (hk | rfl | hk)
   · exact .inl hk
   · exact .inr (.inl rfl)
   · exact (hsub k hk).imp id .inr
theorem Dk.new {w w2:World} {g N:Nat} {w1:World} (hg:Blk w1 g 22 (List.replicate N (Value.slice none 0 0)).toArray) (hu:Upd No w w1) (he:g = w.heap.size) (hs:w1.heap.size = w.heap.size + 1)
 (hw2:w2 = w1.alloc (.cells #[.slice (some ⟨g,0,none⟩) N N,.slice none 0 0,.int .i64 (-1),.bool false] 122)) :
 Dk w2 (fun k => k = g ∨ k = w1.heap.size) w1.heap.size ⟨N,[],-1,false⟩ ∧ Below w.heap.size w w2 ∧ ∀ k,(k = g ∨ k = w1.heap.size) → w.heap.size ≤ k:=by
 have hlt:=hg.lt
 subst hw2
 refine ⟨⟨[],g,.slice none 0 0,rfl,Blk.fresh _ _ _,?_,World.ownsRow_nil _ _ _ _,fun x hx => (by cases hx),.inr rfl,.inl rfl,fun k hk => by simp [Value.ownBlock] at hk,?_⟩,(hu.alloc _).old (Nat.le_refl _),?_⟩
 · have e:(List.range N).map (slot []) = List.replicate N (Value.slice none 0 0):=by
    apply List.ext_getElem
    · simp
    · intro i h1 h2
      simp [slot]
   rw [e]
   exact hg.alloc _
 · rintro k (rfl | rfl)
   · simp; omega
   · simp
 · rintro k (rfl | rfl) <;> omega
theorem new_ (n:Int) (w:World):Calls Tryz.prog 7 #[.int .i64 n] w fun e w' => ∃ p F,e = .returned (.pointer (some ⟨p,0,none⟩)) ∧ Dk w' F p ⟨(min (max n 0) 65536).toNat,[],-1,false⟩ ∧ Below w.heap.size w w' ∧ ∀ k,F k → w.heap.size ≤ k:=by
 have hcase:n < 0 ∨ (0 ≤ n ∧ 65536 < n) ∨ (0 ≤ n ∧ n ≤ 65536):=by omega
 rcases hcase with h0 | ⟨h0,h1⟩ | ⟨h0,h1⟩
 · rw [show (min (max n 0) 65536).toNat = 0 from by omega]
   go_enter Tryz.func7,Tryz.ntmps7
   go_wp2_with (at_make; go_must (refine mk_blk rfl _ _ 119 22 (.slice none 0 0) 24 rfl Tryz.underlying119 sl_info rfl 0 0 rfl rfl rfl (by omega) (by omega) ?_); intro w1 g hgA hn1 hu1 hsA; have hg1:=hid hgA; have hs1:=hid hsA; clear hgA hsA)
   obtain ⟨k1,k2,k3⟩:=Dk.new hn1 hu1 hg1.out hs1.out rfl
   go_ret
   exact ⟨_,_,rfl,k1,k2,k3⟩
 · rw [show (min (max n 0) 65536).toNat = 65536 from by omega]
   go_enter Tryz.func7,Tryz.ntmps7
   go_wp2_with (at_make; go_must (refine mk_blk rfl _ _ 119 22 (.slice none 0 0) 24 rfl Tryz.underlying119 sl_info rfl 65536 65536 rfl rfl rfl (by omega) (by omega) ?_); intro w1 g hgA hn1 hu1 hsA; have hg1:=hid hgA; have hs1:=hid hsA; clear hgA hsA)
   obtain ⟨k1,k2,k3⟩:=Dk.new hn1 hu1 hg1.out hs1.out rfl
   go_ret
   exact ⟨_,_,rfl,k1,k2,k3⟩
 · obtain ⟨N,rfl⟩:∃ N:Nat,n = (N:Int):=⟨n.toNat,by omega⟩
   rw [show (min (max (N:Int) 0) 65536).toNat = N from by omega]
   go_enter Tryz.func7,Tryz.ntmps7
   go_wp2_with (at_make; go_must (refine mk_blk rfl _ _ 119 22 (.slice none 0 0) 24 rfl Tryz.underlying119 sl_info rfl N N rfl rfl rfl (by omega) (by omega) ?_); intro w1 g hgA hn1 hu1 hsA; have hg1:=hid hgA; have hs1:=hid hsA; clear hgA hsA)
   obtain ⟨k1,k2,k3⟩:=Dk.new hn1 hu1 hg1.out hs1.out rfl
   go_ret
   exact ⟨_,_,rfl,k1,k2,k3⟩
theorem write (p:Nat) (m:Dm) (F:Nat → Prop) (A:Option Addr) (c:Nat) (l:List Int) (i:Int) (w:World) (h:Dk w F p m) (hr:Rn w .u8 A l) (hF:∀ ad,A = some ad → ¬ F ad.block) (hok:m.ok) (hlen:m.log.length ≤ 1000000) :
 Calls Tryz.prog 177 #[.pointer (some ⟨p,0,none⟩),.int .i64 i,.slice A l.length c] w fun e w' => e = .returned (.int .i64 (m.wr i l).1) ∧ ∃ F',Dk w' F' p (m.wr i l).2 ∧ Mv F F' w w':=by
 have h':=hid h
 obtain ⟨ps,g,vl,h1,h2,h3,h4,h5,h6,h7,h8,h9⟩:=h
 obtain ⟨nb,log,fuse,down⟩:=m
 simp only at h1 h2 h3 hlen
 have hc0:=h2.cell 0
 have hc2:=h2.cell 2
 have hc3:=h2.cell 3
 simp at hc0 hc2 hc3
 have hf2:=h2.free 2
 have hf3:=h2.free 3
 obtain ⟨hk1,hk2,hk3⟩:=hok
 simp only at hk1 hk2 hk3
 cases down with
 | true =>
  go_enter Tryz.func177,Tryz.ntmps177
  go_wp2
  go_ret
  exact ⟨rfl,F,h'.out,Mv.refl _ _⟩
 | false =>
  by_cases hbad:i < 0 ∨ (nb:Int) ≤ i ∨ l.length ≠ 256
  · have e:(Dm.wr ⟨nb,log,fuse,false⟩ i l) = (1,⟨nb,log,fuse,false⟩):=by simp [Dm.wr,hbad]
    rw [e]
    rcases hbad with hb | hb | hb
    · go_enter Tryz.func177,Tryz.ntmps177
      go_wp2
      go_ret
      exact ⟨rfl,F,h'.out,Mv.refl _ _⟩
    · have h0:¬ i < 0:=by omega
      go_enter Tryz.func177,Tryz.ntmps177
      go_wp2
      go_ret
      exact ⟨rfl,F,h'.out,Mv.refl _ _⟩
    · have hb':¬ (l.length:Int) = 256:=by omega
      by_cases h0:i < 0
      · go_enter Tryz.func177,Tryz.ntmps177
        go_wp2
        go_ret
        exact ⟨rfl,F,h'.out,Mv.refl _ _⟩
      · by_cases h1:(nb:Int) ≤ i
        · go_enter Tryz.func177,Tryz.ntmps177
          go_wp2
          go_ret
          exact ⟨rfl,F,h'.out,Mv.refl _ _⟩
        · go_enter Tryz.func177,Tryz.ntmps177
          go_wp2
          go_ret
          exact ⟨rfl,F,h'.out,Mv.refl _ _⟩
  · obtain ⟨j,rfl⟩:∃ j:Nat,i = (j:Int):=⟨i.toNat,by omega⟩
    obtain ⟨hl,hj⟩:l.length = 256 ∧ j < nb:=by omega
    by_cases hf0:fuse = 0
    · subst hf0
      rw [wr_zero nb log j l hj hl]
      clear hbad
      rw [hl]
      go_enter Tryz.func177,Tryz.ntmps177
      go_wp2
      go_ret
      refine ⟨rfl,F,h'.out.word 0 true (fun a b hb => by simpa using hb.put 3 (.bool true)) ((Upd.refl _ _).set1 _ _),(((Upd.refl _ _).set1 _ _).mono fun k _ hk => hk ▸ h6),fun k hk => .inl hk⟩
    · rw [wr_ok nb log fuse j l hj hl hf0]
      clear hbad
      rw [hl]
      by_cases hfp:0 < fuse
      · rw [if_pos hfp]
        obtain ⟨f1,hf1e⟩:∃ f1:Int,f1 = fuse - 1:=⟨_,rfl⟩
        rw [← hf1e]
        have hwf:IntKind.i64.wrap (fuse - 1) = f1:=by rw [hf1e]; exact IntWalk.i64_in _ (by omega)
        have hD0:Hid (Dk (w.setCell ⟨p,2,none⟩ (.int .i64 f1)) F p ⟨nb,log,f1,false⟩):=hid (h'.out.word f1 false (fun a b hb => by simpa using hb.put 2 (.int .i64 f1)) ((Upd.refl _ _).set1 _ _))
        have HU0:Hid (Upd F w (w.setCell ⟨p,2,none⟩ (.int .i64 f1))):=hid ((Upd.refl _ _).set (.inl h6) _)
        have hr0:Hid (Rn (w.setCell ⟨p,2,none⟩ (.int .i64 f1)) .u8 A l):=hid (Rd.upd hr (by omega) HU0.out hF)
        clear h2 h3 hf1e
        go_enter Tryz.func177,Tryz.ntmps177
        go_wp2_with (fail)
        generalize hw1:w.setCell ⟨p,2,none⟩ (.int .i64 f1) = w1 at *
        clear hw1
        have hD1:=hD0
        have HU:=HU0
        have hrn1:Rd w1 1 A l.length (nums .u8 l):=hr0.out
        obtain ⟨ps1,g1,vl1,k1,k2,k3,k4,k5,k6,k7,k8,k9⟩:=hD1.out
        simp only at k1 k2 k3
        have hlp:ps1.length ≤ 1000000:=by
         have:=congrArg List.length k1
         simp [ab] at this
         omega
        have hpg:p ≠ g1:=Blk.ne_type k2 k3 (by decide)
        have HC:Hid (∀ W,Upd No w1 W → Calls Tryz.prog 90 #[.slice A 256 c] W fun e W' => ∃ g' c',e = .returned (.slice (some ⟨g',0,none⟩) 256 c') ∧ W'.ownsRow 0 5 1 (.slice (some ⟨g',0,none⟩) 256 c') 256 (nums .u8 l) ∧ Hid (w1.heap.size ≤ g') ∧ Upd No w1 W' ∧ W'.cell? ⟨p,0,none⟩ = some (.slice (some ⟨g1,0,none⟩) nb nb) ∧ W'.cell? ⟨g1,j,none⟩ = some (slot ps1 j) ∧ W'.frozen? ⟨g1,j,none⟩ = false):=hid fun W hu => by
         have hrW:=Rd.upd hrn1 (by omega) hu (fun ad _ => no_ _)
         rw [hl] at hrW
         refine (clone A 256 c (nums .u8 l) W hrW (nums_one .u8 l) (by omega)).mono ?_
         rintro e W' ⟨A',c',rfl,ho,hu',_⟩
         obtain ⟨g',c2,hv,hg',_⟩:=ho.form (by omega)
         simp only [Value.slice.injEq,true_and] at hv
         obtain ⟨rfl,rfl⟩:=hv
         have hu2:=hu.next hu'
         have k3':=k3.upd hu2 (no_ _)
         have e3:=k3'.cell j
         refine ⟨g',c',rfl,own_base ho (Nat.zero_le _),hid (Nat.le_trans hu.size hg'),hu2,?_,?_,k3'.free j⟩
         · have:=(k2.upd hu2 (no_ _)).cell 0
           simpa using this
         · simpa [hj] using e3
        have kc0:=k2.cell 0
        have kc1:=k2.cell 1
        simp at kc0 kc1
        have hj1:(0:Int) ≤ (j:Int):=by omega
        have hj2:(j:Int) < (nb:Int):=by omega
        have HL0:Hid (∀ W,Upd (fun k => k = g1) w1 W → W.cell? ⟨p,0,none⟩ = some (.slice (some ⟨g1,0,none⟩) nb nb)):=hid fun W hu => (hu.cell k2.lt hpg).trans kc0
        refine wp_region_held_drew (S:=fun W => Upd (fun k => k = g1) w1 W) (by kernel_rfl) (Upd.drew (Upd.refl _ _)) (fun hS => ?_)
        refine zt 0 hS ?_
        refine zt 1 hS ?_
        refine zt 2 hS ?_
        refine zh 3 hS (fun w hw => HL0.out w hw) ?_
        refine zt 4 hS ?_
        refine zt 5 hS ?_
        refine zk 6 (fun K hK => ?_)
        go_simp
        refine Calls.mono (HC.out _ (Upd.drew (Upd.refl _ _))) ?_
        rintro e w2 ⟨g2,c2,rfl,hv2,hg2,hu2,hd0,hd1,hd2⟩
        go_wp2_with (fail)
        refine hK.out _ _ (hu2.mono (fun _ _ h => h.elim)) (fun hS => ?_)
        clear hK K
        try simp only [Act.put,zA,zB,zC]
        refine zt 7 hS ?_
        refine zk 8 (fun K hK => ?_)
        go_simp
        refine hK.out _ _ (Upd.set1 (hu2.mono (fun _ _ h => h.elim)) _ _) (fun hS => ?_)
        clear hK K
        try simp only [Act.put,zA,zB,zC]
        refine wpAnyH_done (by kernel_rfl) ?_ _
        have q2:=k2.upd hu2 (no_ _)
        have q3:=k3.upd hu2 (no_ _)
        have q4:=own_upd k4 hu2 (fun _ _ => no_ _)
        have q5:∀ x ∈ ps1,Okb w2 F x:=fun x hx => (k5 x hx).upd hu2 (fun _ _ => no_ _)
        have u3:Upd (fun k => k = g1) w2 (w2.setCell ⟨g1,j,none⟩ (.slice (some ⟨g2,0,none⟩) 256 c2)):=(Upd.refl _ _).set1 _ _
        have b3:=q3.put j (.slice (some ⟨g2,0,none⟩) 256 c2)
        have p3:=q2.upd u3 hpg
        have o3:=own_upd q4 u3 (fun k hk e => own_blk_ne q4 q3 (by decide) (e ▸ hk))
        have e0:=p3.cell 0
        have e1:=p3.cell 1
        have e2:=b3.cell j
        simp [hj] at e0 e1 e2
        clear hd0 hd1 hd2 hS
        generalize hw3:w2.setCell ⟨g1,j,none⟩ (.slice (some ⟨g2,0,none⟩) 256 c2) = w3 at *
        clear hw3
        have e3:∀ o,(w3.alloc o).cell? ⟨p,1,none⟩ = some vl1:=fun o => by simpa using (p3.alloc o).cell 1
        have hle1:ps1.length + 1 ≤ 9223372036854775807:=by omega
        have hle2:(ps1.length + 1) * 32 ≤ 140737488355328:=by omega
        go_wp2
        go_region_law ((refine step_ap_row 0 (by rfl) (.tmp 67) (.tmp 77) 120 383 (.agg #[.int .i64 0,.slice none 0 0]) 2 32 (by rfl) Tryz.underlying120 wr_info rfl (by omega) vl1 ps1.length (wcells ps1) (some ⟨w3.heap.size,0,none⟩) 1 1 [.int .i64 j,.slice (some ⟨g2,0,none⟩) 256 c2] (by rfl) (by rfl) (own_drew (o3.alloc _)) (Rd.drew (Rd_lit w3 _ 2 1 _ rfl)) (by intro u hu; simp at hu; rcases hu with rfl | rfl <;> rfl) hle1 hle2 (Nat.zero_le _) ?_; intro A3 c3 w4 ho4 hg4 hat4; have p4:=((p3.alloc _).drew).grown hg4 (own_blk_ne o3 p3 (by decide)).symm; have hf4:=p4.free 1; have hc4:=p4.cell 1; simp at hc4))
        all_goals
         obtain ⟨F',hD,hU,hs⟩:=Dk.wrote (m:=⟨nb,log,f1,false⟩) k1 q2 q3 q4 q5 k6 k7 k8 (fun k hk => Nat.lt_of_lt_of_le (k9 k hk) hu2.size) hv2 hj (u3.alloc _).drew ((b3.alloc _).drew) ho4 hg4 hat4
         go_wp2
         go_ret
         refine ⟨rfl,F',hD,((HU.out.trans hu2 (fun _ _ h => h.elim)).trans hU fun _ _ h => h),fun k hk => (hs k hk).imp id fun h => ?_⟩
         have hsz:=HU.out.size
         have hsz2:=hu2.size
         have hg2':=hg2.out
         omega
      · rw [if_neg hfp]
        clear h2 h3
        go_enter Tryz.func177,Tryz.ntmps177
        go_wp2_with (fail)
        obtain ⟨w1,rfl⟩:∃ w1:World,w1 = w:=⟨_,rfl⟩
        have hD1:=h'
        have HU:Hid (Upd F w1 w1):=hid (Upd.refl _ _)
        have hrn1:Rd w1 1 A l.length (nums .u8 l):=hr
        obtain ⟨ps1,g1,vl1,k1,k2,k3,k4,k5,k6,k7,k8,k9⟩:=hD1.out
        simp only at k1 k2 k3
        have hlp:ps1.length ≤ 1000000:=by
         have:=congrArg List.length k1
         simp [ab] at this
         omega
        have hpg:p ≠ g1:=Blk.ne_type k2 k3 (by decide)
        have HC:Hid (∀ W,Upd No w1 W → Calls Tryz.prog 90 #[.slice A 256 c] W fun e W' => ∃ g' c',e = .returned (.slice (some ⟨g',0,none⟩) 256 c') ∧ W'.ownsRow 0 5 1 (.slice (some ⟨g',0,none⟩) 256 c') 256 (nums .u8 l) ∧ Hid (w1.heap.size ≤ g') ∧ Upd No w1 W' ∧ W'.cell? ⟨p,0,none⟩ = some (.slice (some ⟨g1,0,none⟩) nb nb) ∧ W'.cell? ⟨g1,j,none⟩ = some (slot ps1 j) ∧ W'.frozen? ⟨g1,j,none⟩ = false):=hid fun W hu => by
         have hrW:=Rd.upd hrn1 (by omega) hu (fun ad _ => no_ _)
         rw [hl] at hrW
         refine (clone A 256 c (nums .u8 l) W hrW (nums_one .u8 l) (by omega)).mono ?_
         rintro e W' ⟨A',c',rfl,ho,hu',_⟩
         obtain ⟨g',c2,hv,hg',_⟩:=ho.form (by omega)
         simp only [Value.slice.injEq,true_and] at hv
         obtain ⟨rfl,rfl⟩:=hv
         have hu2:=hu.next hu'
         have k3':=k3.upd hu2 (no_ _)
         have e3:=k3'.cell j
         refine ⟨g',c',rfl,own_base ho (Nat.zero_le _),hid (Nat.le_trans hu.size hg'),hu2,?_,?_,k3'.free j⟩
         · have:=(k2.upd hu2 (no_ _)).cell 0
           simpa using this
         · simpa [hj] using e3
        have kc0:=k2.cell 0
        have kc1:=k2.cell 1
        simp at kc0 kc1
        have hj1:(0:Int) ≤ (j:Int):=by omega
        have hj2:(j:Int) < (nb:Int):=by omega
        have HL0:Hid (∀ W,Upd (fun k => k = g1) w1 W → W.cell? ⟨p,0,none⟩ = some (.slice (some ⟨g1,0,none⟩) nb nb)):=hid fun W hu => (hu.cell k2.lt hpg).trans kc0
        refine wp_region_held_drew (S:=fun W => Upd (fun k => k = g1) w1 W) (by kernel_rfl) (Upd.drew (Upd.refl _ _)) (fun hS => ?_)
        refine zt 0 hS ?_
        refine zt 1 hS ?_
        refine zt 2 hS ?_
        refine zh 3 hS (fun w hw => HL0.out w hw) ?_
        refine zt 4 hS ?_
        refine zt 5 hS ?_
        refine zk 6 (fun K hK => ?_)
        go_simp
        refine Calls.mono (HC.out _ (Upd.drew (Upd.refl _ _))) ?_
        rintro e w2 ⟨g2,c2,rfl,hv2,hg2,hu2,hd0,hd1,hd2⟩
        go_wp2_with (fail)
        refine hK.out _ _ (hu2.mono (fun _ _ h => h.elim)) (fun hS => ?_)
        clear hK K
        try simp only [Act.put,zA,zB,zC]
        refine zt 7 hS ?_
        refine zk 8 (fun K hK => ?_)
        go_simp
        refine hK.out _ _ (Upd.set1 (hu2.mono (fun _ _ h => h.elim)) _ _) (fun hS => ?_)
        clear hK K
        try simp only [Act.put,zA,zB,zC]
        refine wpAnyH_done (by kernel_rfl) ?_ _
        have q2:=k2.upd hu2 (no_ _)
        have q3:=k3.upd hu2 (no_ _)
        have q4:=own_upd k4 hu2 (fun _ _ => no_ _)
        have q5:∀ x ∈ ps1,Okb w2 F x:=fun x hx => (k5 x hx).upd hu2 (fun _ _ => no_ _)
        have u3:Upd (fun k => k = g1) w2 (w2.setCell ⟨g1,j,none⟩ (.slice (some ⟨g2,0,none⟩) 256 c2)):=(Upd.refl _ _).set1 _ _
        have b3:=q3.put j (.slice (some ⟨g2,0,none⟩) 256 c2)
        have p3:=q2.upd u3 hpg
        have o3:=own_upd q4 u3 (fun k hk e => own_blk_ne q4 q3 (by decide) (e ▸ hk))
        have e0:=p3.cell 0
        have e1:=p3.cell 1
        have e2:=b3.cell j
        simp [hj] at e0 e1 e2
        clear hd0 hd1 hd2 hS
        generalize hw3:w2.setCell ⟨g1,j,none⟩ (.slice (some ⟨g2,0,none⟩) 256 c2) = w3 at *
        clear hw3
        have e3:∀ o,(w3.alloc o).cell? ⟨p,1,none⟩ = some vl1:=fun o => by simpa using (p3.alloc o).cell 1
        have hle1:ps1.length + 1 ≤ 9223372036854775807:=by omega
        have hle2:(ps1.length + 1) * 32 ≤ 140737488355328:=by omega
        go_wp2
        go_region_law ((refine step_ap_row 0 (by rfl) (.tmp 67) (.tmp 77) 120 383 (.agg #[.int .i64 0,.slice none 0 0]) 2 32 (by rfl) Tryz.underlying120 wr_info rfl (by omega) vl1 ps1.length (wcells ps1) (some ⟨w3.heap.size,0,none⟩) 1 1 [.int .i64 j,.slice (some ⟨g2,0,none⟩) 256 c2] (by rfl) (by rfl) (own_drew (o3.alloc _)) (Rd.drew (Rd_lit w3 _ 2 1 _ rfl)) (by intro u hu; simp at hu; rcases hu with rfl | rfl <;> rfl) hle1 hle2 (Nat.zero_le _) ?_; intro A3 c3 w4 ho4 hg4 hat4; have p4:=((p3.alloc _).drew).grown hg4 (own_blk_ne o3 p3 (by decide)).symm; have hf4:=p4.free 1; have hc4:=p4.cell 1; simp at hc4))
        all_goals
         obtain ⟨F',hD,hU,hs⟩:=Dk.wrote (m:=⟨nb,log,fuse,false⟩) k1 q2 q3 q4 q5 k6 k7 k8 (fun k hk => Nat.lt_of_lt_of_le (k9 k hk) hu2.size) hv2 hj (u3.alloc _).drew ((b3.alloc _).drew) ho4 hg4 hat4
         go_wp2
         go_ret
         refine ⟨rfl,F',hD,((HU.out.trans hu2 (fun _ _ h => h.elim)).trans hU fun _ _ h => h),fun k hk => (hs k hk).imp id fun h => ?_⟩
         have hsz:=HU.out.size
         have hsz2:=hu2.size
         have hg2':=hg2.out
         omega
end Dk
end
section
namespace Dk
open Go.RowKit B Sm
theorem Dk.log {w:World} {F:Nat → Prop} {p:Nat} {m:Dm} (h:Dk w F p m):m.log.length ≤ 9223372036854775807:=by
 obtain ⟨ps,g,vl,h1,h2,h3,h4,h5,h6,h7,h8,h9⟩:=h
 have:=own_len h4
 rw [← h1]
 simpa [ab,maxLen] using this
def RdOut (w:World) (o:List Int × Int) (e:Ending) (w':World):Prop:=∃ A c,e = .returned (.tuple #[.slice A o.1.length c,.int .i64 o.2]) ∧ Rn w' .u8 A o.1 ∧ Upd No w w'
theorem RdOut.of {w:World} {o:List Int × Int} {e:Ending} {w':World} (h:∃ A c,e = .returned (.tuple #[.slice A o.1.length c,.int .i64 o.2]) ∧ Rn w' .u8 A o.1 ∧ Upd No w w'):RdOut w o e w':=h
def RdOw (w:World) (o:List Int × Int) (e:Ending) (w':World):Prop:=∃ A c,e = .returned (.tuple #[.slice A o.1.length c,.int .i64 o.2]) ∧ Rn w' .u8 A o.1 ∧ Upd No w w' ∧ o.1.length ≤ c ∧ c ≤ 9223372036854775807
theorem RdOw.of {w:World} {o:List Int × Int} {e:Ending} {w':World} (h:∃ A c,e = .returned (.tuple #[.slice A o.1.length c,.int .i64 o.2]) ∧ Rn w' .u8 A o.1 ∧ Upd No w w' ∧ o.1.length ≤ c ∧ c ≤ 9223372036854775807):RdOw w o e w':=h
theorem read_ (p:Nat) (m:Dm) (F:Nat → Prop) (i:Int) (w:World) (h:Dk w F p m) (hok:m.ok) :
 Calls Tryz.prog 144 #[.pointer (some ⟨p,0,none⟩),.int .i64 i] w fun e w' => RdOw w (m.rd i) e w':=by
 have q:∀ (w:World) (a:Option Addr) (n c n' c':Nat),(binOp .eql 22 (.slice a n c) (.slice none n' c')).run Tryz.prog w = .ok (.bool a.isNone) w:=fun w a n c n' c' => Go.Lib.run_eql_slice_nil w _ _ a n c n' c' Tryz.underlying22
 obtain ⟨ps,g,vl,h1,h2,h3,h4,h5,h6,h7,h8,h9⟩:=h
 obtain ⟨nb,log,fuse,down⟩:=m
 simp only at h1 h2 h3
 have hc0:=h2.cell 0
 have hc3:=h2.cell 3
 simp at hc0 hc3
 obtain ⟨hk1,hk2,hk3⟩:=hok
 simp only at hk1 hk2 hk3
 cases down with
 | true =>
  rw [show Dm.rd ⟨nb,log,fuse,true⟩ i = ([],9) from rfl]
  go_enter Tryz.func144,Tryz.ntmps144
  go_wp2
  go_ret2
  exact .of ⟨none,0,rfl,Rd.nil_ _ _ _,Upd.refl _ _,by simp,by omega⟩
 | false =>
  by_cases hbad:i < 0 ∨ (nb:Int) ≤ i
  · rw [show Dm.rd ⟨nb,log,fuse,false⟩ i = ([],1) from by simp [Dm.rd,hbad]]
    rcases hbad with hb | hb
    · go_enter Tryz.func144,Tryz.ntmps144
      go_wp2
      go_ret2
      exact .of ⟨none,0,rfl,Rd.nil_ _ _ _,Upd.refl _ _,by simp,by omega⟩
    · have hb0:¬ i < 0:=by omega
      go_enter Tryz.func144,Tryz.ntmps144
      go_wp2
      go_ret2
      exact .of ⟨none,0,rfl,Rd.nil_ _ _ _,Upd.refl _ _,by simp,by omega⟩
  · obtain ⟨j,rfl⟩:∃ j:Nat,i = (j:Int):=⟨i.toNat,by omega⟩
    have hj:j < nb:=by omega
    have hcg:=h3.cell j
    simp [hj] at hcg
    have e1:Dm.rd ⟨nb,log,fuse,false⟩ j = ((last log j).getD (List.replicate 256 0),0):=by
     unfold Dm.rd
     rw [if_neg (by simp),if_neg hbad]
     rfl
    rw [e1]
    clear hbad e1
    rcases slot_of ps j with ⟨s1,s2⟩ | ⟨x,hx,_,s1,s2⟩
    · rw [← h1,s1,Option.getD_none]
      rw [s2] at hcg
      obtain ⟨zs,hzs⟩:∃ zs:List Int,zs = List.replicate 256 0:=⟨_,rfl⟩
      rw [← hzs]
      have hzl:zs.length = 256:=by rw [hzs,List.length_replicate]
      clear s1 s2
      have hzs':=hid hzs
      clear hzs
      go_enter Tryz.func144,Tryz.ntmps144
      go_wp2_with (at_make; go_must (refine mk_nb rfl _ _ 22 5 rfl Tryz.underlying22 u8_info 256 256 rfl rfl rfl (by omega) ?_); intro w1 g1 hg1 hn1 hu1; clear hg1)
      go_ret2
      refine .of ⟨some ⟨g1,0,none⟩,256,by simp only [hzl]; rfl,?_,hu1,by simp only; omega,by omega⟩
      have:=hn1.rn
      rw [← hzs'.out] at this
      exact this
    · rw [← h1,s1,Option.getD_some]
      rw [s2] at hcg
      obtain ⟨g1,c1,e,hF,ho⟩:=h5 x hx
      rw [e] at hcg ho
      have hl:x.2.1.length = 256:=by simpa [nums] using ho.1
      have HC:=hid (clone (some ⟨g1,0,none⟩) 256 c1 (nums .u8 x.2.1) w (Rd.of_own ho) (nums_one .u8 _) (by omega))
      clear s1 s2
      go_enter Tryz.func144,Tryz.ntmps144
      go_wp2_with (fail)
      refine Calls.mono HC.out ?_
      rintro e w' ⟨A',c',rfl,ho',hu',_⟩
      go_wp2
      go_ret2
      obtain ⟨_,_,hsv,hsc,hsm⟩:=own_shape ho'
      simp only [Value.slice.injEq,true_and] at hsv
      obtain ⟨rfl,rfl⟩:=hsv
      refine .of ⟨A',c',by simp only [hl]; rfl,?_,hu',by simp only; omega,by simpa [maxLen] using hsm⟩
      have:=Rd.of_own ho'
      rw [← hl] at this
      exact this
theorem read (p:Nat) (m:Dm) (F:Nat → Prop) (i:Int) (w:World) (h:Dk w F p m) (hok:m.ok) :
 Calls Tryz.prog 144 #[.pointer (some ⟨p,0,none⟩),.int .i64 i] w fun e w' => RdOut w (m.rd i) e w':=
 (read_ p m F i w h hok).mono fun e w' h => by
  obtain ⟨A,c,h1,h2,h3,_⟩:=h
  exact ⟨A,c,h1,h2,h3⟩
theorem blocks (p:Nat) (m:Dm) (F:Nat → Prop) (w:World) (h:Dk w F p m) (hok:m.ok) :
 Calls Tryz.prog 75 #[.pointer (some ⟨p,0,none⟩)] w fun e w' => e = .returned (.int .i64 m.nb) ∧ w = w':=by
 have hlog:=h.log
 obtain ⟨ps,g,vl,h1,h2,h3,h4,h5,h6,h7,h8,h9⟩:=h
 obtain ⟨nb,log,fuse,down⟩:=m
 simp only at h1 h2 h3 hlog
 have hc0:=h2.cell 0
 have hc1:=h2.cell 1
 have hc3:=h2.cell 3
 simp at hc0 hc1 hc3
 obtain ⟨A,c,rfl,hlc,hcm⟩:=own_shape h4
 have hpl:ps.length = log.length:=by rw [← h1]; simp [ab]
 obtain ⟨hk1,hk2,hk3⟩:=hok
 simp only at hk1 hk2 hk3
 go_enter Tryz.func75,Tryz.ntmps75
 go_wp2
 go_ret
 exact ⟨rfl,rfl⟩
theorem down (p:Nat) (m:Dm) (F:Nat → Prop) (w:World) (h:Dk w F p m) (hok:m.ok) :
 Calls Tryz.prog 74 #[.pointer (some ⟨p,0,none⟩)] w fun e w' => e = .returned (.bool m.down) ∧ w = w':=by
 have hlog:=h.log
 obtain ⟨ps,g,vl,h1,h2,h3,h4,h5,h6,h7,h8,h9⟩:=h
 obtain ⟨nb,log,fuse,down⟩:=m
 simp only at h1 h2 h3 hlog
 have hc0:=h2.cell 0
 have hc1:=h2.cell 1
 have hc3:=h2.cell 3
 simp at hc0 hc1 hc3
 obtain ⟨A,c,rfl,hlc,hcm⟩:=own_shape h4
 have hpl:ps.length = log.length:=by rw [← h1]; simp [ab]
 obtain ⟨hk1,hk2,hk3⟩:=hok
 simp only at hk1 hk2 hk3
 cases down
 · go_enter Tryz.func74,Tryz.ntmps74
   go_wp2
   go_ret
   exact ⟨rfl,rfl⟩
 · go_enter Tryz.func74,Tryz.ntmps74
   go_wp2
   go_ret
   exact ⟨rfl,rfl⟩
end Dk
end
section
namespace Gl
open Go.RowKit B Cm Sm Dk Gp
structure Lm where
 fr:Nat
 count:Nat
 ep:Int
 us:List (List Int)
 used:Nat
 over:Bool
abbrev Un:=List Int × Value
def Uok (w:World) (F:Nat → Prop) (x:Un):Prop:=w.ownsRow 0 5 1 x.2 x.1.length (nums .u8 x.1) ∧ ∀ k,x.2.ownBlock = some k → F k
def Uns (w:World) (F:Nat → Prop) (v:Value) (us:List (List Int)):Prop:=
 ∃ vs:List Un,vs.map (·.1) = us ∧ w.ownsRow 0 22 1 v vs.length (vs.map (·.2)) ∧ (∀ x ∈ vs,Uok w F x) ∧ ∀ k,v.ownBlock = some k → F k
def Lg (w:World) (F:Nat → Prop) (q p:Nat) (m:Lm):Prop:=
 ∃ vu:Value,Blk w q 312 #[.pointer (some ⟨p,0,none⟩),.int .i64 m.fr,.int .i64 m.count,.int .u64 m.ep,vu,.int .i64 m.used,.bool m.over] ∧ Uns w F vu m.us ∧ F q ∧ ∀ k,F k → k < w.heap.size
section
variable {w w':World} {F G:Nat → Prop} {q p:Nat} {m:Lm} {v:Value} {us:List (List Int)}
theorem Uok.upd {x:Un} (h:Uok w F x) (hu:Upd G w w') (hn:∀ k,F k → ¬ G k):Uok w' F x:=⟨own_upd h.1 hu fun k hk => hn k (h.2 k hk),h.2⟩
theorem Uok.mono {x:Un} (h:Uok w F x) (hg:∀ k,F k → G k):Uok w G x:=⟨h.1,fun k hk => hg k (h.2 k hk)⟩
theorem Uns.upd (h:Uns w F v us) (hu:Upd G w w') (hn:∀ k,F k → ¬ G k):Uns w' F v us:=by
 obtain ⟨vs,h1,h2,h3,h4⟩:=h
 exact ⟨vs,h1,own_upd h2 hu fun k hk => hn k (h4 k hk),fun x hx => (h3 x hx).upd hu hn,h4⟩
theorem Uns.mono (h:Uns w F v us) (hg:∀ k,F k → G k):Uns w G v us:=by
 obtain ⟨vs,h1,h2,h3,h4⟩:=h
 exact ⟨vs,h1,h2,fun x hx => (h3 x hx).mono hg,fun k hk => hg k (h4 k hk)⟩
theorem Uns.nil (w:World) (F:Nat → Prop):Uns w F (.slice none 0 0) []:=⟨[],rfl,World.ownsRow_nil _ _ _ _,fun x hx => (by cases hx),fun k hk => by simp [Value.ownBlock] at hk⟩
theorem Uns.shape (h:Uns w F v us):∃ A c,v = .slice A us.length c ∧ us.length ≤ c ∧ c ≤ maxLen:=by
 obtain ⟨vs,h1,h2,h3,h4⟩:=h
 have:us.length = vs.length:=by rw [← h1]; simp
 rw [this]
 exact own_shape h2
theorem Uns.far {q:Nat} {t:TypeId} {cs:Array Value} (h:Uns w F v us) (hb:Blk w q t cs) (h1:5 ≠ t) (h2:22 ≠ t) (hu:Upd (fun k => k = q) w w'):Uns w' F v us:=by
 obtain ⟨vs,g1,g2,g3,g4⟩:=h
 exact ⟨vs,g1,own_upd g2 hu fun k hk e => own_blk_ne g2 hb h2 (e ▸ hk),fun x hx => ⟨own_upd (g3 x hx).1 hu fun k hk e => own_blk_ne (g3 x hx).1 hb h1 (e ▸ hk),(g3 x hx).2⟩,g4⟩
theorem Lg.upd (h:Lg w F q p m) (hu:Upd G w w') (hn:∀ k,F k → ¬ G k):Lg w' F q p m:=by
 obtain ⟨vu,h1,h2,h3,h4⟩:=h
 exact ⟨vu,h1.upd hu (hn _ h3),h2.upd hu hn,h3,fun k hk => Nat.lt_of_lt_of_le (h4 k hk) hu.size⟩
theorem Lg.lt (h:Lg w F q p m):∀ k,F k → k < w.heap.size:=by
 obtain ⟨vu,h1,h2,h3,h4⟩:=h
 exact h4
theorem Lg.here (h:Lg w F q p m):F q:=by
 obtain ⟨vu,h1,h2,h3,h4⟩:=h
 exact h3
end
theorem push_uns {w2 w3:World} {F:Nat → Prop} {v x2:Value} {vs:List Un} {u:List Int} {A3:Option Addr} {c3:Nat}
 (hF:∀ x ∈ vs,Uok w2 F x) (hrow:w2.ownsRow 0 22 1 v vs.length (vs.map (·.2))) (hv:∀ k,v.ownBlock = some k → F k)
 (hx:w2.ownsRow 0 5 1 x2 u.length (nums .u8 u))
 (ho3:w3.ownsRow 0 22 1 (.slice A3 (vs.length + 1) c3) (vs.length + 1) (vs.map (·.2) ++ [x2])) (hg:w2.grownBy w3 v.ownBlock) :
 Uns w3 (fun k => F k ∨ x2.ownBlock = some k ∨ (Value.slice A3 (vs.length + 1) c3).ownBlock = some k) (.slice A3 (vs.length + 1) c3) (vs.map (·.1) ++ [u]):=by
 have byt:∀ {z:Value} {n:Nat} {l:List Value},w2.ownsRow 0 5 1 z n l → w3.ownsRow 0 5 1 z n l:=fun hz => own_keep hz fun k hk => hg.block k (hz.lt k hk).2 fun e => own_own_ne hz hrow (by decide) hk e.symm
 refine ⟨vs ++ [(u,x2)],by simp,?_,fun y hy => ?_,fun k hk => .inr (.inr hk)⟩
 · simpa using ho3
 · rcases List.mem_append.1 hy with hy | hy
   · exact ⟨byt (hF y hy).1,fun k hk => .inl ((hF y hy).2 k hk)⟩
   · obtain rfl:=List.mem_singleton.1 hy
     exact ⟨byt hx,fun k hk => .inr (.inl hk)⟩
def areaB (nb:Nat) (fr count:Int):Bool:=decide (1 ≤ count ∧ 0 ≤ fr ∧ fr ≤ nb ∧ count ≤ nb - fr)
theorem area (p:Nat) (m:Dm) (F:Nat → Prop) (fr count:Int) (w:World) (h:Dk w F p m) (hok:m.ok) :
 Calls Tryz.prog 148 #[.pointer (some ⟨p,0,none⟩),.int .i64 fr,.int .i64 count] w fun e w' => e = .returned (.bool (areaB m.nb fr count)) ∧ w = w':=by
 have HB:=hid (blocks p m F w h hok)
 have hnb:=hok.2.2
 have hE:Hid (areaB m.nb fr count = decide (1 ≤ count ∧ 0 ≤ fr ∧ fr ≤ m.nb ∧ count ≤ m.nb - fr)):=hid rfl
 clear h hok
 generalize m.nb = nb at *
 by_cases h1:1 ≤ count
 · by_cases h2:0 ≤ fr
   · by_cases h3:fr ≤ nb
     · by_cases h4:count ≤ nb - fr
       · have hR:Hid (areaB nb fr count = true):=hid (by rw [hE.out,decide_eq_true ⟨h1,h2,h3,h4⟩])
         go_enter Tryz.func148,Tryz.ntmps148
         go_wp2_with (fail)
         refine HB.out.mono ?_
         rintro e w1 ⟨rfl,rfl⟩
         go_wp2_with (fail)
         refine HB.out.mono ?_
         rintro e w1 ⟨rfl,rfl⟩
         go_wp2
         go_ret
         exact ⟨by rw [hR.out]; rfl,rfl⟩
       · have hR:Hid (areaB nb fr count = false):=hid (by rw [hE.out,decide_eq_false (fun h => h4 h.2.2.2)])
         go_enter Tryz.func148,Tryz.ntmps148
         go_wp2_with (fail)
         refine HB.out.mono ?_
         rintro e w1 ⟨rfl,rfl⟩
         go_wp2_with (fail)
         refine HB.out.mono ?_
         rintro e w1 ⟨rfl,rfl⟩
         go_wp2
         go_ret
         exact ⟨by rw [hR.out]; exact congrArg (fun z => Ending.returned (.bool z)) (show decide (count ≤ (nb:Int) - fr) = false from decide_eq_false (by omega)),rfl⟩
     · have hR:Hid (areaB nb fr count = false):=hid (by rw [hE.out,decide_eq_false (fun h => h3 h.2.2.1)])
       go_enter Tryz.func148,Tryz.ntmps148
       go_wp2_with (fail)
       refine HB.out.mono ?_
       rintro e w1 ⟨rfl,rfl⟩
       go_wp2
       go_ret
       exact ⟨by rw [hR.out]; rfl,rfl⟩
   · have hR:Hid (areaB nb fr count = false):=hid (by rw [hE.out,decide_eq_false (fun h => h2 h.2.1)])
     go_enter Tryz.func148,Tryz.ntmps148
     go_wp2
     go_ret
     exact ⟨by rw [hR.out]; rfl,rfl⟩
 · have hR:Hid (areaB nb fr count = false):=hid (by rw [hE.out,decide_eq_false (fun h => h1 h.1)])
   go_enter Tryz.func148,Tryz.ntmps148
   go_wp2
   go_ret
   exact ⟨by rw [hR.out]; rfl,rfl⟩
def hst (ep:Int) (j:Nat):List Int:=((List.range j).map fun i => ep / 256 ^ i % 256) ++ List.replicate (9 - j) 0
theorem hst_len (ep:Int) (j:Nat) (hj:j ≤ 9):(hst ep j).length = 9:=by simp [hst]; omega
theorem hst_succ (ep:Int) (j:Nat) (hj:j < 9):(hst ep j).set j (ep / 256 ^ j % 256) = hst ep (j + 1):=by
 unfold hst
 obtain ⟨k,hk⟩:∃ k,9 - j = k + 1:=⟨8 - j,by omega⟩
 rw [hk,show List.replicate (k + 1) (0:Int) = 0 :: List.replicate k 0 from rfl,set_at _ _ _ _ j (by simp),show 9 - (j + 1) = k from by omega,List.range_succ]
 simp
theorem hst_end (ep:Int):hst ep 8 = hdr ep false ∧ (hst ep 8).set 8 1 = hdr ep true:=by
 have e:hst ep 8 = le8 ep ++ [0]:=rfl
 rw [e]
 refine ⟨rfl,?_⟩
 rw [set_at _ _ _ _ 8 (by simp [le8_length])]
 rfl
theorem pow2:∀ j:Nat,j < 8 → (2:Int) ^ (8 * j) = 256 ^ j:=by decide
set_option maxRecDepth 100000 in
theorem header (q:Nat) (v0 v1 v2 v4 v5 v6:Value) (ep:Int) (last:Bool) (w:World) (hb:Blk w q 312 #[v0,v1,v2,.int .u64 ep,v4,v5,v6]) (hep:0 ≤ ep ∧ ep ≤ 18446744073709551615) :
 Calls Tryz.prog 157 #[.pointer (some ⟨q,0,none⟩),.bool last] w fun e w' => ∃ g,e = .returned (.slice (some ⟨g,0,none⟩) 9 9) ∧ Nb w' 5 g (hdr ep last) ∧ w.heap.size ≤ g ∧ Upd No w w':=by
 have HB:=hid hb
 have he0:=hep.1
 have he1:=hep.2
 clear hb hep
 go_enter Tryz.func157,Tryz.ntmps157
 go_wp2_with (at_make; go_must (refine mk_nb rfl _ _ 22 5 rfl Tryz.underlying22 Sw.u8_info 9 9 rfl rfl rfl (by omega) ?_); intro w1 g hg1 hn1 hu1; have hg:=Nat.le_of_eq hg1.symm; clear hg1)
 have HN:Hid (Nb w1 5 g (hst ep 0) ∧ Upd No w w1):=hid ⟨hn1,hu1⟩
 have HG:=hid hg
 clear hn1 hu1
 go_loopw [8] (fun v8 wr => ∃ j:Nat,j ≤ 8 ∧ v8 = .int .i64 j ∧ Hid (Nb wr 5 g (hst ep j) ∧ Upd No w wr)) (fun v8 _ => 8 - (intOf v8).toNat)
 case atStart => exact ⟨0,by omega,rfl,HN⟩
 case round =>
  clear HN
  obtain ⟨j,hj,rfl,HW⟩:=hrel
  have hlen:=hst_len ep j (by omega)
  by_cases hlt:j < 8
  · have hcj:=HW.out.1.cell (i:=j) (by omega)
    have hfj:=Blk.free HW.out.1 j
    have hce:wr.cell? ⟨q,3,none⟩ = some (.int .u64 ep):=by
     have:=(HB.out.upd HW.out.2 (no_ _)).cell 3
     simpa using this
    have HW2:Hid (∀ y,y = ep / 2 ^ (8 * j) % 256 → Nb (wr.setCell ⟨g,j,none⟩ (.int .u8 y)) 5 g (hst ep (j + 1)) ∧ Upd No w (wr.setCell ⟨g,j,none⟩ (.int .u8 y))):=hid fun y hy => by
     have h1:=HW.out.1.put j y
     rw [hy,pow2 j hlt,hst_succ ep j (by omega),← pow2 j hlt,← hy] at h1
     exact ⟨h1,HW.out.2.set (.inr HG.out) _⟩
    clear hlen hg
    go_wp2
    go_roundw
    case rel => exact ⟨j + 1,by omega,by go_num,hid (HW2.out _ rfl)⟩
    case measure => simp [intOf]; omega
  · obtain rfl:j = 8:=by omega
    have HE:=hid (hst_end ep)
    rcases last with _ | _
    · have HN2:Hid (Nb wr 5 g (hdr ep false)):=hid (by rw [← HE.out.1]; exact HW.out.1)
      clear hlen
      go_wp2
      go_ret
      exact ⟨g,rfl,HN2.out,HG.out,HW.out.2⟩
    · have hcj:=HW.out.1.cell (i:=8) (by omega)
      have hfj:=Blk.free HW.out.1 8
      have HN2:Hid (Nb (wr.setCell ⟨g,8,none⟩ (.int .u8 1)) 5 g (hdr ep true) ∧ Upd No w (wr.setCell ⟨g,8,none⟩ (.int .u8 1))):=hid (by
       have h1:=HW.out.1.put 8 1
       rw [HE.out.2] at h1
       exact ⟨h1,HW.out.2.set (.inr HG.out) _⟩)
      clear hlen hg
      go_wp2
      go_ret
      exact ⟨g,rfl,HN2.out.1,HG.out,HN2.out.2⟩
theorem Lg.cells {w:World} {q:Nat} {v0 v1 v2 v3 v4 v5 v6:Value} (h:Blk w q 312 #[v0,v1,v2,v3,v4,v5,v6]) :
 w.cell? ⟨q,0,none⟩ = some v0 ∧ w.cell? ⟨q,1,none⟩ = some v1 ∧ w.cell? ⟨q,2,none⟩ = some v2 ∧ w.cell? ⟨q,3,none⟩ = some v3 ∧ w.cell? ⟨q,4,none⟩ = some v4 ∧ w.cell? ⟨q,5,none⟩ = some v5 ∧ w.cell? ⟨q,6,none⟩ = some v6:=by
 have h0:=h.cell 0
 have h1:=h.cell 1
 have h2:=h.cell 2
 have h3:=h.cell 3
 have h4:=h.cell 4
 have h5:=h.cell 5
 have h6:=h.cell 6
 simp at h0 h1 h2 h3 h4 h5 h6
 exact ⟨h0,h1,h2,h3,h4,h5,h6⟩
structure Lm.ok (m:Lm):Prop where
 le:m.used ≤ m.count
 area:m.fr + m.count ≤ 65536
 ep:0 ≤ m.ep ∧ m.ep ≤ 18446744073709551615
 many:m.us.length ≤ 65536
 long:∀ u ∈ m.us,u.length ≤ 20000000
theorem room (q p:Nat) (m:Lm) (F:Nat → Prop) (w:World) (h:Lg w F q p m) (hok:m.ok) :
 Calls Tryz.prog 175 #[.pointer (some ⟨q,0,none⟩)] w fun e w' => e = .returned (.int .i64 (m.count - m.used:Nat)) ∧ Upd No w w':=by
 obtain ⟨vu,h1,h2,h3,h4⟩:=h
 obtain ⟨hk1,hk2,_,_,_⟩:=hok
 have HC:Hid (∀ W,Upd No w W → W.cell? ⟨q,2,none⟩ = some (.int .i64 m.count) ∧ W.cell? ⟨q,5,none⟩ = some (.int .i64 m.used)):=hid fun W hu => by
  obtain ⟨_,_,c2,_,_,c5,_⟩:=Lg.cells (h1.upd hu (no_ _))
  exact ⟨c2,c5⟩
 have hs:(m.count:Int) - (m.used:Int) = ((m.count - m.used:Nat):Int):=by omega
 have HS:=hid hs
 clear h1 h2 h3 h4 hs
 generalize m.count = a at *
 generalize m.used = b at *
 go_enter Tryz.func175,Tryz.ntmps175
 go_wp2_with (fail)
 refine wp_region_held_drew (S:=fun W => Upd No w W) (by kernel_rfl) (Upd.drew (Upd.refl _ _)) (fun hS => ?_)
 refine zt 0 hS ?_
 refine zt 1 hS ?_
 refine zt 2 hS ?_
 refine zh 3 hS (fun w hw => (HC.out w hw).1) ?_
 refine zt 4 hS ?_
 refine zt 5 hS ?_
 refine zt 6 hS ?_
 refine zh 7 hS (fun w hw => (HC.out w hw).2) ?_
 refine zt 8 hS ?_
 refine zt 9 hS ?_
 refine wpAnyH_done (by kernel_rfl) ?_ _
 go_wp2
 go_ret
 exact ⟨congrArg (fun z => Ending.returned (.int .i64 z)) (show IntKind.i64.wrap ((a:Int) - (b:Int)) = ((a - b:Nat):Int) from (IntWalk.i64_in _ (by omega)).trans HS.out),hS⟩
end Gl
end
section
namespace Gl
open Go.RowKit B Cm Sm Dk Gp
def UnOut (w:World) (us:List (List Int)) (e:Ending) (w':World):Prop:=∃ A c,e = .returned (.slice A us.length c) ∧ Uns w' (fun k => w.heap.size ≤ k) (.slice A us.length c) us ∧ Upd No w w'
theorem UnOut.of {w:World} {us:List (List Int)} {e:Ending} {w':World} (h:∃ A c,e = .returned (.slice A us.length c) ∧ Uns w' (fun k => w.heap.size ≤ k) (.slice A us.length c) us ∧ Upd No w w'):UnOut w us e w':=h
set_option maxRecDepth 100000 in
theorem units (q p:Nat) (m:Lm) (F:Nat → Prop) (w:World) (h:Lg w F q p m) (hok:m.ok) :
 Calls Tryz.prog 87 #[.pointer (some ⟨q,0,none⟩)] w fun e w' => UnOut w m.us e w':=by
 obtain ⟨vu,h1,⟨vs,hvs,hrow,hx,hv⟩,h3,h4⟩:=h
 have hlen:=hok.many
 have hlong:=hok.long
 obtain ⟨_,_,_,_,c4,_,_⟩:=Lg.cells h1
 obtain ⟨A,c,rfl,hc1,hc2⟩:=own_shape hrow
 have hvl:vs.length = m.us.length:=by rw [← hvs]; simp
 have HR:=hid (And.intro hvs (And.intro hrow hx))
 simp only [maxLen] at hc2
 rw [← hvl] at hlen
 rw [← hvs] at hlong
 have HL:=hid hlong
 clear hvs hrow hx h1 hv h3 h4 hvl hok hlong
 generalize m.us = us at *
 go_enter Tryz.func87,Tryz.ntmps87
 go_wp2_with (fail)
 clear c4
 go_loopw [3,13] (fun v3 v13 W => ∃ (j:Nat) (zs:List (List Int)),j ≤ vs.length ∧ v13 = .int .i64 j ∧ Hid (zs = us.take j) ∧ Hid (Uns W (fun k => w.heap.size ≤ k) v3 zs ∧ Upd No w W)) (fun _ v13 _ => vs.length - (intOf v13).toNat)
 case atStart => exact ⟨0,[],by omega,rfl,hid rfl,hid ⟨Uns.nil _ _,Upd.refl _ _⟩⟩
 case round =>
  obtain ⟨j,zs,hj,rfl,HZ,HW⟩:=hrel
  by_cases hlt:j < vs.length
  · have hrw:=own_upd HR.out.2.1 HW.out.2 fun _ _ => no_ _
    obtain ⟨ad,y,rfl,hy1,hy2⟩:=(Rd.of_own hrw).at_ hlt
    have hmem:=List.getElem_mem hlt
    have hox:=HR.out.2.2 _ hmem
    have hll:=HL.out _ (List.mem_map_of_mem (f:=(·.1)) hmem)
    have hTk:us.take (j + 1) = us.take j ++ [vs[j].1]:=by
     rw [← HR.out.1,List.take_succ_eq_append_getElem (by simpa using hlt)]
     simp
    rw [List.getElem?_map,List.getElem?_eq_getElem hlt] at hy1
    simp only [Option.map_some,Option.some.injEq] at hy1
    generalize vs[j] = x at *
    obtain ⟨l,v⟩:=x
    simp only at hy1 hll hTk
    subst hy1
    obtain ⟨Ab,cb,hve,hcb1,hcb2⟩:=own_shape hox.1
    simp only at hve hcb1
    subst hve
    have hox1:wr.ownsRow 0 5 1 (.slice Ab l.length cb) l.length (nums .u8 l):=own_upd hox.1 HW.out.2 fun _ _ => no_ _
    have HC:=hid (clone Ab l.length cb (nums .u8 l) wr (Rd.of_own hox1) (nums_one _ _) (by omega))
    have HT:=hid hTk
    have hj1:(0:Int) ≤ (j:Int):=by omega
    have hj2:(j:Int) < (vs.length:Int):=by omega
    clear hrw hmem hox hox1 hTk
    go_wp2_with (fail)
    refine HC.out.mono ?_
    rintro e w2 ⟨A2,c2,rfl,ho2,hu2,_⟩
    obtain ⟨ws,hws,hwr,hwx,hwv⟩:=HW.out.1.upd hu2 fun _ _ => no_ _
    have hwl:ws.length ≤ 65536:=by
     have:ws.length = zs.length:=by rw [← hws]; simp
     rw [this,HZ.out,List.length_take]
     omega
    obtain ⟨A3,c3,rfl,_,_⟩:=own_shape hwr
    have hal:Upd No w2 (w2.alloc (.cells #[.slice A2 l.length c2] 22)):=(Upd.refl _ _).alloc _
    have HO:=hid (And.intro hws (And.intro (own_upd hwr hal fun _ _ => no_ _) (And.intro (fun x hx => (hwx x hx).upd hal fun _ _ => no_ _) (And.intro hwv (own_upd (own_base ho2 (Nat.zero_le _)) hal fun _ _ => no_ _)))))
    have HN:=hid (fun k hk => (ho2.lt k hk).1)
    have HU2:=hid (HW.out.2.next hu2)
    clear hws hwr hwx hwv ho2 hu2 hal hy2 HC
    go_wp2_with (at_builtin; go_must (refine ap_row 0 rfl (.tmp 17) (.tmp 20) 119 22 (.slice none 0 0) 1 24 rfl Tryz.underlying119 sl_info rfl (by omega) (.slice A3 ws.length c3) ws.length (ws.map (·.2)) (some ⟨w2.heap.size,0,none⟩) 1 1 [.slice A2 l.length c2] rfl rfl HO.out.2.1 (Rd_lit w2 _ 1 1 _ rfl) (by intro u hu; obtain rfl:=List.mem_singleton.1 hu; rfl) (by omega) (by omega) (Nat.zero_le _) ?_); intro A4 c4 w4 ho4 hg4 hat4)
    have HS:Hid (Uns w4 (fun k => w.heap.size ≤ k) (.slice A4 (ws.length + 1) c4) (zs ++ [l]) ∧ Upd No w w4):=hid (by
     have hz2:=HU2.out.size
     have hw:=HW.out.2.size
     have hp:=push_uns HO.out.2.2.1 HO.out.2.1 HO.out.2.2.2.1 HO.out.2.2.2.2 ho4 hg4
     rw [HO.out.1] at hp
     refine ⟨hp.mono fun k hk => ?_,((HU2.out.alloc _).grown hg4 fun k hk => .inr (HO.out.2.2.2.1 k hk))⟩
     rcases hk with hk | hk | hk
     · exact hk
     · have:=HN.out k hk; omega
     · rcases hat4 k hk with h | h
       · exact HO.out.2.2.2.1 k h
       · simp at h; omega)
    have HZ2:=hid (show zs ++ [l] = us.take (j + 1) by rw [HT.out,HZ.out])
    clear ho4 hg4 hat4
    go_wp2
    go_roundw
    case rel => exact ⟨j + 1,zs ++ [l],by omega,by go_num,HZ2,HS⟩
    case measure => simp [intOf]; omega
  · obtain rfl:j = vs.length:=by omega
    have hz:zs = us:=by
     rw [HZ.out]
     exact List.take_of_length_le (by rw [← HR.out.1]; simp)
    subst hz
    obtain ⟨A4,c4,hv4,_,_⟩:=HW.out.1.shape
    subst hv4
    go_wp2
    go_ret
    exact .of ⟨A4,c4,rfl,HW.out⟩
end Gl
end
