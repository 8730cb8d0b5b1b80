/- Part 07: lemmas, no conditions. -/
import Derived.WalkKit
import Derived.WalkSpells
import Derived.WalkLawsBesides
import Derived.Maps.AppendAt
import Derived.Deep.Draws
import Derived.Deep.AppendLies
import Derived.Laws.MakeOwn
import Derived.Laws.BytesArg
import Derived.Lib.ConvBytes
import Derived.Lib.AppendStr
import Derived.Lib.SlBytesConst
import Derived.KernelRfl
import Derived.Deep.OwnRows
import Derived.Maps.OwnSet
import Derived.Lib.Bytealg
namespace Go.Proofs.YtclfmpieapbfnaaGreatDoor
set_option linter.unusedVariables false
set_option linter.unusedSimpArgs false
section
namespace B
open Go.RowKit Go.Lib
structure Upd (F:Nat → Prop) (w w':World):Prop where
 os:w'.os = w.os
 tape:w'.tape = w.tape
 output:w'.output = w.output
 size:w.heap.size ≤ w'.heap.size
 block:∀ k,k < w.heap.size → ¬ F k → w'.heap[k]? = w.heap[k]?
theorem hid {p:Prop} (h:p):Hid p:=h
def No:Nat → Prop:=fun _ => False
theorem no_ (k:Nat):¬ No k:=fun h => h
theorem Upd.refl (F:Nat → Prop) (w:World):Upd F w w:=⟨rfl,rfl,rfl,Nat.le_refl _,fun _ _ _ => rfl⟩
theorem Upd.mono {F G:Nat → Prop} {w w':World} (h:Upd F w w') (hg:∀ k,k < w.heap.size → F k → G k):Upd G w w':=
 ⟨h.os,h.tape,h.output,h.size,fun k hk hn => h.block k hk fun hf => hn (hg k hk hf)⟩
theorem Upd.trans {F G:Nat → Prop} {a b c:World} (h:Upd F a b) (k:Upd G b c) (hg:∀ i,i < a.heap.size → G i → F i):Upd F a c:=
 ⟨k.os.trans h.os,k.tape.trans h.tape,k.output.trans h.output,Nat.le_trans h.size k.size,fun i hi hn => (k.block i (Nat.lt_of_lt_of_le hi h.size) fun hf => hn (hg i hi hf)).trans (h.block i hi hn)⟩
theorem Upd.drew {F:Nat → Prop} {a w:World} (h:Upd F a w):Upd F a w.drew:=⟨h.os,h.tape,h.output,h.size,h.block⟩
theorem Upd.of_drew {F:Nat → Prop} {a w:World} (h:Upd F a.drew w):Upd F a w:=⟨h.os,h.tape,h.output,h.size,h.block⟩
theorem Upd.next {F:Nat → Prop} {a b c:World} (h:Upd F a b) (k:Upd F b c):Upd F a c:=h.trans k fun _ _ h => h
theorem Upd.old {w w':World} (h:Upd No w w') {B:Nat} (hB:B ≤ w.heap.size):Below B w w':=⟨h.os,h.tape,h.output,h.size,fun k hk => h.block k (by omega) fun hf => hf⟩
theorem Upd.alloc {F:Nat → Prop} {a w:World} (h:Upd F a w) (o:Obj):Upd F a (w.alloc o):=
 ⟨h.os,h.tape,h.output,by have:=h.size; simp; omega,fun k hk hn => (Below.heap_alloc w o k (Nat.lt_of_lt_of_le hk h.size)).trans (h.block k hk hn)⟩
theorem Upd.set {F:Nat → Prop} {a w:World} (h:Upd F a w) {p:Addr} (hp:F p.block ∨ a.heap.size ≤ p.block) (u:Value):Upd F a (w.setCell p u):=
 ⟨h.os,h.tape,h.output,by simpa [World.setCell] using h.size,fun k hk hn => (Below.heap_setCell w p u k (by
  rintro rfl
  rcases hp with hp | hp
  · exact hn hp
  · omega)).trans (h.block k hk hn)⟩
theorem Upd.set1 {g:Nat} {a w:World} (h:Upd (fun k => k = g) a w) (i:Nat) (u:Value):Upd (fun k => k = g) a (w.setCell ⟨g,i,none⟩ u):=h.set (.inl rfl) u
theorem Upd.grown {F:Nat → Prop} {a w w':World} {row:Option Nat} (h:Upd F a w) (hg:w.grownBy w' row) (hr:∀ k,row = some k → F k ∨ a.heap.size ≤ k):Upd F a w':=
 ⟨hg.os.trans h.os,hg.tape.trans h.tape,hg.output.trans h.output,Nat.le_trans h.size hg.size,fun k hk hn => (hg.block k (Nat.lt_of_lt_of_le hk h.size) (fun e => by
  rcases hr k e.symm with hp | hp
  · exact hn hp
  · omega)).trans (h.block k hk hn)⟩
theorem Upd.below {F:Nat → Prop} {w w':World} (h:Upd F w w') {B:Nat} (hB:B ≤ w.heap.size) (hF:∀ k,F k → B ≤ k):Below B w w':=
 ⟨h.os,h.tape,h.output,h.size,fun k hk => h.block k (by omega) fun hf => by have:=hF k hf; omega⟩
theorem Upd.of_below {w w':World} (F:Nat → Prop) (h:Below w.heap.size w w'):Upd F w w':=⟨h.os,h.tape,h.output,h.size,fun k hk _ => h.block k hk⟩
theorem Upd.cell {F:Nat → Prop} {w w':World} (h:Upd F w w') {p:Addr} (hp:p.block < w.heap.size) (hn:¬ F p.block):w'.cell? p = w.cell? p:=World.cell?_of_block (w:=w) (h.block p.block hp hn)
structure Mv (F F':Nat → Prop) (w w':World):Prop where
 upd:Upd F w w'
 sub:∀ k,F' k → F k ∨ w.heap.size ≤ k
theorem Mv.refl (F:Nat → Prop) (w:World):Mv F F w w:=⟨Upd.refl _ _,fun _ h => .inl h⟩
theorem Mv.trans {F G H:Nat → Prop} {a b c:World} (h:Mv F G a b) (k:Mv G H b c):Mv F H a c:=
 ⟨h.upd.trans k.upd fun i hi hg => (h.sub i hg).elim id fun hs => absurd hs (by omega),fun i hi => (k.sub i hi).elim (h.sub i) fun hs => .inr (Nat.le_trans h.upd.size hs)⟩
theorem Mv.quiet {F:Nat → Prop} {w w':World} (h:Below w.heap.size w w'):Mv F F w w':=⟨Upd.of_below _ h,fun _ h => .inl h⟩
def Blk (w:World) (g:Nat) (t:TypeId) (cs:Array Value):Prop:=w.heap[g]? = some (.cells cs t (0,0))
section
variable {w w':World} {g:Nat} {t:TypeId} {cs:Array Value}
theorem Blk.lt (h:Blk w g t cs):g < w.heap.size:=(Array.getElem?_eq_some_iff.1 h).1
theorem Blk.cell (h:Blk w g t cs) (i:Nat):w.cell? ⟨g,i,none⟩ = cs[i]?:=cell_of_row w g i cs t (0,0) h
theorem Blk.free (h:Blk w g t cs) (i:Nat):w.frozen? ⟨g,i,none⟩ = false:=by
 unfold Blk at h
 simp [World.frozen?,h]
theorem Blk.fresh (w:World) (t:TypeId) (cs:Array Value):Blk (w.alloc (.cells cs t)) w.heap.size t cs:=heap_alloc_new w _
theorem Blk.drew (h:Blk w g t cs):Blk w.drew g t cs:=h
theorem Blk.alloc (h:Blk w g t cs) (o:Obj):Blk (w.alloc o) g t cs:=(Below.heap_alloc w o g h.lt).trans h
theorem Blk.put (h:Blk w g t cs) (i:Nat) (u:Value):Blk (w.setCell ⟨g,i,none⟩ u) g t (cs.setIfInBounds i u):=by
 unfold Blk at h ⊢
 simp [World.setCell,Array.getElem?_modify,h]
theorem Blk.far (h:Blk w g t cs) {p:Addr} (hp:g ≠ p.block) (u:Value):Blk (w.setCell p u) g t cs:=(Below.heap_setCell w p u g hp).trans h
theorem Blk.keep (h:Blk w g t cs) (hb:w'.heap[g]? = w.heap[g]?):Blk w' g t cs:=hb.trans h
theorem Blk.grown {row:Option Nat} (h:Blk w g t cs) (hb:w.grownBy w' row) (hg:some g ≠ row):Blk w' g t cs:=(hb.block g h.lt hg).trans h
theorem Blk.upd {F:Nat → Prop} (h:Blk w g t cs) (hu:Upd F w w') (hn:¬ F g):Blk w' g t cs:=(hu.block g h.lt hn).trans h
theorem Blk.ne_type {g':Nat} {t':TypeId} {cs':Array Value} (h:Blk w g t cs) (h':Blk w g' t' cs') (hne:t ≠ t'):g ≠ g':=by
 rintro rfl
 unfold Blk at h h'
 rw [h] at h'
 injection h' with h'
 injection h' with _ ht
 exact hne ht
end
section
variable {w w':World} {base e size n:Nat} {v:Value} {xs:List Value}
theorem own_keep (h:w.ownsRow base e size v n xs) (hk:∀ g,v.ownBlock = some g → w'.heap[g]? = w.heap[g]?):w'.ownsRow base e size v n xs:=by
 refine ⟨h.1,?_⟩
 rcases h.2 with h2 | ⟨g,cap,cur,rfl,hb,hh,r⟩
 · exact .inl h2
 · exact .inr ⟨g,cap,cur,rfl,hb,(hk g rfl).trans hh,r⟩
theorem own_upd {F:Nat → Prop} (h:w.ownsRow base e size v n xs) (hu:Upd F w w') (hn:∀ g,v.ownBlock = some g → ¬ F g):w'.ownsRow base e size v n xs:=
 own_keep h fun g hg => hu.block g (h.lt g hg).2 (hn g hg)
theorem own_drew (h:w.ownsRow base e size v n xs):w.drew.ownsRow base e size v n xs:=h
theorem own_blk_ne {g:Nat} {t:TypeId} {cs:Array Value} (h:w.ownsRow base e size v n xs) (hg:Blk w g t cs) (hne:e ≠ t):v.ownBlock ≠ some g:=by
 rcases h.2 with ⟨rfl,_⟩ | ⟨g',cap,cur,rfl,_,hh,_⟩
 · simp [Value.ownBlock]
 · intro he
   have:g' = g:=by simpa [Value.ownBlock] using he
   subst this
   exact Blk.ne_type (t:=e) hh hg hne rfl
theorem own_blk (h:w.ownsRow base e size v n xs) {k:Nat} (hk:v.ownBlock = some k):∃ cs,Blk w k e cs:=by
 rcases h.2 with ⟨rfl,_⟩ | ⟨g,cap,cur,rfl,_,hh,_⟩
 · simp [Value.ownBlock] at hk
 · have:g = k:=by simpa [Value.ownBlock] using hk
   subst this
   exact ⟨_,hh⟩
theorem own_own_ne {base' e' size' n':Nat} {v':Value} {xs':List Value} (h:w.ownsRow base e size v n xs) (h':w.ownsRow base' e' size' v' n' xs') (hne:e ≠ e') {k:Nat} (hk:v.ownBlock = some k):v'.ownBlock ≠ some k:=by
 obtain ⟨cs,hb⟩:=own_blk h hk
 exact own_blk_ne h' hb (Ne.symm hne)
theorem own_len (h:w.ownsRow base e size v n xs):n ≤ maxLen:=by
 rcases h.2 with ⟨_,rfl⟩ | ⟨g,cap,cur,_,_,_,h1,h2,_⟩
 · exact Nat.zero_le _
 · exact Nat.le_trans h1 h2
theorem own_shape (h:w.ownsRow base e size v n xs):∃ A c,v = .slice A n c ∧ n ≤ c ∧ c ≤ maxLen:=by
 rcases h.2 with ⟨rfl,rfl⟩ | ⟨g,cap,cur,rfl,_,_,h1,h2,_⟩
 · exact ⟨none,0,rfl,Nat.le_refl _,Nat.zero_le _⟩
 · exact ⟨_,cap,rfl,h1,h2⟩
theorem own_base (h:w.ownsRow base e size v n xs) {b:Nat} (hb:b ≤ base):w.ownsRow b e size v n xs:=by
 refine ⟨h.1,?_⟩
 rcases h.2 with h2 | ⟨g,cap,cur,rfl,hg,r⟩
 · exact .inl h2
 · exact .inr ⟨g,cap,cur,rfl,by omega,r⟩
end
def nums (k:IntKind) (xs:List Int):List Value:=xs.map fun x => .int k x
theorem nums_length (k:IntKind) (xs:List Int):(nums k xs).length = xs.length:=by simp [nums]
theorem nums_append (k:IntKind) (xs ys:List Int):nums k (xs ++ ys) = nums k xs ++ nums k ys:=by simp [nums]
theorem add_plain (g j:Nat):(⟨g,0,none⟩:Addr).add j = ⟨g,j,none⟩:=by unfold Addr.add; split <;> simp_all
theorem nums_one (k:IntKind) (xs:List Int):∀ u ∈ nums k xs,u.oneCell' = true:=by
 intro u hu
 simp only [nums,List.mem_map] at hu
 obtain ⟨x,_,rfl⟩:=hu
 rfl
theorem news_one (w:World) (e:TypeId) (u:Value):∀ j y,[u][j]? = some y → (w.alloc (.cells #[u] e)).cell? ((⟨w.heap.size,0,none⟩:Addr).add j) = some y:=by
 intro j y hj
 match j,hj with
 | 0,hj =>
  simp at hj
  subst hj
  rw [add_plain,cell_of_row _ _ _ #[u] e (0,0) (heap_alloc_new w _)]
  rfl
def Rd (w:World) (size:Nat) (A:Option Addr) (n:Nat) (xs:List Value):Prop:=
 xs.length = n * size ∧ (0 < n → ∃ ad,A = some ad ∧ ∀ j u,xs[j]? = some u → w.cell? (ad.add j) = some u)
theorem Addr_add_block (a:Addr) (n:Nat):(a.add n).block = a.block:=by unfold Addr.add; split <;> rfl
theorem Addr_add_add (a:Addr) (i j:Nat):(a.add i).add j = a.add (i + j):=by
 unfold Addr.add
 by_cases hi:i = 0 <;> by_cases hj:j = 0 <;> simp [hi,hj,Nat.add_assoc]
section
variable {w w':World} {size n:Nat} {A:Option Addr} {xs:List Value}
theorem Rd.nil_ (w:World) (size:Nat) (A:Option Addr):Rd w size A 0 []:=⟨by simp,fun h => absurd h (by omega)⟩
theorem Rd.lt (h:Rd w size A n xs) (hn:0 < n) (hs:0 < size):∃ ad,A = some ad ∧ ad.block < w.heap.size:=by
 obtain ⟨ad,e,hc⟩:=h.2 hn
 have hl:0 < xs.length:=by rw [h.1]; exact Nat.mul_pos hn hs
 refine ⟨ad,e,?_⟩
 have:=World.block_lt_of_cell? w _ (hc 0 xs[0] (List.getElem?_eq_getElem hl))
 rwa [Addr_add_block] at this
theorem Rd.upd {F:Nat → Prop} (h:Rd w size A n xs) (hs:0 < size) (hu:Upd F w w') (hn:∀ ad,A = some ad → ¬ F ad.block):Rd w' size A n xs:=
 ⟨h.1,fun h0 => by
  obtain ⟨ad,e,hl⟩:=h.lt h0 hs
  obtain ⟨ad',e',hc⟩:=h.2 h0
  rw [e] at e'
  injection e' with e'
  subst e'
  exact ⟨ad,e,fun j u hj => (World.cell?_of_block (w:=w) (by rw [Addr_add_block]; exact hu.block _ hl (hn ad e))).trans (hc j u hj)⟩⟩
theorem Rd.below (h:Rd w size A n xs) (hs:0 < size) (hb:Below w.heap.size w w'):Rd w' size A n xs:=h.upd hs (Upd.of_below No hb) fun _ _ => no_ _
theorem Rd.at_ {k:Nat} (h:Rd w 1 A n xs) (hk:k < n):∃ ad u,A = some ad ∧ xs[k]? = some u ∧ w.cell? (ad.add k) = some u:=by
 obtain ⟨ad,e,hc⟩:=h.2 (by omega)
 have hl:k < xs.length:=by have:=h.1; omega
 exact ⟨ad,xs[k],e,List.getElem?_eq_getElem hl,hc k _ (List.getElem?_eq_getElem hl)⟩
theorem Rd.drew (h:Rd w size A n xs):Rd w.drew size A n xs:=h
theorem Rd.alloc (h:Rd w size A n xs) (hs:0 < size) (o:Obj):Rd (w.alloc o) size A n xs:=h.upd hs ((Upd.refl No w).alloc o) fun _ _ => no_ _
theorem Rd.take (h:Rd w size A n xs) {k:Nat} (hk:k ≤ n):Rd w size A k (xs.take (k * size)):=by
 refine ⟨by rw [List.length_take,h.1]; exact Nat.min_eq_left (Nat.mul_le_mul_right _ hk),fun h0 => ?_⟩
 obtain ⟨ad,e,hc⟩:=h.2 (by omega)
 refine ⟨ad,e,fun j u hj => hc j u ?_⟩
 rw [List.getElem?_take] at hj
 split at hj
 · exact hj
 · cases hj
theorem Rd.drop (h:Rd w size A n xs) {k c:Nat} (hk:k ≤ n) (hc:n ≤ c):Rd w size (if c = k then A else A.map (·.add (k * size))) (n - k) (xs.drop (k * size)):=by
 refine ⟨by rw [List.length_drop,h.1,Nat.sub_mul],fun hn => ?_⟩
 obtain ⟨ad,rfl,hcell⟩:=h.2 (by omega)
 rw [if_neg (by omega)]
 refine ⟨ad.add (k * size),rfl,fun j u hu => ?_⟩
 rw [Addr_add_add]
 exact hcell _ u (by rw [← hu,List.getElem?_drop])
end
theorem Rd.of_own {w:World} {base e size n c:Nat} {A:Option Addr} {xs:List Value} (h:w.ownsRow base e size (.slice A n c) n xs):Rd w size A n xs:=by
 refine ⟨h.1,fun hn => ?_⟩
 obtain ⟨g,cap,hv,_,hlt⟩:=h.form hn
 have hA:A = some ⟨g,0,none⟩:=by injection hv
 subst hA
 exact ⟨_,rfl,h.cells (g:=g) rfl⟩
def gi (l:List Int) (i:Nat):Int:=l.getD i 0
theorem gi_get (l:List Int) (i:Nat) (h:i < l.length):l[i]? = some (gi l i):=by simp [gi,List.getD_eq_getElem?_getD,List.getElem?_eq_getElem h]
theorem gi_take (l:List Int) (k i:Nat) (h:i < k):gi (l.take k) i = gi l i:=by simp [gi,List.getD_eq_getElem?_getD,h]
theorem gi_mem (l:List Int) (i:Nat) (h:i < l.length):gi l i ∈ l:=List.mem_of_getElem? (gi_get l i h)
theorem nums_get (k:IntKind) (l:List Int) (i:Nat) (h:i < l.length):(nums k l)[i]? = some (.int k (gi l i)):=by simp [nums,gi_get l i h]
def Rn (w:World) (k:IntKind) (A:Option Addr) (l:List Int):Prop:=Rd w 1 A l.length (nums k l)
theorem Rn.at_ {w:World} {k:IntKind} {A:Option Addr} {l:List Int} (h:Rn w k A l) {i:Nat} (hi:i < l.length):∃ ad,A = some ad ∧ w.cell? (ad.add i) = some (.int k (gi l i)):=by
 obtain ⟨ad,e,hc⟩:=h.2 (by omega)
 exact ⟨ad,e,hc i _ (nums_get k l i hi)⟩
theorem Rn.cell {w:World} {k:IntKind} {ad:Addr} {l:List Int} (h:Rn w k (some ad) l) {i:Nat} (hi:i < l.length):w.cell? (ad.add i) = some (.int k (gi l i)):=by
 obtain ⟨ad',e,hc⟩:=h.at_ hi
 injection e with e
 subst e
 exact hc
theorem Rn.drop {w:World} {k:IntKind} {A:Option Addr} {l:List Int} (h:Rn w k A l) {i c:Nat} (hi:i ≤ l.length) (hc:l.length ≤ c):Rn w k (if c = i then A else A.map (·.add i)) (l.drop i):=by
 have:=Rd.drop h (k:=i) hi hc
 unfold Rn
 rw [List.length_drop]
 simpa [nums,List.map_drop] using this
theorem Rn.take {w:World} {k:IntKind} {A:Option Addr} {l:List Int} (h:Rn w k A l) {i:Nat} (hi:i ≤ l.length):Rn w k A (l.take i):=by
 have:=Rd.take h (k:=i) hi
 unfold Rn
 rw [List.length_take,Nat.min_eq_left hi]
 simpa [nums,List.map_take] using this
theorem Rn.lit (w:World) (k:IntKind) (e:TypeId) (l:List Int):Rn (w.alloc (.cells (nums k l).toArray e)) k (some ⟨w.heap.size,0,none⟩) l:=by
 refine ⟨by simp [nums],fun _ => ⟨_,rfl,fun j u hu => ?_⟩⟩
 rw [add_plain,cell_of_row _ _ _ _ e (0,0) (heap_alloc_new w _)]
 simpa using hu
theorem cut_from {P:Program} (t e:TypeId) (kl:IntKind) (ht:P.underlying t = some (.slice e)) (hi:(P.info? e).map (·.size) = some 1) (A:Option Addr) (n c m:Nat) (mi:Int) (hmi:mi = (m:Int)) (hm:m ≤ n) :
 ∃ A':Option Addr,A' = (if c = m then A else A.map (·.add m)) ∧ (∀ W:World,(Instr.slice t (.slice A n c) (some (.int kl mi)) none none).run P W = .ok (.slice A' (n - m) (c - m)) W):=by
 subst hmi
 refine ⟨_,rfl,fun W => ?_⟩
 obtain ⟨i,hi1,hi2⟩:=Option.map_eq_some_iff.1 hi
 have hel:P.elem t = e:=by simp [Program.elem,ht]
 have hu:P.underlying t = some (.slice (P.elem t)):=by rw [hel]; exact ht
 rw [run_slice_l W t A n c hu kl (m:Int) (Int.natCast_nonneg _) (by omega),hel]
 simp [sizeOf,typeInfo,hi1,hi2,sliced,Result.andThen]
theorem cut_mid {P:Program} (t e:TypeId) (kl kh:IntKind) (ht:P.underlying t = some (.slice e)) (hi:(P.info? e).map (·.size) = some 1) (A:Option Addr) (n c m h n':Nat) (mi hi':Int) (hmi:mi = (m:Int)) (hhi:hi' = (h:Int)) (hn:n' = h - m) (hm:m ≤ h) (hh:h ≤ c) :
 ∃ A':Option Addr,A' = (if c = m then A else A.map (·.add m)) ∧ (∀ W:World,(Instr.slice t (.slice A n c) (some (.int kl mi)) (some (.int kh hi')) none).run P W = .ok (.slice A' n' (c - m)) W):=by
 subst hmi hhi hn
 refine ⟨_,rfl,fun W => ?_⟩
 obtain ⟨i,hi1,hi2⟩:=Option.map_eq_some_iff.1 hi
 have hel:P.elem t = e:=by simp [Program.elem,ht]
 have hu:P.underlying t = some (.slice (P.elem t)):=by rw [hel]; exact ht
 rw [run_slice_lh W t A n c hu kl kh (m:Int) (h:Int) (Int.natCast_nonneg _) (by omega) (by omega),hel]
 simp [sizeOf,typeInfo,hi1,hi2,sliced,Result.andThen]
theorem add_none (a:Addr):a.add 0 = a:=rfl
theorem cut_to {P:Program} (t e:TypeId) (kh:IntKind) (ht:P.underlying t = some (.slice e)) (hi:(P.info? e).map (·.size) = some 1) (A:Option Addr) (n c h:Nat) (hi':Int) (hhi:hi' = (h:Int)) (hh:h ≤ c) :
 ∀ W:World,(Instr.slice t (.slice A n c) none (some (.int kh hi')) none).run P W = .ok (.slice A h c) W:=by
 subst hhi
 intro W
 obtain ⟨i,hi1,hi2⟩:=Option.map_eq_some_iff.1 hi
 have hel:P.elem t = e:=by simp [Program.elem,ht]
 have hu:P.underlying t = some (.slice (P.elem t)):=by rw [hel]; exact ht
 rw [run_slice_h W t A n c hu kh (h:Int) (Int.natCast_nonneg _) (by omega),hel]
 have e0:(A.map fun x => x.add 0) = A:=by cases A <;> rfl
 simp [sizeOf,typeInfo,hi1,hi2,sliced,Result.andThen,e0]
theorem conv_str {P:Program} {w:World} {A:Option Addr} {l:List Int} (h:Rn w .u8 A l) (src dst e c:Nat) (hs:P.underlying src = some (.slice e)) (he:P.underlying e = some (.int .u8)) (hd:P.underlying dst = some .string) :
 (convert src dst (.slice A l.length c)).run P w = .ok (.string (strOfNums l)) w:=by
 rcases A with _ | ad
 · have h0:l = []:=by
    rcases Nat.eq_zero_or_pos l.length with h0 | h0
    · exact List.eq_nil_of_length_eq_zero h0
    · obtain ⟨ad,h',_⟩:=h.2 h0
      cases h'
   subst h0
   exact run_convert_bytes_nil w src e hs he 0 c dst hd
 · have hl:(loadCells ad l.length).run P w = .ok (l.map (Value.int .u8)).toArray w:=by
    have:=run_loadCells_list (P:=P) w ad (l.map (Value.int .u8)) (fun j v hj => by
     have hjl:j < l.length:=by
      rcases Nat.lt_or_ge j l.length with h' | h'
      · exact h'
      · rw [List.getElem?_eq_none (by rw [List.length_map]; exact h')] at hj
        cases hj
     rw [Rn.cell h hjl]
     rw [List.getElem?_map,gi_get l j hjl] at hj
     exact hj)
    simpa using this
   rw [run_convert_bytes_string w src dst e _ l.length c hs he hd,run_bytesToString w ad l.length c l hl,foldl_push_bytes]
   simp [strOfNums,ByteArray.empty,ByteArray.emptyWithCapacity]
   rfl
theorem cut_block {A:Option Addr} {c m:Nat} {ad':Addr} (h:(if c = m then A else A.map (·.add m)) = some ad'):∃ ad,A = some ad ∧ ad'.block = ad.block:=by
 split at h
 · exact ⟨ad',h,rfl⟩
 · obtain ⟨ad,rfl,rfl⟩:=Option.map_eq_some_iff.1 h
   exact ⟨ad,rfl,Addr_add_block _ _⟩
section
variable {P:Program} {ops:Array Oper} {rest:List Oper} {o:Oper} {a:Act} {Q:Exit → Act → World → Prop}
theorem wp_ap_one {W:World} {base:Nat} {K:Act → World → Prop} (s x:Operand) (t e:TypeId) (z:Value) (bytes:Nat)
 (ho:o.op = .call { callee:=.builtin .append,args:=#[s,x],argTypes:=#[t,t] })
 (ht:P.underlying t = some (.slice e)) (hinfo:(P.info? e).map (fun i => (i.zero,i.size,i.bytes)) = some (some z,1,bytes)) (hz:z.cells.size = 1)
 (v:Value) (n:Nat) (xs:List Value) (y:Value) (hs:a.eval s = v) {b:Nat} (hx:a.eval x = .slice (some ⟨b,0,none⟩) 1 1) (hy:Blk W b e #[y]) (h1:y.oneCell' = true)
 (HO:W.ownsRow base e 1 v n xs) (h63:n + 1 ≤ 9223372036854775807) (hl:(n + 1) * bytes ≤ 140737488355328)
 (h:∀ g c w1,w1.ownsRow base e 1 (.slice (some ⟨g,0,none⟩) (n + 1) c) (n + 1) (xs ++ [y]) → W.grownBy w1 v.ownBlock → (v.ownBlock = some g ∨ W.heap.size ≤ g) → K (a.put o.dst (.slice (some ⟨g,0,none⟩) (n + 1) c)) w1) (hbase:base ≤ W.heap.size:=by omega) :
 o.wp P a W K Q:=by
 obtain ⟨i0,hi,hzz⟩:=Option.map_eq_some_iff.1 hinfo
 simp only [Prod.mk.injEq] at hzz
 obtain ⟨hz0,hz1,hz2⟩:=hzz
 obtain ⟨v1,w1,hr,hown,hg,_,hat⟩:=run_append_own_at (P:=P) W base t o.type e i0 z 1 bytes ht hi hz0 hz1 hz2 hz (by omega) v n xs HO ⟨b,0,none⟩ 1 1 [y] rfl
  (fun j u hj => by
   match j,hj with
   | 0,hj =>
    simp at hj
    subst hj
    rw [add_plain,hy.cell]
    rfl) (by simpa using h1) (by simp only [maxLen]; omega) hl hbase
 obtain ⟨g,c,rfl,_,_⟩:=hown.form (by omega)
 unfold Oper.wp execOp
 simp only [ho,resolve,invoke,builtin,Sem.run_bind,Sem.run_pure,Result.andThen_ok,List.map_toArray,List.map_cons,List.map_nil,hs,hx,hr]
 refine h g c w1 hown hg ?_
 rcases hat with hat | hat
 · exact .inl hat.symm
 · have:g = W.heap.size:=by simpa [Value.ownBlock] using hat
   exact .inr (by omega)
theorem ap_one {W:World} {base:Nat} (hgd:o.guard = none) (s x:Operand) (t e:TypeId) (z:Value) (bytes:Nat)
 (ho:o.op = .call { callee:=.builtin .append,args:=#[s,x],argTypes:=#[t,t] })
 (ht:P.underlying t = some (.slice e)) (hinfo:(P.info? e).map (fun i => (i.zero,i.size,i.bytes)) = some (some z,1,bytes)) (hz:z.cells.size = 1)
 (v:Value) (n:Nat) (xs:List Value) (y:Value) (hs:a.eval s = v) {b:Nat} (hx:a.eval x = .slice (some ⟨b,0,none⟩) 1 1) (hy:Blk W b e #[y]) (h1:y.oneCell' = true)
 (HO:W.ownsRow base e 1 v n xs) (h63:n + 1 ≤ 9223372036854775807) (hl:(n + 1) * bytes ≤ 140737488355328)
 (h:∀ g c w1,w1.ownsRow base e 1 (.slice (some ⟨g,0,none⟩) (n + 1) c) (n + 1) (xs ++ [y]) → W.grownBy w1 v.ownBlock → (v.ownBlock = some g ∨ W.heap.size ≤ g) → wpList P ops Q rest (a.put o.dst (.slice (some ⟨g,0,none⟩) (n + 1) c)) w1) (hbase:base ≤ W.heap.size:=by omega) :
 wpList P ops Q (o :: rest) a W:=
 wpList_plain hgd fun _ hK => wp_ap_one s x t e z bytes ho ht hinfo hz v n xs y hs hx hy h1 HO h63 hl (fun g c w1 h2 h3 h4 => hK _ _ (h g c w1 h2 h3 h4)) hbase
theorem step_ap_one {W:World} {base:Nat} {K:Act → World → Prop} {E:Prop} (hgd:o.guard = none) (s x:Operand) (t e:TypeId) (z:Value) (bytes:Nat)
 (ho:o.op = .call { callee:=.builtin .append,args:=#[s,x],argTypes:=#[t,t] })
 (ht:P.underlying t = some (.slice e)) (hinfo:(P.info? e).map (fun i => (i.zero,i.size,i.bytes)) = some (some z,1,bytes)) (hz:z.cells.size = 1)
 (v:Value) (n:Nat) (xs:List Value) (y:Value) (hs:a.eval s = v) {b:Nat} (hx:a.eval x = .slice (some ⟨b,0,none⟩) 1 1) (hy:Blk W b e #[y]) (h1:y.oneCell' = true)
 (HO:W.ownsRow base e 1 v n xs) (h63:n + 1 ≤ 9223372036854775807) (hl:(n + 1) * bytes ≤ 140737488355328)
 (h:∀ g c w1,w1.ownsRow base e 1 (.slice (some ⟨g,0,none⟩) (n + 1) c) (n + 1) (xs ++ [y]) → W.grownBy w1 v.ownBlock → (v.ownBlock = some g ∨ W.heap.size ≤ g) → K (a.put o.dst (.slice (some ⟨g,0,none⟩) (n + 1) c)) w1) (hbase:base ≤ W.heap.size:=by omega) :
 if Region.wanted o (yielded ops a.tmps) = true then Oper.wp P o a W K Q else E:=by
 have hw:Region.wanted o (yielded ops a.tmps) = true:=by simp [Region.wanted,hgd]
 rw [if_pos hw]
 exact wp_ap_one s x t e z bytes ho ht hinfo hz v n xs y hs hx hy h1 HO h63 hl h hbase
theorem run_append_nil_src {W:World} (base t ty e:Nat) (i:TypeInfo) (size:Nat) (ht:P.underlying t = some (.slice e)) (hi:P.info? e = some i)
 (v:Value) (n:Nat) (xs:List Value) (hown:W.ownsRow base e size v n xs) (c:Nat):(Builtin.append_ #[t,t] ty #[v,.slice none 0 c]).run P W = .ok v W:=by
 rcases hown.2 with ⟨rfl,rfl⟩ | ⟨g,cap,cur,rfl,_,_,hnc,_⟩
 · simp [Builtin.append_,run_underlying ht,sizeOf,typeInfo,hi,Builtin.lenOf,Builtin.firstCells]
 · simp [Builtin.append_,run_underlying ht,sizeOf,typeInfo,hi,Builtin.lenOf,Builtin.firstCells,hnc,storeCells]
theorem run_ap_row {W:World} (base t ty e:Nat) (z:Value) (size bytes:Nat)
 (ht:P.underlying t = some (.slice e)) (hinfo:(P.info? e).map (fun i => (i.zero,i.size,i.bytes)) = some (some z,size,bytes)) (hz:z.cells.size = size) (hs0:0 < size)
 (v:Value) (n:Nat) (xs:List Value) (HO:W.ownsRow base e size v n xs) (A:Option Addr) (m c:Nat) (ys:List Value) (HR:Rd W size A m ys) (h1:∀ u ∈ ys,u.oneCell' = true)
 (h63:n + m ≤ 9223372036854775807) (hl:(n + m) * bytes ≤ 140737488355328) (hbase:base ≤ W.heap.size) :
 ∃ v1 w1,(Builtin.append_ #[t,t] ty #[v,.slice A m c]).run P W = .ok v1 w1 ∧ w1.ownsRow base e size v1 (n + m) (xs ++ ys) ∧ W.grownBy w1 v.ownBlock ∧ (v1.ownBlock = v.ownBlock ∨ v1.ownBlock = some W.heap.size):=by
 obtain ⟨i0,hi,hzz⟩:=Option.map_eq_some_iff.1 hinfo
 simp only [Prod.mk.injEq] at hzz
 obtain ⟨hz0,hz1,hz2⟩:=hzz
 rcases A with _ | ad
 · have hm:m = 0:=by
    rcases Nat.eq_zero_or_pos m with h0 | h0
    · exact h0
    · obtain ⟨ad,h,_⟩:=HR.2 h0
      cases h
   subst hm
   have hn:ys = []:=List.eq_nil_of_length_eq_zero (by simpa using HR.1)
   subst hn
   exact ⟨v,W,run_append_nil_src base t ty e i0 size ht hi v n xs HO c,by simpa using HO,World.grownBy.refl W _,.inl rfl⟩
 · have hcells:∀ j u,ys[j]? = some u → W.cell? (ad.add j) = some u:=by
    intro j u hu
    rcases Nat.eq_zero_or_pos m with h0 | h0
    · subst h0
      have hn:ys = []:=List.eq_nil_of_length_eq_zero (by simpa using HR.1)
      subst hn
      simp at hu
    · obtain ⟨ad',h,hc⟩:=HR.2 h0
      injection h with h
      subst h
      exact hc j u hu
   obtain ⟨v',w',hrun,h2,h3,_,h5⟩:=run_append_own_at (P:=P) W base t ty e i0 z size bytes ht hi hz0 hz1 hz2 hz hs0 v n xs HO ad m c ys HR.1 hcells h1 (by simp only [maxLen]; omega) hl hbase
   exact ⟨v',w',hrun,h2,h3,h5⟩
theorem wp_ap_row {W:World} {K:Act → World → Prop} (base:Nat) (s x:Operand) (t e:TypeId) (z:Value) (size bytes:Nat)
 (ho:o.op = .call { callee:=.builtin .append,args:=#[s,x],argTypes:=#[t,t] })
 (ht:P.underlying t = some (.slice e)) (hinfo:(P.info? e).map (fun i => (i.zero,i.size,i.bytes)) = some (some z,size,bytes)) (hz:z.cells.size = size) (hs0:0 < size)
 (v:Value) (n:Nat) (xs:List Value) (A:Option Addr) (m c:Nat) (ys:List Value) (hs:a.eval s = v) (hx:a.eval x = .slice A m c)
 (HO:W.ownsRow base e size v n xs) (HR:Rd W size A m ys) (h1:∀ u ∈ ys,u.oneCell' = true) (h63:n + m ≤ 9223372036854775807) (hl:(n + m) * bytes ≤ 140737488355328) (hbase:base ≤ W.heap.size)
 (h:∀ A1 c1 w1,w1.ownsRow base e size (.slice A1 (n + m) c1) (n + m) (xs ++ ys) → W.grownBy w1 v.ownBlock → (∀ g,(Value.slice A1 (n + m) c1).ownBlock = some g → v.ownBlock = some g ∨ W.heap.size ≤ g) → K (a.put o.dst (.slice A1 (n + m) c1)) w1) :
 o.wp P a W K Q:=by
 obtain ⟨v1,w1,hr,hown,hg,hat⟩:=run_ap_row (P:=P) base t o.type e z size bytes ht hinfo hz hs0 v n xs HO A m c ys HR h1 h63 hl hbase
 obtain ⟨A1,c1,rfl,_,_⟩:=own_shape hown
 unfold Oper.wp execOp
 simp only [ho,resolve,invoke,builtin,Sem.run_bind,Sem.run_pure,Result.andThen_ok,List.map_toArray,List.map_cons,List.map_nil,hs,hx,hr]
 refine h A1 c1 w1 hown hg fun g hgg => ?_
 rcases hat with hat | hat
 · exact .inl (hat.symm.trans hgg)
 · rw [hat] at hgg
   injection hgg with hgg
   exact .inr (by omega)
theorem ap_row {W:World} (base:Nat) (hgd:o.guard = none) (s x:Operand) (t e:TypeId) (z:Value) (size bytes:Nat)
 (ho:o.op = .call { callee:=.builtin .append,args:=#[s,x],argTypes:=#[t,t] })
 (ht:P.underlying t = some (.slice e)) (hinfo:(P.info? e).map (fun i => (i.zero,i.size,i.bytes)) = some (some z,size,bytes)) (hz:z.cells.size = size) (hs0:0 < size)
 (v:Value) (n:Nat) (xs:List Value) (A:Option Addr) (m c:Nat) (ys:List Value) (hs:a.eval s = v) (hx:a.eval x = .slice A m c)
 (HO:W.ownsRow base e size v n xs) (HR:Rd W size A m ys) (h1:∀ u ∈ ys,u.oneCell' = true) (h63:n + m ≤ 9223372036854775807) (hl:(n + m) * bytes ≤ 140737488355328) (hbase:base ≤ W.heap.size)
 (h:∀ A1 c1 w1,w1.ownsRow base e size (.slice A1 (n + m) c1) (n + m) (xs ++ ys) → W.grownBy w1 v.ownBlock → (∀ g,(Value.slice A1 (n + m) c1).ownBlock = some g → v.ownBlock = some g ∨ W.heap.size ≤ g) → wpList P ops Q rest (a.put o.dst (.slice A1 (n + m) c1)) w1) :
 wpList P ops Q (o :: rest) a W:=
 wpList_plain hgd fun _ hK => wp_ap_row base s x t e z size bytes ho ht hinfo hz hs0 v n xs A m c ys hs hx HO HR h1 h63 hl hbase fun A1 c1 w1 h2 h3 h4 => hK _ _ (h A1 c1 w1 h2 h3 h4)
theorem step_ap_row {W:World} {K:Act → World → Prop} {E:Prop} (base:Nat) (hgd:o.guard = none) (s x:Operand) (t e:TypeId) (z:Value) (size bytes:Nat)
 (ho:o.op = .call { callee:=.builtin .append,args:=#[s,x],argTypes:=#[t,t] })
 (ht:P.underlying t = some (.slice e)) (hinfo:(P.info? e).map (fun i => (i.zero,i.size,i.bytes)) = some (some z,size,bytes)) (hz:z.cells.size = size) (hs0:0 < size)
 (v:Value) (n:Nat) (xs:List Value) (A:Option Addr) (m c:Nat) (ys:List Value) (hs:a.eval s = v) (hx:a.eval x = .slice A m c)
 (HO:W.ownsRow base e size v n xs) (HR:Rd W size A m ys) (h1:∀ u ∈ ys,u.oneCell' = true) (h63:n + m ≤ 9223372036854775807) (hl:(n + m) * bytes ≤ 140737488355328) (hbase:base ≤ W.heap.size)
 (h:∀ A1 c1 w1,w1.ownsRow base e size (.slice A1 (n + m) c1) (n + m) (xs ++ ys) → W.grownBy w1 v.ownBlock → (∀ g,(Value.slice A1 (n + m) c1).ownBlock = some g → v.ownBlock = some g ∨ W.heap.size ≤ g) → K (a.put o.dst (.slice A1 (n + m) c1)) w1) :
 if Region.wanted o (yielded ops a.tmps) = true then Oper.wp P o a W K Q else E:=by
 have hw:Region.wanted o (yielded ops a.tmps) = true:=by simp [Region.wanted,hgd]
 rw [if_pos hw]
 exact wp_ap_row base s x t e z size bytes ho ht hinfo hz hs0 v n xs A m c ys hs hx HO HR h1 h63 hl hbase h
theorem run_ap_str {W : World} (base t u ty e : Nat) (ht : P.underlying t = some (.slice e)) (hu : P.underlying u = some .string)
   (hinfo : (P.info? e).map (fun i => (i.zero, i.size, i.bytes)) = some (some (.int .u8 0), 1, 1))
   (v : Value) (n : Nat) (xs : List Value) (HO : W.ownsRow base e 1 v n xs) (s : ByteArray) (hl : n + s.size ≤ 140737488355328) (hbase : base ≤ W.heap.size) :
   ∃ v1 w1, (Builtin.append_ #[t, u] ty #[v, .string s]).run P W = .ok v1 w1 ∧ w1.ownsRow base e 1 v1 (n + s.size) (xs ++ strCells s) ∧ W.grownBy w1 v.ownBlock ∧ (∀ g, v1.ownBlock = some g → v.ownBlock = some g ∨ W.heap.size ≤ g) := by
 obtain ⟨i0, hi, hzz⟩ := Option.map_eq_some_iff.1 hinfo
 simp only [Prod.mk.injEq] at hzz
 obtain ⟨hz0, hz1, hz2⟩ := hzz
 have hx1 : xs.length = n := by simpa using HO.1
 obtain ⟨v1, w1, hr, h2, h3, _⟩ := run_append_own_string (P := P) W base t u ty e i0 ht hu hi hz0 hz1 hz2 v n xs HO s (by simp only [maxLen]; omega) hl hbase
 refine ⟨v1, w1, hr, h2, h3, fun k hk => ?_⟩
 have fin : ∀ v2 w2, (Builtin.append_ #[t, u] ty #[v, .string s]).run P W = .ok v2 w2 → v1 = v2 := fun v2 w2 h => by
   rw [hr] at h
   injection h
 rcases HO.2 with ⟨rfl, rfl⟩ | ⟨g, cap, cur, rfl, hbg, hg, hnc, hcm, hcs, htake⟩
 · by_cases hm : s.size = 0
   · have hn : strCells s = [] := List.eq_nil_of_length_eq_zero (by rw [strCells_length]; exact hm)
     have hf := run_firstCells_string (P := P) W 1 s
     rw [hm] at hf
     have := fin (.slice none 0 0) W (by simp [Builtin.append_, run_underlying ht, run_underlying hu, sizeOf, typeInfo, hi, hz1, Builtin.lenOf, hm, hf])
     subst this
     simp [Value.ownBlock] at hk
   · have := fin _ _ (run_append_nil_string (P := P) W t u ty e i0 (.int .u8 0) ht hu hi hz0 s (by omega) (by omega) (by rw [hz2]; omega))
     subst this
     have : W.heap.size = k := by simpa [Value.ownBlock] using hk
     exact .inr (by omega)
 · by_cases hroom : n + s.size ≤ cap
   · have := fin _ _ (run_append_room_string (P := P) W t u ty e i0 ht hu hi hz1 g n cap cur hg s hroom (by have : cur.size = cap := by simpa using hcs
                                                                                                            omega))
     subst this
     exact .inl (by simpa [Value.ownBlock] using hk)
   · have holds : ∀ j y, xs[j]? = some y → W.cell? ((⟨g, 0, none⟩ : Addr).add j) = some y := HO.cells (g := g) rfl
     have := fin _ _ (run_append_grow_string (P := P) W t u ty e i0 (.int .u8 0) ht hu hi hz0 ⟨g, 0, none⟩ n cap xs (by rw [hz1]; simpa using hx1) holds s (by omega) (by omega) (by rw [hz2]; exact growslice_fits (by omega) (by omega)))
     subst this
     have : W.heap.size = k := by simpa [Value.ownBlock] using hk
     exact .inr (by omega)
theorem wp_ap_str {W:World} {K:Act → World → Prop} (base:Nat) (sl x:Operand) (t u e:TypeId)
 (ho:o.op = .call { callee:=.builtin .append,args:=#[sl,x],argTypes:=#[t,u] })
 (ht:P.underlying t = some (.slice e)) (hu:P.underlying u = some .string) (hinfo:(P.info? e).map (fun i => (i.zero,i.size,i.bytes)) = some (some (.int .u8 0),1,1))
 (v:Value) (n:Nat) (xs:List Value) (s:ByteArray) (hs:a.eval sl = v) (hx:a.eval x = .string s)
 (HO:W.ownsRow base e 1 v n xs) (hl:n + s.size ≤ 140737488355328) (hbase:base ≤ W.heap.size)
 (h:∀ A1 c1 w1,w1.ownsRow base e 1 (.slice A1 (n + s.size) c1) (n + s.size) (xs ++ strCells s) → W.grownBy w1 v.ownBlock → (∀ g,(Value.slice A1 (n + s.size) c1).ownBlock = some g → v.ownBlock = some g ∨ W.heap.size ≤ g) → K (a.put o.dst (.slice A1 (n + s.size) c1)) w1) :
 o.wp P a W K Q:=by
 obtain ⟨v1,w1,hr,hown,hg,hat⟩:=run_ap_str (P:=P) base t u o.type e ht hu hinfo v n xs HO s hl hbase
 obtain ⟨A1,c1,rfl,_,_⟩:=own_shape hown
 unfold Oper.wp execOp
 simp only [ho,resolve,invoke,builtin,Sem.run_bind,Sem.run_pure,Result.andThen_ok,List.map_toArray,List.map_cons,List.map_nil,hs,hx,hr]
 exact h A1 c1 w1 hown hg hat
theorem ap_str {W:World} (base:Nat) (hgd:o.guard = none) (sl x:Operand) (t u e:TypeId)
 (ho:o.op = .call { callee:=.builtin .append,args:=#[sl,x],argTypes:=#[t,u] })
 (ht:P.underlying t = some (.slice e)) (hu:P.underlying u = some .string) (hinfo:(P.info? e).map (fun i => (i.zero,i.size,i.bytes)) = some (some (.int .u8 0),1,1))
 (v:Value) (n:Nat) (xs:List Value) (s:ByteArray) (hs:a.eval sl = v) (hx:a.eval x = .string s)
 (HO:W.ownsRow base e 1 v n xs) (hl:n + s.size ≤ 140737488355328) (hbase:base ≤ W.heap.size)
 (h:∀ A1 c1 w1,w1.ownsRow base e 1 (.slice A1 (n + s.size) c1) (n + s.size) (xs ++ strCells s) → W.grownBy w1 v.ownBlock → (∀ g,(Value.slice A1 (n + s.size) c1).ownBlock = some g → v.ownBlock = some g ∨ W.heap.size ≤ g) → wpList P ops Q rest (a.put o.dst (.slice A1 (n + s.size) c1)) w1) :
 wpList P ops Q (o :: rest) a W:=
 wpList_plain hgd fun _ hK => wp_ap_str base sl x t u e ho ht hu hinfo v n xs s hs hx HO hl hbase fun A1 c1 w1 h2 h3 h4 => hK _ _ (h A1 c1 w1 h2 h3 h4)
end
theorem madeCells_list (z:Value) (n:Nat):madeCells #[z] n = (List.replicate n z).toArray:=by
 apply Array.ext'
 apply List.ext_getElem
 · simp [madeCells]
 · intro i h1 h2
   simp [madeCells,Nat.mod_one]
theorem mk_blk {P:Program} {w:World} {ops:Array Oper} {rst:List Oper} {o:Oper} {a:Act} {Q:Exit → Act → World → Prop} (hg:o.guard = none) (l c:Operand) (t e:TypeId) (z:Value) (bytes:Nat) (hop:o.op = Op.makeSlice t l c)
 (ht:P.underlying t = some (.slice e)) (hinfo:(P.info? e).map (fun i => (i.zero,i.size,i.bytes)) = some (some z,1,bytes)) (hz:z.cells = #[z]) (ni:Int) (n:Nat) (hl:a.eval l = .int .i64 ni) (hc:a.eval c = .int .i64 ni) (hn:ni = (n:Int)) (hb:bytes * n ≤ 281474976710656) (hb2:n ≤ 281474976710656)
 (hK:∀ w1 g,g = w.heap.size → Blk w1 g e (List.replicate n z).toArray → Upd No w w1 → w1.heap.size = w.heap.size + 1 → wpList P ops Q rst (a.put o.dst (.slice (some ⟨g,0,none⟩) n n)) w1):wpList P ops Q (o :: rst) a w:=by
 subst hn
 have hrun:=run_make_row' (P:=P) t e z bytes ht hinfo hz .i64 .i64 n (by omega) (by omega) w
 refine wpList_plain hg fun K hK' => ?_
 unfold Oper.wp
 simp [execOp,hop,hl,hc,hrun,Result.andThen]
 refine hK' _ _ (hK _ _ rfl ?_ ((Upd.refl _ _).alloc _) (by simp))
 rw [← madeCells_list]
 exact Blk.fresh w e _
def sb (s:ByteArray):List Int:=s.data.toList.map fun b => (b.toNat:Int)
theorem sb_cells (s:ByteArray):strCells s = nums .u8 (sb s):=by simp [strCells,nums,sb]
theorem sb_length (s:ByteArray):(sb s).length = s.size:=by rw [sb,List.length_map,Array.length_toList]; rfl
theorem u8_inj:∀ l1 l2:List Int,(∀ c ∈ l1,0 ≤ c ∧ c ≤ 255) → (∀ c ∈ l2,0 ≤ c ∧ c ≤ 255) → (l1.map fun n => UInt8.ofNat n.toNat) = (l2.map fun n => UInt8.ofNat n.toNat) → l1 = l2
 | [],[],_,_,_ => rfl
 | [],_ :: _,_,_,h => by simp at h
 | _ :: _,[],_,_,h => by simp at h
 | a :: x,b :: y,hx,hy,h => by
  simp only [List.map_cons,List.cons.injEq] at h
  have ha:=hx a (by simp)
  have hb:=hy b (by simp)
  have e1:∀ n:Int,0 ≤ n → n ≤ 255 → (UInt8.ofNat n.toNat).toNat = n.toNat:=fun n h0 h1 => by
   simp; omega
  have e2:a = b:=by
   have:=congrArg UInt8.toNat h.1
   rw [e1 a ha.1 ha.2,e1 b hb.1 hb.2] at this
   omega
  rw [e2,u8_inj x y (fun c hc => hx c (by simp [hc])) (fun c hc => hy c (by simp [hc])) h.2]
theorem str_eq (l1 l2:List Int) (h1:∀ c ∈ l1,0 ≤ c ∧ c ≤ 255) (h2:∀ c ∈ l2,0 ≤ c ∧ c ≤ 255):((strOfNums l1).toList == (strOfNums l2).toList) = decide (l1 = l2):=by
 simp only [strOfNums,ByteArray.toList_mk]
 rw [Bool.eq_iff_iff,beq_iff_eq,decide_eq_true_iff]
 exact ⟨u8_inj l1 l2 h1 h2,fun h => by rw [h]⟩
theorem conv_bytes {P:Program} (w:World) (src dst e:TypeId) (l:List Int) (hl:∀ c ∈ l,0 ≤ c ∧ c ≤ 255) {u:TypeDesc} (hs:P.underlying src = some u) (hd:P.underlying dst = some (.slice e)) (he:P.underlying e = some (.int .u8)) :
 ∃ w1 c,(convert src dst (.string (strOfNums l))).run P w = .ok (.slice (some ⟨w.heap.size,0,none⟩) l.length c) w1 ∧ Rn w1 .u8 (some ⟨w.heap.size,0,none⟩) l ∧ Upd No w w1:=by
 have hr:=Go.Lib.run_convert_string_bytes (P:=P) w src dst e (strOfNums l) hs hd he
 have hsz:=strOfNums_size l
 rw [hsz] at hr
 refine ⟨_,_,hr,⟨by simp [nums],fun _ => ⟨_,rfl,fun j v hj => ?_⟩⟩,⟨rfl,rfl,rfl,?_,fun k hk _ => Go.Lib.bytesWorld_at_old w e _ k hk⟩⟩
 · have hjl:j < l.length:=by
    rcases Nat.lt_or_ge j l.length with h | h
    · exact h
    · rw [List.getElem?_eq_none (by rw [nums_length]; exact h)] at hj
      cases hj
   rw [nums_get .u8 l j hjl] at hj
   injection hj with hj
   subst hj
   rw [add_plain,Go.Lib.bytesWorld_cell w e _ j (by rw [hsz]; exact hjl)]
   have hb:=hl (gi l j) (by simp [gi,List.getD_eq_getElem?_getD,List.getElem?_eq_getElem hjl])
   have e1:(strOfNums l).data.toList.getD j 0 = UInt8.ofNat (gi l j).toNat:=by
    simp [strOfNums,gi,List.getD_eq_getElem?_getD,List.getElem?_eq_getElem hjl]
   rw [e1]
   have e2:(UInt8.ofNat (gi l j).toNat).toNat = (gi l j).toNat:=by
    simp; omega
   rw [e2]
   congr 2
   omega
 · rw [Go.Lib.bytesWorld_size]; omega
end B
end
section
namespace B
open Go.RowKit
structure Ob where
 is:World → (Nat → Prop) → Prop
 keep:∀ {w w':World} {F G:Nat → Prop},is w F → Upd G w w' → (∀ k,F k → ¬ G k) → is w' F
 lt:∀ {w:World} {F:Nat → Prop},is w F → ∀ k,F k → k < w.heap.size
def Star:List Ob → World → (Nat → Prop) → Prop
 | [],w,F => ∀ k,F k → k < w.heap.size
 | o :: r,w,F => ∃ G H:Nat → Prop,o.is w G ∧ Star r w H ∧ (∀ k,G k → ¬ H k) ∧ (∀ k,G k → F k) ∧ (∀ k,H k → F k) ∧ ∀ k,F k → k < w.heap.size
section
variable {w w':World} {F G H:Nat → Prop} {l l':List Ob} {o o':Ob}
theorem Star.lt (h:Star l w F):∀ k,F k → k < w.heap.size:=by
 cases l with
 | nil => exact h
 | cons a r =>
  obtain ⟨_,_,_,_,_,_,_,h⟩:=h
  exact h
theorem Star.keep:∀ {l:List Ob} {F:Nat → Prop},Star l w F → Upd G w w' → (∀ k,F k → ¬ G k) → Star l w' F
 | [],_,h,hu,_ => fun k hk => Nat.lt_of_lt_of_le (h k hk) hu.size
 | o :: r,F,⟨A,B,h1,h2,h3,h4,h5,h6⟩,hu,hn =>
  ⟨A,B,o.keep h1 hu fun k hk => hn k (h4 k hk),Star.keep h2 hu fun k hk => hn k (h5 k hk),h3,h4,h5,fun k hk => Nat.lt_of_lt_of_le (h6 k hk) hu.size⟩
theorem Star.quiet (h:Star l w F) (hu:Upd No w w'):Star l w' F:=h.keep hu fun _ _ => no_ _
theorem Star.mono (h:Star l w F) (hg:∀ k,F k → G k) (hl:∀ k,G k → k < w.heap.size):Star l w G:=by
 cases l with
 | nil => exact hl
 | cons a r =>
  obtain ⟨A,B,h1,h2,h3,h4,h5,h6⟩:=h
  exact ⟨A,B,h1,h2,h3,fun k hk => hg k (h4 k hk),fun k hk => hg k (h5 k hk),hl⟩
theorem Star.head (h:Star (o :: l) w F):∃ G,o.is w G ∧ (∀ k,G k → F k) ∧
 ∀ w' G' o',Mv G G' w w' → o'.is w' G' → ∃ F',Star (o' :: l) w' F' ∧ Mv F F' w w':=by
 obtain ⟨A,B,h1,h2,h3,h4,h5,h6⟩:=h
 refine ⟨A,h1,h4,fun w' A' o' hm ho => ⟨fun k => A' k ∨ B k ∨ F k ∧ ¬ A k,⟨A',fun k => B k ∨ F k ∧ ¬ A k ∧ ¬ A' k,ho,?_,?_,fun k hk => .inl hk,fun k hk => ?_,fun k hk => ?_⟩,?_,fun k hk => ?_⟩⟩
 · refine (h2.keep hm.upd fun k hb ha => h3 k ha hb).mono (fun k hk => .inl hk) fun k hk => ?_
   have hs:=hm.upd.size
   rcases hk with hk | hk
   · have:=h6 k (h5 k hk); omega
   · have:=h6 k hk.1; omega
 · rintro k ha (hb | hb)
   · rcases hm.sub k ha with h | h
     · exact h3 k h hb
     · have:=h6 k (h5 k hb); omega
   · exact hb.2.2 ha
 · rcases hk with hk | hk
   · exact .inr (.inl hk)
   · exact .inr (.inr ⟨hk.1,hk.2.1⟩)
 · have hs:=hm.upd.size
   rcases hk with hk | hk | hk
   · exact o'.lt ho k hk
   · have:=h6 k (h5 k hk); omega
   · have:=h6 k hk.1; omega
 · exact hm.upd.mono fun k _ hk => h4 k hk
 · rcases hk with hk | hk | hk
   · rcases hm.sub k hk with h | h
     · exact .inl (h4 k h)
     · exact .inr h
   · exact .inl (h5 k hk)
   · exact .inl hk.1
theorem Star.swap (h:Star (o :: o' :: l) w F):Star (o' :: o :: l) w F:=by
 obtain ⟨A,B,h1,⟨C,D,g1,g2,g3,g4,g5,g6⟩,h3,h4,h5,h6⟩:=h
 refine ⟨C,fun k => A k ∨ D k,g1,⟨A,D,h1,g2,fun k ha hd => h3 k ha (g5 k hd),fun k hk => .inl hk,fun k hk => .inr hk,fun k hk => ?_⟩,fun k hc hk => ?_,fun k hk => h5 k (g4 k hk),fun k hk => ?_,h6⟩
 · rcases hk with hk | hk
   · exact h6 k (h4 k hk)
   · exact g6 k (g5 k hk)
 · rcases hk with hk | hk
   · exact h3 k hk (g4 k hc)
   · exact g3 k hc hk
 · rcases hk with hk | hk
   · exact h4 k hk
   · exact h5 k (g5 k hk)
theorem Star.perm (hp:l.Perm l'):∀ {F:Nat → Prop},Star l w F → Star l' w F:=by
 induction hp with
 | nil => exact fun h => h
 | cons x _ ih =>
  rintro F ⟨A,B,h1,h2,h3,h4,h5,h6⟩
  exact ⟨A,B,h1,ih h2,h3,h4,h5,h6⟩
 | swap x y r => exact fun h => h.swap
 | trans _ _ ih1 ih2 => exact fun h => ih2 (ih1 h)
theorem Star.at_:∀ {l:List Ob} {F:Nat → Prop} (h:Star l w F) (i:Nat) {o:Ob},l[i]? = some o → ∃ G,o.is w G ∧ (∀ k,G k → F k) ∧
 ∀ w' G' o',Mv G G' w w' → o'.is w' G' → ∃ F',Star (l.set i o') w' F' ∧ Mv F F' w w'
 | [],_,_,_,_,hi => by simp at hi
 | a :: r,F,h,0,o,hi => by
  simp only [List.getElem?_cons_zero,Option.some.injEq] at hi
  subst hi
  obtain ⟨G,h1,h2,h3⟩:=h.head
  exact ⟨G,h1,h2,fun w' G' o' hm ho => h3 w' G' o' hm ho⟩
 | a :: r,F,⟨A,B,h1,h2,h3,h4,h5,h6⟩,i + 1,o,hi => by
  simp only [List.getElem?_cons_succ] at hi
  obtain ⟨G,g1,g2,g3⟩:=Star.at_ h2 i hi
  refine ⟨G,g1,fun k hk => h5 k (g2 k hk),fun w' G' o' hm ho => ?_⟩
  obtain ⟨B',k1,k2⟩:=g3 w' G' o' hm ho
  have hs:=hm.upd.size
  refine ⟨fun k => F k ∨ B' k,⟨A,B',a.keep h1 hm.upd fun k ha hg => h3 k ha (g2 k hg),k1,fun k ha hb => ?_,fun k hk => .inl (h4 k hk),fun k hk => .inr hk,fun k hk => ?_⟩,?_,fun k hk => ?_⟩
  · rcases k2.sub k hb with h | h
    · exact h3 k ha h
    · have:=h6 k (h4 k ha); omega
  · rcases hk with hk | hk
    · have:=h6 k hk; omega
    · exact k1.lt k hk
  · exact hm.upd.mono fun k _ hk => h5 k (g2 k hk)
  · rcases hk with hk | hk
    · exact .inl hk
    · rcases k2.sub k hk with h | h
      · exact .inl (h5 k h)
      · exact .inr h
theorem Star.push (h:Star l w F) (hu:Upd No w w') (ho:o.is w' G) (hG:∀ k,G k → w.heap.size ≤ k):∃ F',Star (o :: l) w' F' ∧ Mv F F' w w':=by
 have hs:=hu.size
 refine ⟨fun k => G k ∨ F k,⟨G,F,ho,h.quiet hu,fun k hg hf => ?_,fun k hk => .inl hk,fun k hk => .inr hk,fun k hk => ?_⟩,hu.mono fun _ _ h => h.elim,fun k hk => ?_⟩
 · have h1:=hG k hg
   have h2:=h.lt k hf
   omega
 · rcases hk with hk | hk
   · exact o.lt ho k hk
   · have:=h.lt k hk; omega
 · rcases hk with hk | hk
   · exact .inr (hG k hk)
   · exact .inl hk
theorem Star.two (h:Star (o :: o' :: l) w F):∃ G H,o.is w G ∧ o'.is w H ∧ (∀ k,G k → ¬ H k) ∧ (∀ k,G k → F k) ∧ (∀ k,H k → F k) ∧
 ∀ w' G' H' a b,Upd (fun k => G k ∨ H k) w w' → (∀ k,G' k → G k ∨ H k ∨ w.heap.size ≤ k) → (∀ k,H' k → G k ∨ H k ∨ w.heap.size ≤ k) → (∀ k,G' k → ¬ H' k) → a.is w' G' → b.is w' H' →
  ∃ F',Star (a :: b :: l) w' F' ∧ Mv F F' w w':=by
 obtain ⟨A,B,h1,⟨C,D,g1,g2,g3,g4,g5,g6⟩,h3,h4,h5,h6⟩:=h
 refine ⟨A,C,h1,g1,fun k ha hc => h3 k ha (g4 k hc),h4,fun k hk => h5 k (g4 k hk),fun w' G' H' a b hu hG hH hGH ha hb => ?_⟩
 have hs:=hu.size
 have hd:=g2.keep hu fun k hd hk => hk.elim (fun ha => h3 k ha (g5 k hd)) fun hc => g3 k hc hd
 have nd:∀ k,(A k ∨ C k ∨ w.heap.size ≤ k) → ¬ D k:=fun k hk hd => by
  rcases hk with hk | hk | hk
  · exact h3 k hk (g5 k hd)
  · exact g3 k hk hd
  · have:=g6 k (g5 k hd)
    omega
 refine ⟨fun k => G' k ∨ H' k ∨ D k,⟨G',fun k => H' k ∨ D k,ha,⟨H',D,hb,hd,fun k hk => nd k (hH k hk),fun k hk => .inl hk,fun k hk => .inr hk,fun k hk => ?_⟩,fun k hk hk2 => ?_,fun k hk => .inl hk,fun k hk => .inr hk,fun k hk => ?_⟩,hu.mono fun k _ hk => hk.elim (h4 k) fun hc => h5 k (g4 k hc),fun k hk => ?_⟩
 · exact hk.elim (b.lt hb k) (hd.lt k)
 · exact hk2.elim (hGH k hk) (nd k (hG k hk))
 · rcases hk with hk | hk | hk
   · exact a.lt ha k hk
   · exact b.lt hb k hk
   · exact hd.lt k hk
 · rcases hk with hk | hk | hk
   · rcases hG k hk with h | h | h
     · exact .inl (h4 k h)
     · exact .inl (h5 k (g4 k h))
     · exact .inr h
   · rcases hH k hk with h | h | h
     · exact .inl (h4 k h)
     · exact .inl (h5 k (g4 k h))
     · exact .inr h
   · exact .inl (h5 k (g5 k hk))
end
def Ob.star (l:List Ob):Ob:=⟨Star l,fun h hu hn => h.keep hu hn,fun h => h.lt⟩
def Ob.and (p:Prop) (o:Ob):Ob:=⟨fun w F => p ∧ o.is w F,fun h hu hn => ⟨h.1,o.keep h.2 hu hn⟩,fun h => o.lt h.2⟩
def Ob.blk (g:Nat) (t:TypeId) (cs:Array Value):Ob:=⟨fun w F => Blk w g t cs ∧ ∀ k,F k ↔ k = g,fun h hu hn => ⟨h.1.upd hu (hn _ ((h.2 _).2 rfl)),h.2⟩,fun h k hk => (h.2 k).1 hk ▸ h.1.lt⟩
theorem Ob.blk_is {w:World} {g:Nat} {t:TypeId} {cs:Array Value} (h:Blk w g t cs):(Ob.blk g t cs).is w (fun k => k = g):=⟨h,fun _ => Iff.rfl⟩
theorem Ob.blk_put {w:World} {F:Nat → Prop} {g:Nat} {t:TypeId} {cs:Array Value} (h:(Ob.blk g t cs).is w F) (i:Nat) (u:Value) :
 (Ob.blk g t (cs.setIfInBounds i u)).is (w.setCell ⟨g,i,none⟩ u) F ∧ Mv F F w (w.setCell ⟨g,i,none⟩ u):=
 ⟨⟨h.1.put i u,h.2⟩,(Upd.refl _ _).set (.inl ((h.2 _).2 rfl)) _,fun _ h => .inl h⟩
end B
end
section
namespace Wp
def Key (c:Int):Prop:=0 ≤ c ∧ c ≤ 18446744073709551615
abbrev St:=List (Int × List Int)
def sr:St → Int → List Int
 | [],_ => []
 | e :: r,c => if e.1 = c then e.2 else sr r c
theorem sr_cons (e:Int × List Int) (r:St) (c:Int):sr (e :: r) c = if e.1 = c then e.2 else sr r c:=rfl
def cut4 (l:List Int):List Int:=l.drop (l.length - 4)
def rest (x:St) (c:Int):St:=x.filter fun e => decide (e.1 ≠ c)
def laid (x:St) (c s:Int):St:=rest x c ++ [(c,cut4 (sr x c ++ [s]))]
def cut64 (y:St):St:=if 64 < y.length then y.drop 1 else y
def addX (x:St) (c s:Int):Bool × St:=if s ∈ sr x c then (false,x) else (true,cut64 (laid x c s))
structure Ok (x:St):Prop where
 key:∀ e ∈ x,Key e.1
 nd:(x.map (·.1)).Nodup
 le:∀ e ∈ x,1 ≤ e.2.length ∧ e.2.length ≤ 4
 ser:∀ e ∈ x,∀ s ∈ e.2,Key s
 len:x.length ≤ 64
theorem Ok.nil:Ok []:=⟨fun e h => (by cases h),by simp,fun e h => (by cases h),fun e h => (by cases h),by simp⟩
theorem sr_mem {x:St} {c:Int}:sr x c = [] ∨ ∃ e ∈ x,e.1 = c ∧ e.2 = sr x c:=by
 induction x with
 | nil => exact .inl rfl
 | cons e r ih =>
  rw [sr_cons]
  by_cases h:e.1 = c
  · rw [if_pos h]
    exact .inr ⟨e,by simp,h,rfl⟩
  · rw [if_neg h]
    exact ih.imp id fun ⟨e',h1,h2⟩ => ⟨e',by simp [h1],h2⟩
theorem Ok.sr_le {x:St} (h:Ok x) (c:Int):(sr x c).length ≤ 4:=by
 rcases sr_mem (x:=x) (c:=c) with h1 | ⟨e,he,_,h2⟩
 · simp [h1]
 · rw [← h2]; exact (h.le e he).2
theorem Ok.sr_key {x:St} (h:Ok x) (c:Int):∀ s ∈ sr x c,Key s:=by
 rcases sr_mem (x:=x) (c:=c) with h1 | ⟨e,he,_,h2⟩
 · simp [h1]
 · rw [← h2]; exact h.ser e he
theorem sr_append (x y:St) (c:Int) (h:∀ e ∈ x,e.1 ≠ c):sr (x ++ y) c = sr y c:=by
 induction x with
 | nil => rfl
 | cons e r ih =>
  rw [List.cons_append]
  rw [sr_cons]
  rw [if_neg (h e (by simp))]
  exact ih fun e' he' => h e' (by simp [he'])
theorem sr_append_left (x y:St) (c:Int) (h:∀ e ∈ y,e.1 ≠ c):sr (x ++ y) c = sr x c:=by
 induction x with
 | nil =>
  rw [List.nil_append]
  have:=sr_append y [] c h
  simpa [sr] using this
 | cons e r ih =>
  rw [List.cons_append,sr_cons,sr_cons,ih]
theorem sr_none (x:St) (c:Int) (h:∀ e ∈ x,e.1 ≠ c):sr x c = []:=by
 have:=sr_append x [] c h
 simpa [sr] using this
theorem sr_rest (x:St) (c c':Int) (h:c' ≠ c):sr (rest x c) c' = sr x c':=by
 induction x with
 | nil => rfl
 | cons e r ih =>
  unfold rest
  rw [List.filter_cons]
  by_cases he:e.1 = c
  · rw [if_neg (by simpa using he)]
    rw [sr_cons]
    rw [if_neg (by rw [he]; exact Ne.symm h)]
    exact ih
  · rw [if_pos (by simpa using he)]
    simp only [sr_cons]
    rw [show r.filter (fun e => decide (e.1 ≠ c)) = rest r c from rfl,ih]
theorem rest_ne {x:St} {c:Int}:∀ e ∈ rest x c,e.1 ≠ c:=fun e he => by simpa using (List.mem_filter.1 he).2
theorem sr_laid (x:St) (c s c':Int):sr (laid x c s) c' = if c' = c then cut4 (sr x c ++ [s]) else sr x c':=by
 unfold laid
 split
 · rename_i h
   subst h
   rw [sr_append _ _ _ rest_ne]
   simp [sr]
 · rename_i h
   rw [sr_append_left _ _ _ (fun e he => by
    obtain rfl:=List.mem_singleton.1 he
    exact Ne.symm h),sr_rest x c c' h]
theorem sr_tail {e:Int × List Int} {r:St} (hn:((e :: r).map (·.1)).Nodup) (c:Int):sr r c = if c = e.1 then [] else sr (e :: r) c:=by
 simp only [List.map_cons,List.nodup_cons] at hn
 split
 · rename_i h
   subst h
   exact sr_none _ _ fun e' he' h => hn.1 (h ▸ List.mem_map_of_mem (f:=(·.1)) he')
 · rename_i h
   rw [sr_cons,if_neg (Ne.symm h)]
theorem cut4_len (l:List Int) (h:l ≠ []):1 ≤ (cut4 l).length ∧ (cut4 l).length ≤ 4:=by
 have:0 < l.length:=List.length_pos_iff.2 h
 simp [cut4]
 omega
theorem Ok.laid {x:St} (h:Ok x) {c s:Int} (hc:Key c) (hs:Key s):(∀ e ∈ laid x c s,Key e.1) ∧ ((laid x c s).map (·.1)).Nodup ∧ (∀ e ∈ laid x c s,1 ≤ e.2.length ∧ e.2.length ≤ 4) ∧ (∀ e ∈ laid x c s,∀ s ∈ e.2,Key s) ∧ (laid x c s).length ≤ 65:=by
 have hsub:∀ e ∈ rest x c,e ∈ x:=fun e he => (List.mem_filter.1 he).1
 refine ⟨fun e he => ?_,?_,fun e he => ?_,fun e he => ?_,?_⟩
 · rcases List.mem_append.1 he with he | he
   · exact h.key e (hsub e he)
   · obtain rfl:=List.mem_singleton.1 he
     exact hc
 · unfold Wp.laid
   rw [List.map_append]
   refine List.nodup_append.2 ⟨(h.nd.sublist ((List.filter_sublist (p:=fun e => decide (e.1 ≠ c)) (l:=x)).map _)),by simp,fun a ha b hb => ?_⟩
   obtain ⟨e,he,rfl⟩:=List.mem_map.1 ha
   obtain rfl:b = c:=by simpa using hb
   exact rest_ne e he
 · rcases List.mem_append.1 he with he | he
   · exact h.le e (hsub e he)
   · obtain rfl:=List.mem_singleton.1 he
     exact cut4_len _ (by simp)
 · rcases List.mem_append.1 he with he | he
   · exact h.ser e (hsub e he)
   · obtain rfl:=List.mem_singleton.1 he
     intro s' hs'
     rcases List.mem_append.1 (List.mem_of_mem_drop hs') with h' | h'
     · exact h.sr_key c s' h'
     · obtain rfl:=List.mem_singleton.1 h'
       exact hs
 · have h1:=List.length_filter_le (fun e:Int × List Int => decide (e.1 ≠ c)) x
   have h2:=h.len
   simp only [Wp.laid,rest,List.length_append,List.length_singleton]
   omega
theorem Ok.add {x:St} (h:Ok x) {c s:Int} (hc:Key c) (hs:Key s):Ok (addX x c s).2:=by
 unfold addX
 split
 · exact h
 · obtain ⟨h1,h2,h3,h4,h5⟩:=h.laid hc hs
   unfold cut64
   split
   · refine ⟨fun e he => h1 e (List.mem_of_mem_drop he),?_,fun e he => h3 e (List.mem_of_mem_drop he),fun e he => h4 e (List.mem_of_mem_drop he),by simp; omega⟩
     exact h2.sublist ((List.drop_sublist 1 _).map _)
   · exact ⟨h1,h2,h3,h4,by simp only; omega⟩
theorem laid_keys (x:St) (c s:Int):(laid x c s).map (·.1) = (x.map (·.1)).filter (fun k => !decide (k = c)) ++ [c]:=by
 simp only [laid,rest,List.map_append,List.map_cons,List.map_nil,List.filter_map]
 congr 2
 apply List.filter_congr
 intro e _
 simp
end Wp
end
section
namespace Ms
open Go.RowKit Go.Maps B
def vR (v:Value):Option (DataW Value × List MemPlace):=some (.held v,[])
def Ks (s:ByteArray):Prop:=s.size ≤ maxLen
def kl (s:ByteArray):Lit:=.string s.data.toList
theorem keyOf_str {P:Program} {kt:TypeId} (hk:P.underlying kt = some .string) {s:ByteArray} (hs:Ks s):keyOf P kt (.string s) = some (kl s):=by
 unfold Ks at hs
 have e:s.size = s.data.toList.length:=by rw [Array.length_toList]; rfl
 simp [keyOf,hk,mapKey,Lit.wf,kl]
 omega
theorem kl_ne {s s':ByteArray} (h:s' ≠ s):kl s' ≠ kl s:=fun h' => h (by
 unfold kl at h'
 injection h' with h'
 obtain ⟨⟨a⟩⟩:=s
 obtain ⟨⟨b⟩⟩:=s'
 simp only at h'
 rw [h'])
theorem isKeyLit (s:ByteArray):WideAt.IsKeyLit (kl s):=by simp [WideAt.IsKeyLit,kl]
def Ms (P:Program) (w:World) (kt:TypeId) (b n:Nat) (m:ByteArray → Option Value):Prop:=
 ∃ D,w.ownsMap P kt vR b n D ∧ ∀ s,Ks s → ∀ z,D.atKey (kl s) z = (match m s with | some v => .held v | none => z)
def put (m:ByteArray → Option Value) (s:ByteArray) (v:Option Value):ByteArray → Option Value:=fun s' => if s' = s then v else m s'
section
variable {P:Program} {w w':World} {kt t e:TypeId} {b n:Nat} {m:ByteArray → Option Value}
theorem Ms.made (P:Program) (w:World) (kt:TypeId):Ms P (w.alloc (.map #[] 0)) kt w.heap.size 0 fun _ => none:=
 ⟨_,World.ownsMap_made w P kt vR,fun s _ z => by simp [DataW.atKey]⟩
theorem Ms.lt (h:Ms P w kt b n m):b < w.heap.size:=by
 obtain ⟨D,h1,_⟩:=h
 exact h1.lt
theorem Ms.upd {F:Nat → Prop} (h:Ms P w kt b n m) (hu:Upd F w w') (hn:¬ F b):Ms P w' kt b n m:=by
 have hlt:=h.lt
 obtain ⟨D,⟨es,clock,hb,r⟩,h2⟩:=h
 exact ⟨D,⟨es,clock,(hu.block b hlt hn).trans hb,r⟩,h2⟩
theorem Ms.drew (h:Ms P w kt b n m):Ms P w.drew kt b n m:=h
theorem Ms.look (h:Ms P w kt b n m) (hk:P.underlying kt = some .string) (ht:P.underlying t = some (.map kt e)) {z:Value} (hz:(zeroValue e).run P w = .ok z w) {s:ByteArray} (hs:Ks s) :
 (Instr.lookup t (.map (some b)) (.string s) false).run P w = .ok ((m s).getD z) w:=by
 obtain ⟨D,h1,h2⟩:=h
 obtain ⟨v,ps,hr,hv⟩:=h1.lookup (string_keyed hk) ht hz (zd:=.held z) (zp:=[]) rfl (keyOf_str hk hs)
 rw [h2 s hs] at hv
 rw [hr]
 cases hm:m s with
 | none =>
  rw [hm] at hv
  simp only [vR,Option.some.injEq,Prod.mk.injEq,DataW.held.injEq] at hv
  rw [hv.1]; rfl
 | some u =>
  rw [hm] at hv
  simp only [vR,Option.some.injEq,Prod.mk.injEq,DataW.held.injEq] at hv
  rw [hv.1]; rfl
theorem Ms.look_ok (h:Ms P w kt b n m) (hk:P.underlying kt = some .string) (ht:P.underlying t = some (.map kt e)) {z:Value} (hz:(zeroValue e).run P w = .ok z w) {s:ByteArray} (hs:Ks s) :
 (Instr.lookup t (.map (some b)) (.string s) true).run P w = .ok (.tuple #[(m s).getD z,.bool (m s).isSome]) w:=by
 obtain ⟨D,h1,h2⟩:=h
 obtain ⟨v,ps,hr,hv⟩:=h1.look_ok (string_keyed hk) ht hz (zd:=.held z) (zp:=[]) rfl (keyOf_str hk hs)
 rw [h2 s hs] at hv
 rw [hr]
 cases hm:m s with
 | none =>
  rw [hm] at hv
  simp only [vR,Option.some.injEq,Prod.mk.injEq,DataW.held.injEq] at hv
  rw [hv.1,has_false_of_atKey fun z => by rw [h2 s hs,hm]]; rfl
 | some u =>
  rw [hm] at hv
  simp only [vR,Option.some.injEq,Prod.mk.injEq,DataW.held.injEq] at hv
  rw [hv.1,has_true_of_atKey (y:=.held u) fun z => by rw [h2 s hs,hm]]; rfl
theorem Ms.store (h:Ms P w kt b n m) (hk:P.underlying kt = some .string) (ht:P.underlying t = some (.map kt e)) (hn:n < maxLen) {s:ByteArray} (hs:Ks s) (v:Value) :
 ∃ w',(Instr.mapUpdate t (.map (some b)) (.string s) v).run P w = .ok () w' ∧ Ms P w' kt b (n + 1) (put m s (some v)) ∧ Upd (fun k => k = b) w w':=by
 obtain ⟨D,h1,h2⟩:=h
 obtain ⟨w',hr,ho,hg⟩:=h1.store (string_keyed hk) ht hn (keyOf_str hk hs) (val:=v) (d:=.held v) (ps:=[]) rfl
 refine ⟨w',hr,⟨_,ho,fun s' hs' z => ?_⟩,(Upd.refl _ _).grown hg.grown fun k hk => .inl (by injection hk with hk; exact hk.symm)⟩
 unfold put
 by_cases he:s' = s
 · subst he
   simp only [if_true]
   exact atKey_put_same h1.isMap (isKeyLit _) _ _
 · rw [atKey_put_other (kl_ne he)]
   simp only [if_neg he]
   exact h2 s' hs' z
theorem Ms.drop (h:Ms P w kt b n m) (hk:P.underlying kt = some .string) (ht:P.underlying t = some (.map kt e)) {s:ByteArray} (hs:Ks s) (ty:TypeId) :
 ∃ w',(Builtin.delete_ #[t,kt] ty #[.map (some b),.string s]).run P w = .ok (.tuple #[]) w' ∧ Ms P w' kt b n (put m s none) ∧ Upd (fun k => k = b) w w':=by
 obtain ⟨D,h1,h2⟩:=h
 obtain ⟨w',hr,ho,hg⟩:=h1.drop (string_keyed hk) ht (keyOf_str hk hs) ty
 refine ⟨w',hr,⟨_,ho,fun s' hs' z => ?_⟩,(Upd.refl _ _).grown hg.grown fun k hk => .inl (by injection hk with hk; exact hk.symm)⟩
 unfold put
 by_cases he:s' = s
 · subst he
   simp only [if_true]
   exact atKey_del_same _
 · rw [atKey_del_other (kl_ne he)]
   simp only [if_neg he]
   exact h2 s' hs' z
variable {ops:Array Oper} {o:Oper} {a:Act} {Q:Exit → Act → World → Prop} {K:Act → World → Prop}
theorem wp_store (mo x v:Operand) (t kt e:TypeId) (ho:o.op = Op.mapUpdate t mo x v) (hk:P.underlying kt = some .string) (ht:P.underlying t = some (.map kt e)) (b n:Nat) (m:ByteArray → Option Value) (s:ByteArray) (val:Value)
 (hm:a.eval mo = .map (some b)) (hx:a.eval x = .string s) (hv:a.eval v = val) (h:Ms P w kt b n m) (hn:n < maxLen) (hs:Ks s)
 (hK:∀ w',Ms P w' kt b (n + 1) (put m s (some val)) → Upd (fun k => k = b) w w' → K (a.put o.dst undef) w'):o.wp P a w K Q:=by
 obtain ⟨w',hr,h1,h2⟩:=h.store hk ht hn hs val
 unfold Oper.wp
 simp [execOp,ho,hm,hx,hv,hr,Result.andThen]
 exact hK w' h1 h2
theorem wp_drop (mo x:Operand) (t kt e:TypeId) (ho:o.op = Op.call { callee:=Callee.builtin Builtin.delete,args:=#[mo,x],argTypes:=#[t,kt] }) (hk:P.underlying kt = some .string) (ht:P.underlying t = some (.map kt e)) (b n:Nat) (m:ByteArray → Option Value) (s:ByteArray)
 (hm:a.eval mo = .map (some b)) (hx:a.eval x = .string s) (h:Ms P w kt b n m) (hs:Ks s)
 (hK:∀ w',Ms P w' kt b n (put m s none) → Upd (fun k => k = b) w w' → K (a.put o.dst (.tuple #[])) w'):o.wp P a w K Q:=by
 obtain ⟨w',hr,h1,h2⟩:=h.drop hk ht hs o.type
 unfold Oper.wp
 simp [execOp,ho,resolve,invoke,builtin,hm,hx,hr,Result.andThen]
 exact hK w' h1 h2
theorem ap_store {rest:List Oper} (hgd:o.guard = none) (mo x v:Operand) (t kt e:TypeId) (ho:o.op = Op.mapUpdate t mo x v) (hk:P.underlying kt = some .string) (ht:P.underlying t = some (.map kt e)) (b n:Nat) (m:ByteArray → Option Value) (s:ByteArray) (val:Value)
 (hm:a.eval mo = .map (some b)) (hx:a.eval x = .string s) (hv:a.eval v = val) (h:Ms P w kt b n m) (hn:n < maxLen) (hs:Ks s)
 (hK:∀ w',Ms P w' kt b (n + 1) (put m s (some val)) → Upd (fun k => k = b) w w' → wpList P ops Q rest (a.put o.dst undef) w'):wpList P ops Q (o :: rest) a w:=
 wpList_plain hgd fun _ hK' => wp_store mo x v t kt e ho hk ht b n m s val hm hx hv h hn hs fun w' h1 h2 => hK' _ _ (hK w' h1 h2)
end
end Ms
end
section
namespace Nd
open Go.RowKit B
structure Rm where
 actor:ByteArray
 name:ByteArray
 due:Int
 per:Int
 kind:Int
def rc (r:Rm):List Value:=[.string r.actor,.string r.name,.int .i64 r.due,.int .i64 r.per,.int .i64 r.kind]
def bl (x y:ByteArray):Bool:=Op.bytesLess x.toList y.toList
def be (x y:ByteArray):Bool:=x.toList == y.toList
theorem toList_data (x:ByteArray):x.toList = x.data.toList:=by
 obtain ⟨⟨l⟩⟩:=x
 exact ByteArray.toList_mk l
theorem be_iff (x y:ByteArray):be x y = true ↔ x = y:=by
 unfold be
 rw [beq_iff_eq]
 refine ⟨fun h => ?_,fun h => by rw [h]⟩
 rw [toList_data,toList_data] at h
 obtain ⟨⟨a⟩⟩:=x
 obtain ⟨⟨b⟩⟩:=y
 simp only at h
 rw [h]
theorem bl_irrefl_l:∀ x:List UInt8,Op.bytesLess x x = false
 | [] => rfl
 | a :: x => by
  show (decide (a < a) || (a == a && Op.bytesLess x x)) = false
  rw [bl_irrefl_l x]
  simp
theorem bl_trans_l:∀ x y z:List UInt8,Op.bytesLess x y = true → Op.bytesLess y z = true → Op.bytesLess x z = true
 | _,[],_,h,_ => by cases ‹List UInt8› <;> simp [Op.bytesLess] at h
 | _,_ :: _,[],_,h => by simp [Op.bytesLess] at h
 | [],_ :: _,_ :: _,_,_ => rfl
 | a :: x,b :: y,c :: z,h1,h2 => by
  have e1:(decide (a < b) || (a == b && Op.bytesLess x y)) = true:=h1
  have e2:(decide (b < c) || (b == c && Op.bytesLess y z)) = true:=h2
  show (decide (a < c) || (a == c && Op.bytesLess x z)) = true
  simp only [Bool.or_eq_true,Bool.and_eq_true,decide_eq_true_eq,beq_iff_eq] at e1 e2 ⊢
  rcases e1 with e1 | ⟨e1,e1'⟩
  · rcases e2 with e2 | ⟨e2,e2'⟩
    · exact .inl (UInt8.lt_trans e1 e2)
    · exact .inl (e2 ▸ e1)
  · rcases e2 with e2 | ⟨e2,e2'⟩
    · exact .inl (e1 ▸ e2)
    · exact .inr ⟨e1.trans e2,bl_trans_l x y z e1' e2'⟩
theorem cb_lt:∀ x y:List UInt8,(Lib.compareBytes x y < 0 ↔ Op.bytesLess x y = true) ∧ (Lib.compareBytes x y = 0 ↔ x = y)
 | [],[] => by simp [Lib.compareBytes,Op.bytesLess]
 | [],_ :: _ => by simp [Lib.compareBytes,Op.bytesLess]
 | _ :: _,[] => by simp [Lib.compareBytes,Op.bytesLess]
 | a :: x,b :: y => by
  have ih:=cb_lt x y
  have e:Op.bytesLess (a :: x) (b :: y) = (decide (a < b) || (a == b && Op.bytesLess x y)):=rfl
  rw [e]
  unfold Lib.compareBytes
  by_cases h1:a < b
  · have hne:a ≠ b:=UInt8.ne_of_lt h1
    simp [h1,hne]
  · by_cases h2:b < a
    · have hne:a ≠ b:=(UInt8.ne_of_lt h2).symm
      simp [h1,h2,hne]
    · have hab:a = b:=UInt8.le_antisymm (UInt8.not_lt.1 h2) (UInt8.not_lt.1 h1)
      subst hab
      simp only [h1,if_false,ih.1,ih.2,decide_false,Bool.false_or,beq_self_eq_true,Bool.true_and,List.cons.injEq,true_and,and_self]
theorem bl_irrefl (x:ByteArray):bl x x = false:=bl_irrefl_l _
theorem bl_trans {x y z:ByteArray} (h1:bl x y = true) (h2:bl y z = true):bl x z = true:=bl_trans_l _ _ _ h1 h2
theorem cb_swap:∀ x y:List UInt8,Lib.compareBytes x y = - Lib.compareBytes y x
 | [],[] => rfl
 | [],_ :: _ => rfl
 | _ :: _,[] => rfl
 | a :: x,b :: y => by
  have ih:=cb_swap x y
  unfold Lib.compareBytes
  by_cases h1:a < b
  · have h2:¬ b < a:=fun h => UInt8.lt_irrefl a (UInt8.lt_trans h1 h)
    simp [h1,h2]
  · by_cases h2:b < a
    · simp [h1,h2]
    · simp [h1,h2,ih]
theorem bl_total (x y:ByteArray):bl x y = true ∨ x = y ∨ bl y x = true:=by
 have h1:=cb_lt x.toList y.toList
 have h2:=cb_lt y.toList x.toList
 have h3:=cb_swap x.toList y.toList
 rcases Int.lt_trichotomy (Lib.compareBytes x.toList y.toList) 0 with h | h | h
 · exact .inl (h1.1.1 h)
 · exact .inr (.inl ((be_iff x y).1 (beq_iff_eq.2 (h1.2.1 h))))
 · exact .inr (.inr (h2.1.1 (by omega)))
def less (a b:Rm):Bool:=if a.due ≠ b.due then decide (a.due < b.due) else if be a.actor b.actor = false then bl a.actor b.actor else bl a.name b.name
def ke (a n:ByteArray) (r:Rm):Bool:=be r.actor a && be r.name n
theorem be_false {x y:ByteArray}:be x y = false ↔ x ≠ y:=by
 rw [← Bool.not_eq_true,be_iff]
theorem less_iff {a b:Rm}:less a b = true ↔ a.due < b.due ∨ (a.due = b.due ∧ (bl a.actor b.actor = true ∨ (a.actor = b.actor ∧ bl a.name b.name = true))):=by
 unfold less
 by_cases h1:a.due = b.due
 · rw [if_neg (by simpa using h1)]
   by_cases h2:a.actor = b.actor
   · rw [if_neg (by rw [be_false]; simpa using h2),h2,bl_irrefl]
     simp [h1]
   · rw [if_pos (be_false.2 h2)]
     simp [h1,h2]
 · rw [if_pos h1,decide_eq_true_iff]
   simp [h1]
theorem less_trans {a b c:Rm} (h1:less a b = true) (h2:less b c = true):less a c = true:=by
 rw [less_iff] at h1 h2 ⊢
 rcases h1 with h1 | ⟨h1,h1'⟩
 · rcases h2 with h2 | ⟨h2,_⟩
   · exact .inl (by omega)
   · exact .inl (by omega)
 · rcases h2 with h2 | ⟨h2,h2'⟩
   · exact .inl (by omega)
   · refine .inr ⟨by omega,?_⟩
     rcases h1' with h1' | ⟨e1,h1'⟩
     · rcases h2' with h2' | ⟨e2,h2'⟩
       · exact .inl (bl_trans h1' h2')
       · exact .inl (e2 ▸ h1')
     · rcases h2' with h2' | ⟨e2,h2'⟩
       · exact .inl (e1 ▸ h2')
       · exact .inr ⟨e1.trans e2,bl_trans h1' h2'⟩
def has (a n:ByteArray) (l:List Rm):Bool:=l.any (ke a n)
def ins (l:List Rm) (r:Rm):List Rm:=l.takeWhile (fun x => less x r) ++ r :: l.dropWhile (fun x => less x r)
def I64 (n:Int):Prop:=-9223372036854775808 ≤ n ∧ n ≤ 9223372036854775807
def keyB (s:ByteArray):Bool:=decide (1 ≤ s.size ∧ s.size ≤ 40)
def wrongR (r:Rm):Int:=if keyB r.actor = false ∨ 40 < r.name.size then 1 else if r.due < 0 ∨ r.per < 1 then 3 else 0
structure Okr (r:Rm):Prop where
 w:wrongR r = 0
 d:I64 r.due
 p:I64 r.per
 k:I64 r.kind
structure Inv (l:List Rm):Prop where
 srt:l.Pairwise fun a b => less a b = true
 unq:l.Pairwise fun a b => ke b.actor b.name a = false
 len:l.length ≤ 64
 ok:∀ r ∈ l,Okr r
theorem Okr.r {r:Rm} (h:Okr r):0 ≤ r.due ∧ 1 ≤ r.per ∧ 1 ≤ r.actor.size ∧ r.actor.size ≤ 40 ∧ r.name.size ≤ 40:=by
 have h1:=h.w
 unfold wrongR at h1
 split at h1
 · cases h1
 · rename_i h2
   split at h1
   · cases h1
   · rename_i h3
     have h4:¬ keyB r.actor = false:=fun h => h2 (.inl h)
     have h5:keyB r.actor = true:=by simpa using h4
     unfold keyB at h5
     have h6:=of_decide_eq_true h5
     omega
theorem take_of {l:List Rm} {r:Rm} {k:Nat} (hk:k ≤ l.length) (h1:∀ i (hi:i < l.length),i < k → less l[i] r = true) (h2:∀ i (hi:i < l.length),k ≤ i → less l[i] r = false) :
 l.takeWhile (fun x => less x r) = l.take k ∧ l.dropWhile (fun x => less x r) = l.drop k:=by
 induction l generalizing k with
 | nil => simp
 | cons a t ih =>
  rw [List.takeWhile_cons,List.dropWhile_cons]
  cases k with
  | zero =>
   have h:=h2 0 (by simp) (Nat.le_refl _)
   simp only [List.getElem_cons_zero] at h
   rw [if_neg (by rw [h]; simp),if_neg (by rw [h]; simp)]
   exact ⟨rfl,rfl⟩
  | succ k =>
   have h:=h1 0 (by simp) (by omega)
   simp only [List.getElem_cons_zero] at h
   obtain ⟨i1,i2⟩:=ih (k:=k) (by simpa using hk) (fun i hi hik => h1 (i + 1) (by simpa using hi) (by omega)) (fun i hi hik => h2 (i + 1) (by simpa using hi) (by omega))
   rw [if_pos h,if_pos h,i1,i2]
   exact ⟨rfl,rfl⟩
theorem ins_at {l:List Rm} {r:Rm} {k:Nat} (hk:k ≤ l.length) (h1:∀ i (hi:i < l.length),i < k → less l[i] r = true) (h2:∀ i (hi:i < l.length),k ≤ i → less l[i] r = false):ins l r = l.take k ++ r :: l.drop k:=by
 obtain ⟨e1,e2⟩:=take_of hk h1 h2
 unfold ins
 rw [e1,e2]
theorem mono {l:List Rm} (h:l.Pairwise fun a b => less a b = true) {r:Rm} {i j:Nat} (hij:i ≤ j) (hj:j < l.length) (hl:less l[j] r = true):less (l[i]'(by omega)) r = true:=by
 rcases Nat.lt_or_ge i j with h1 | h1
 · exact less_trans (List.pairwise_iff_getElem.1 h i j (by omega) hj h1) hl
 · obtain rfl:i = j:=by omega
   exact hl
end Nd
end
