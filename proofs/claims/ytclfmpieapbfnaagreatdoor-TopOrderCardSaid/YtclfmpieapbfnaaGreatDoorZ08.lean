/- Part 08: lemmas, no conditions. -/
import Derived.Test.YtclfmpieapbfnaaGreatDoorZ07
import Derived.ArgAppend
import Derived.Maps.OwnSet
namespace Go.Proofs.YtclfmpieapbfnaaGreatDoor
set_option linter.unusedVariables false
set_option linter.unusedSimpArgs false
section
namespace B
open Go.RowKit Go.Lib
theorem add_off (g o j:Nat):(⟨g,o,none⟩:Addr).add j = ⟨g,o + j,none⟩:=by
 unfold Addr.add
 by_cases h:j = 0
 · subst h; simp
 · simp [h]
theorem add_field (ad:Addr) (m k:Nat) (hk:0 < k):ad.add (m + k) = ⟨(ad.add m).block,(ad.add m).off + k,none⟩:=by
 unfold Addr.add
 by_cases hm:m = 0
 · subst hm; simp; omega
 · simp [hm]; omega
theorem Blk.puts {g:Nat} {t:TypeId}:∀ (vs:List Value) (o:Nat) (w:World) (cs:Array Value),Blk w g t cs → o + vs.length ≤ cs.size →
 ∃ cs',Blk (w.setCells g o vs) g t cs' ∧ cs'.size = cs.size ∧ (∀ k,(k < o ∨ o + vs.length ≤ k) → cs'[k]? = cs[k]?) ∧ ∀ j (hj:j < vs.length),cs'[o + j]? = some vs[j]
 | [],o,w,cs,h,_ => ⟨cs,h,rfl,fun _ _ => rfl,fun j hj => absurd hj (by simp)⟩
 | v :: r,o,w,cs,h,hl => by
  simp only [List.length_cons] at hl
  obtain ⟨cs',h1,h2,h3,h4⟩:=Blk.puts r (o + 1) _ _ (h.put o v) (by simp; omega)
  refine ⟨cs',h1,by simpa using h2,fun k hk => ?_,fun j hj => ?_⟩
  · simp only [List.length_cons] at hk
    rw [h3 k (by omega),Array.getElem?_setIfInBounds,if_neg (by omega)]
  · match j,hj with
    | 0,_ =>
     rw [Nat.add_zero,h3 o (by omega),Array.getElem?_setIfInBounds,if_pos rfl,if_pos (by omega)]
     rfl
    | j + 1,hj =>
     have:=h4 j (by simpa using hj)
     rw [show o + (j + 1) = o + 1 + j from by omega,this]
     rfl
theorem Upd.puts {F:Nat → Prop} {g:Nat}:∀ (vs:List Value) (o:Nat) {a w:World},Upd F a w → (F g ∨ a.heap.size ≤ g) → Upd F a (w.setCells g o vs)
 | [],_,_,_,h,_ => h
 | v :: r,o,_,_,h,hg => Upd.puts r (o + 1) (h.set (p:=⟨g,o,none⟩) hg v) hg
def Sl (w:World) (base e size:Nat) (v:Value) (n:Nat) (xs:List Value):Prop:=
 xs.length = n * size ∧ ((v = .slice none 0 0 ∧ n = 0) ∨ ∃ g off cap cur,v = .slice (some ⟨g,off,none⟩) n cap ∧ base ≤ g ∧ Blk w g e cur ∧ n ≤ cap ∧ cap ≤ maxLen ∧ off + cap * size ≤ cur.size ∧ ∀ j u,xs[j]? = some u → cur[off + j]? = some u)
section
variable {w w':World} {base e size n:Nat} {v:Value} {xs:List Value}
theorem Sl.of_own (h:w.ownsRow base e size v n xs):Sl w base e size v n xs:=by
 refine ⟨h.1,?_⟩
 rcases h.2 with h2 | ⟨g,cap,cur,rfl,hb,hh,h1,h2,h3,h4⟩
 · exact .inl h2
 · refine .inr ⟨g,0,cap,cur,rfl,hb,hh,h1,h2,by omega,fun j u hj => ?_⟩
   rw [Nat.zero_add]
   rw [← h4,List.getElem?_take] at hj
   split at hj
   · simpa using hj
   · cases hj
theorem Sl.nil (w:World) (base e size:Nat):Sl w base e size (.slice none 0 0) 0 []:=⟨by simp,.inl ⟨rfl,rfl⟩⟩
theorem Sl.keep (h:Sl w base e size v n xs) (hk:∀ g,v.ownBlock = some g → w'.heap[g]? = w.heap[g]?):Sl w' base e size v n xs:=by
 refine ⟨h.1,?_⟩
 rcases h.2 with h2 | ⟨g,off,cap,cur,rfl,hb,hh,r⟩
 · exact .inl h2
 · exact .inr ⟨g,off,cap,cur,rfl,hb,hh.keep (hk g rfl),r⟩
theorem Sl.lt (h:Sl w base e size v n xs):∀ k,v.ownBlock = some k → base ≤ k ∧ k < w.heap.size:=by
 rcases h.2 with ⟨rfl,_⟩ | ⟨g,off,cap,cur,rfl,hb,hh,r⟩
 · intro k hk
   simp [Value.ownBlock] at hk
 · intro k hk
   have:g = k:=by simpa [Value.ownBlock] using hk
   subst this
   exact ⟨hb,hh.lt⟩
theorem Sl.upd {F:Nat → Prop} (h:Sl w base e size v n xs) (hu:Upd F w w') (hn:∀ g,v.ownBlock = some g → ¬ F g):Sl w' base e size v n xs:=
 h.keep fun g hg => hu.block g (h.lt g hg).2 (hn g hg)
theorem Sl.drew (h:Sl w base e size v n xs):Sl w.drew base e size v n xs:=h
theorem Sl.alloc (h:Sl w base e size v n xs) (o:Obj):Sl (w.alloc o) base e size v n xs:=h.upd ((Upd.refl No w).alloc o) fun _ _ => no_ _
theorem Sl.blk (h:Sl w base e size v n xs) {k:Nat} (hk:v.ownBlock = some k):∃ cs,Blk w k e cs:=by
 rcases h.2 with ⟨rfl,_⟩ | ⟨g,off,cap,cur,rfl,hb,hh,r⟩
 · simp [Value.ownBlock] at hk
 · have:g = k:=by simpa [Value.ownBlock] using hk
   subst this
   exact ⟨_,hh⟩
theorem Sl.ne {g:Nat} {t:TypeId} {cs:Array Value} (h:Sl w base e size v n xs) (hg:Blk w g t cs) (hne:e ≠ t):v.ownBlock ≠ some g:=by
 intro he
 obtain ⟨c,hb⟩:=h.blk he
 exact Blk.ne_type hb hg hne rfl
theorem Sl.shape (h:Sl w base e size v n xs):∃ A c,v = .slice A n c ∧ n ≤ c ∧ c ≤ maxLen:=by
 rcases h.2 with ⟨rfl,rfl⟩ | ⟨g,off,cap,cur,rfl,_,_,h1,h2,_⟩
 · exact ⟨none,0,rfl,Nat.le_refl _,Nat.zero_le _⟩
 · exact ⟨_,cap,rfl,h1,h2⟩
theorem Sl.base_ {b:Nat} (h:Sl w base e size v n xs) (hb:b ≤ base):Sl w b e size v n xs:=by
 refine ⟨h.1,?_⟩
 rcases h.2 with h2 | ⟨g,off,cap,cur,rfl,hg,r⟩
 · exact .inl h2
 · exact .inr ⟨g,off,cap,cur,rfl,by omega,r⟩
theorem Sl.rd {A:Option Addr} {c:Nat} (h:Sl w base e size (.slice A n c) n xs):Rd w size A n xs:=by
 refine ⟨h.1,fun hn => ?_⟩
 rcases h.2 with ⟨h1,rfl⟩ | ⟨g,off,cap,cur,hv,_,hh,_,_,_,hc⟩
 · omega
 · simp only [Value.slice.injEq,true_and] at hv
   obtain ⟨rfl,rfl⟩:=hv
   refine ⟨_,rfl,fun j u hj => ?_⟩
   rw [add_off,hh.cell]
   exact hc j u hj
theorem Sl.drop {A:Option Addr} {c m:Nat} (h:Sl w base e size (.slice A n c) n xs) (hm:m ≤ n):Sl w base e size (.slice (if c = m then A else A.map (·.add (m * size))) (n - m) (c - m)) (n - m) (xs.drop (m * size)):=by
 refine ⟨by rw [List.length_drop,h.1,Nat.sub_mul],?_⟩
 rcases h.2 with ⟨h1,rfl⟩ | ⟨g,off,cap,cur,hv,hb,hh,h1,h2,h3,hc⟩
 · simp only [Value.slice.injEq] at h1
   obtain ⟨rfl,_,rfl⟩:=h1
   obtain rfl:m = 0:=by omega
   exact .inl ⟨by simp,rfl⟩
 · simp only [Value.slice.injEq,true_and] at hv
   obtain ⟨rfl,rfl⟩:=hv
   by_cases hcm:c = m
   · subst hcm
     obtain rfl:n = c:=by omega
     rw [if_pos rfl]
     refine .inr ⟨g,off,_,cur,rfl,hb,hh,by omega,by omega,by rw [Nat.sub_self,Nat.zero_mul]; omega,fun j u hj => ?_⟩
     rw [List.drop_of_length_le (by rw [h.1]; exact Nat.le_refl _)] at hj
     simp at hj
   · rw [if_neg hcm]
     refine .inr ⟨g,off + m * size,c - m,cur,by simp [add_off],hb,hh,by omega,by omega,?_,fun j u hj => ?_⟩
     · have:m * size + (c - m) * size = c * size:=by rw [← Nat.add_mul]; congr 1; omega
       omega
     · rw [List.getElem?_drop] at hj
       rw [Nat.add_assoc]
       exact hc _ u hj
end
section
variable {P:Program} {ops:Array Oper} {rest:List Oper} {o:Oper} {a:Act} {Q:Exit → Act → World → Prop}
theorem run_ap_sl {W:World} (base t ty e:Nat) (z:Value) (size bytes:Nat)
 (ht:P.underlying t = some (.slice e)) (hinfo:(P.info? e).map (fun i => (i.zero,i.size,i.bytes)) = some (some z,size,bytes)) (hz:z.cells.size = size) (hs0:0 < size)
 (v:Value) (n:Nat) (xs:List Value) (HO:Sl W base e size v n xs) (A:Option Addr) (m c:Nat) (ys:List Value) (HR:Rd W size A m ys) (h1:∀ u ∈ ys,u.oneCell' = true)
 (h63:n + m ≤ 9223372036854775807) (hl:(n + m) * bytes ≤ 140737488355328) (hbase:base ≤ W.heap.size) :
 ∃ A1 c1 w1,(Builtin.append_ #[t,t] ty #[v,.slice A m c]).run P W = .ok (.slice A1 (n + m) c1) w1 ∧ Sl w1 base e size (.slice A1 (n + m) c1) (n + m) (xs ++ ys) ∧ Upd (fun k => v.ownBlock = some k) W w1 ∧ (∀ g,(Value.slice A1 (n + m) c1).ownBlock = some g → v.ownBlock = some g ∨ W.heap.size ≤ g):=by
 rcases HO.2 with ⟨rfl,rfl⟩ | ⟨g,off,cap,cur,rfl,hb,hh,h2,h3,h4,hc⟩
 · have hxs:xs = []:=List.eq_nil_of_length_eq_zero (by simpa using HO.1)
   subst hxs
   obtain ⟨v1,w1,hr,ho,hg,hat⟩:=run_ap_row (P:=P) base t ty e z size bytes ht hinfo hz hs0 (.slice none 0 0) 0 [] (World.ownsRow_nil _ _ _ _) A m c ys HR h1 h63 hl hbase
   obtain ⟨A1,c1,rfl,_,_⟩:=own_shape ho
   refine ⟨A1,c1,w1,hr,Sl.of_own ho,((Upd.refl _ W).grown hg fun k hk => .inl hk),fun g hgg => ?_⟩
   rcases hat with h | h
   · rw [h] at hgg
     exact .inl hgg
   · rw [h] at hgg
     injection hgg with hgg
     exact .inr (by omega)
 · obtain ⟨i0,hi,hzz⟩:=Option.map_eq_some_iff.1 hinfo
   simp only [Prod.mk.injEq] at hzz
   obtain ⟨hz0,hz1,hz2⟩:=hzz
   rcases A with _ | ad
   · have hm:m = 0:=by
      rcases Nat.eq_zero_or_pos m with h0 | h0
      · exact h0
      · obtain ⟨ad,h,_⟩:=HR.2 h0
        cases h
     subst hm
     have hn:ys = []:=List.eq_nil_of_length_eq_zero (by simpa using HR.1)
     subst hn
     refine ⟨_,cap,W,?_,by simpa using HO,Upd.refl _ _,fun g' h => .inl h⟩
     simp [Builtin.append_,run_underlying ht,sizeOf,typeInfo,hi,Builtin.lenOf,Builtin.firstCells,h2,storeCells]
   · have hcells:∀ j u,ys[j]? = some u → W.cell? (ad.add j) = some u:=by
      intro j u hu
      rcases Nat.eq_zero_or_pos m with h0 | h0
      · subst h0
        have hn:ys = []:=List.eq_nil_of_length_eq_zero (by simpa using HR.1)
        subst hn
        simp at hu
      · obtain ⟨ad',h,hc⟩:=HR.2 h0
        injection h with h
        subst h
        exact hc j u hu
     by_cases hroom:n + m ≤ cap
     · subst hz1
       have hmul:n * i0.size + m * i0.size ≤ cap * i0.size:=by rw [← Nat.add_mul]; exact Nat.mul_le_mul_right _ hroom
       have hlen:=HR.1
       have hr:=run_append_room_cells (P:=P) W t ty e i0 ht hi g off n cap ad m c ys hlen hcells h1 hroom
        (fun j hj => by rw [hh.cell,Array.getElem?_eq_getElem (by omega)]; rfl) (fun j hj => hh.free _)
       obtain ⟨cs',hb',hsz,hout,hin⟩:=hh.puts ys (off + n * i0.size) W cur (by omega)
       refine ⟨_,cap,_,hr,⟨by rw [List.length_append,HO.1,hlen,Nat.add_mul],.inr ⟨g,off,cap,cs',rfl,hb,hb',by omega,h3,by omega,fun j u hj => ?_⟩⟩,(Upd.refl _ _).puts ys _ (.inl rfl),fun g' h => .inl h⟩
       rw [List.getElem?_append] at hj
       split at hj
       · rename_i hlt
         rw [HO.1] at hlt
         rw [hout _ (.inl (by omega))]
         exact hc j u hj
       · rename_i hlt
         rw [HO.1] at hlt hj
         have hjl:j - n * i0.size < ys.length:=(List.getElem?_eq_some_iff.1 hj).1
         have:=hin _ hjl
         rw [show off + n * i0.size + (j - n * i0.size) = off + j from by omega] at this
         rw [this,← hj,List.getElem?_eq_getElem hjl]
     · obtain ⟨v1,w1,hr,ho,hg⟩:=run_append_arg_grows (P:=P) W t ty e i0 z size bytes ht hi hz0 hz1 hz2 hz hs0 ⟨g,off,none⟩ n cap xs HO.1 (fun j u hj => by rw [add_off,hh.cell]; exact hc j u hj) ad m c ys HR.1 hcells (by omega) (by simp only [maxLen]; omega) hl
       obtain ⟨A1,c1,rfl,_,_⟩:=own_shape ho
       exact ⟨A1,c1,w1,hr,Sl.of_own (own_base ho hbase),(Upd.refl _ W).grown hg (fun k hk => by cases hk),fun g' h => .inr ((ho.lt g' h).1)⟩
theorem wp_ap_sl {W:World} {K:Act → World → Prop} (base:Nat) (s x:Operand) (t e:TypeId) (z:Value) (size bytes:Nat)
 (ho:o.op = .call { callee:=.builtin .append,args:=#[s,x],argTypes:=#[t,t] })
 (ht:P.underlying t = some (.slice e)) (hinfo:(P.info? e).map (fun i => (i.zero,i.size,i.bytes)) = some (some z,size,bytes)) (hz:z.cells.size = size) (hs0:0 < size)
 (v:Value) (n:Nat) (xs:List Value) (A:Option Addr) (m c:Nat) (ys:List Value) (hs:a.eval s = v) (hx:a.eval x = .slice A m c)
 (HO:Sl W base e size v n xs) (HR:Rd W size A m ys) (h1:∀ u ∈ ys,u.oneCell' = true) (h63:n + m ≤ 9223372036854775807) (hl:(n + m) * bytes ≤ 140737488355328) (hbase:base ≤ W.heap.size)
 (h:∀ A1 c1 w1,Sl w1 base e size (.slice A1 (n + m) c1) (n + m) (xs ++ ys) → Upd (fun k => v.ownBlock = some k) W w1 → (∀ g,(Value.slice A1 (n + m) c1).ownBlock = some g → v.ownBlock = some g ∨ W.heap.size ≤ g) → K (a.put o.dst (.slice A1 (n + m) c1)) w1) :
 o.wp P a W K Q:=by
 obtain ⟨A1,c1,w1,hr,hown,hg,hat⟩:=run_ap_sl (P:=P) base t o.type e z size bytes ht hinfo hz hs0 v n xs HO A m c ys HR h1 h63 hl hbase
 unfold Oper.wp execOp
 simp only [ho,resolve,invoke,builtin,Sem.run_bind,Sem.run_pure,Result.andThen_ok,List.map_toArray,List.map_cons,List.map_nil,hs,hx,hr]
 exact h A1 c1 w1 hown hg hat
theorem ap_sl {W:World} (base:Nat) (hgd:o.guard = none) (s x:Operand) (t e:TypeId) (z:Value) (size bytes:Nat)
 (ho:o.op = .call { callee:=.builtin .append,args:=#[s,x],argTypes:=#[t,t] })
 (ht:P.underlying t = some (.slice e)) (hinfo:(P.info? e).map (fun i => (i.zero,i.size,i.bytes)) = some (some z,size,bytes)) (hz:z.cells.size = size) (hs0:0 < size)
 (v:Value) (n:Nat) (xs:List Value) (A:Option Addr) (m c:Nat) (ys:List Value) (hs:a.eval s = v) (hx:a.eval x = .slice A m c)
 (HO:Sl W base e size v n xs) (HR:Rd W size A m ys) (h1:∀ u ∈ ys,u.oneCell' = true) (h63:n + m ≤ 9223372036854775807) (hl:(n + m) * bytes ≤ 140737488355328) (hbase:base ≤ W.heap.size)
 (h:∀ A1 c1 w1,Sl w1 base e size (.slice A1 (n + m) c1) (n + m) (xs ++ ys) → Upd (fun k => v.ownBlock = some k) W w1 → (∀ g,(Value.slice A1 (n + m) c1).ownBlock = some g → v.ownBlock = some g ∨ W.heap.size ≤ g) → wpList P ops Q rest (a.put o.dst (.slice A1 (n + m) c1)) w1) :
 wpList P ops Q (o :: rest) a W:=
 wpList_plain hgd fun _ hK => wp_ap_sl base s x t e z size bytes ho ht hinfo hz hs0 v n xs A m c ys hs hx HO HR h1 h63 hl hbase fun A1 c1 w1 h2 h3 h4 => hK _ _ (h A1 c1 w1 h2 h3 h4)
theorem cut_tail (t e:TypeId) (kl:IntKind) (s:Nat) (ht:P.underlying t = some (.slice e)) (hi:(P.info? e).map (·.size) = some s) (A:Option Addr) (n c m:Nat) (mi:Int) (hmi:mi = (m:Int)) (hm:m ≤ n) :
 ∃ A':Option Addr,A' = (if c = m then A else A.map (·.add (m * s))) ∧ (∀ W:World,(Instr.slice t (.slice A n c) (some (.int kl mi)) none none).run P W = .ok (.slice A' (n - m) (c - m)) W):=by
 subst hmi
 refine ⟨_,rfl,fun W => ?_⟩
 obtain ⟨i,hi1,hi2⟩:=Option.map_eq_some_iff.1 hi
 have hel:P.elem t = e:=by simp [Program.elem,ht]
 have hu:P.underlying t = some (.slice (P.elem t)):=by rw [hel]; exact ht
 rw [run_slice_l W t A n c hu kl (m:Int) (Int.natCast_nonneg _) (by omega),hel]
 simp [sizeOf,typeInfo,hi1,hi2,sliced,Result.andThen]
end
theorem Rd_lit (w:World) (t:TypeId) (size n:Nat) (xs:List Value) (h:xs.length = n * size):Rd (w.alloc (.cells xs.toArray t)) size (some ⟨w.heap.size,0,none⟩) n xs:=by
 refine ⟨h,fun _ => ⟨_,rfl,fun j u hu => ?_⟩⟩
 rw [add_plain,cell_of_row _ _ _ _ t (0,0) (heap_alloc_new w _)]
 simpa using hu
end B
end
section
namespace Mp
open Go.RowKit Go.Maps B
def vR (v:Value):Option (DataW Value × List MemPlace):=some (.held v,[])
def nl:Value:=.slice none 0 0
def Key (c:Int):Prop:=0 ≤ c ∧ c ≤ 18446744073709551615
theorem Key.wf {c:Int} (h:Key c):(Lit.int .u64 c).wf = true:=by
 have:=h.1
 have:=h.2
 simp [Lit.wf,IntKind.min,IntKind.max,IntKind.signed,IntKind.bits]
 omega
def Mp (P:Program) (w:World) (kt:TypeId) (b n:Nat) (m:Int → Value):Prop:=
 ∃ D,w.ownsMap P kt vR b n D ∧ ∀ c,Key c → D.atKey (.int .u64 c) (.held nl) = .held (m c)
def put (m:Int → Value) (c:Int) (v:Value):Int → Value:=fun c' => if c' = c then v else m c'
section
variable {P:Program} {w w':World} {kt t e:TypeId} {b n:Nat} {m:Int → Value}
theorem Mp.made (P:Program) (w:World) (kt:TypeId):Mp P (w.alloc (.map #[] 0)) kt w.heap.size 0 fun _ => nl:=
 ⟨_,World.ownsMap_made w P kt vR,fun c _ => by simp [DataW.atKey]⟩
theorem Mp.lt (h:Mp P w kt b n m):b < w.heap.size:=by
 obtain ⟨D,h1,_⟩:=h
 exact h1.lt
theorem Mp.upd {F:Nat → Prop} (h:Mp P w kt b n m) (hu:Upd F w w') (hn:¬ F b):Mp P w' kt b n m:=by
 have hlt:=h.lt
 obtain ⟨D,⟨es,clock,hb,r⟩,h2⟩:=h
 exact ⟨D,⟨es,clock,(hu.block b hlt hn).trans hb,r⟩,h2⟩
theorem Mp.drew (h:Mp P w kt b n m):Mp P w.drew kt b n m:=h
theorem Mp.mono (h:Mp P w kt b n m) {n':Nat} (hn:n ≤ n'):Mp P w kt b n' m:=by
 obtain ⟨D,h1,h2⟩:=h
 exact ⟨D,h1.mono hn,h2⟩
theorem Mp.look (h:Mp P w kt b n m) (hk:P.underlying kt = some (.int .u64)) (ht:P.underlying t = some (.map kt e)) (hz:∀ w,(zeroValue e).run P w = .ok nl w) {c:Int} (hc:Key c) :
 (Instr.lookup t (.map (some b)) (.int .u64 c) false).run P w = .ok (m c) w:=by
 obtain ⟨D,h1,h2⟩:=h
 obtain ⟨v,ps,hr,hv⟩:=h1.lookup (int_keyed hk) ht (hz w) (zd:=.held nl) (zp:=[]) rfl (keyOf_int_mk hk hc.wf)
 rw [h2 c hc] at hv
 simp only [vR,Option.some.injEq,Prod.mk.injEq,DataW.held.injEq] at hv
 rw [hr,hv.1]
theorem look_none (hk:P.underlying kt = some (.int .u64)) (ht:P.underlying t = some (.map kt e)) (hz:∀ w,(zeroValue e).run P w = .ok nl w) {c:Int} (hc:Key c) (w:World) :
 (Instr.lookup t (.map none) (.int .u64 c) false).run P w = .ok nl w:=
 Maps.look_nil false (int_keyed hk) ht (hz w) (keyOf_int_mk hk hc.wf)
theorem int_ne {c c':Int} (h:c' ≠ c):Lit.int .u64 c' ≠ Lit.int .u64 c:=fun h' => h (by injection h')
theorem isKeyLit (c:Int):WideAt.IsKeyLit (Lit.int .u64 c):=by simp [WideAt.IsKeyLit]
theorem Mp.store (h:Mp P w kt b n m) (hk:P.underlying kt = some (.int .u64)) (ht:P.underlying t = some (.map kt e)) (hn:n < maxLen) {c:Int} (hc:Key c) (v:Value) :
 ∃ w',(Instr.mapUpdate t (.map (some b)) (.int .u64 c) v).run P w = .ok () w' ∧ Mp P w' kt b (n + 1) (put m c v) ∧ Upd (fun k => k = b) w w':=by
 obtain ⟨D,h1,h2⟩:=h
 obtain ⟨w',hr,ho,hg⟩:=h1.store (int_keyed hk) ht hn (keyOf_int_mk hk hc.wf) (val:=v) (d:=.held v) (ps:=[]) rfl
 refine ⟨w',hr,⟨_,ho,fun c' hc' => ?_⟩,(Upd.refl _ _).grown hg.grown fun k hk => .inl (by injection hk with hk; exact hk.symm)⟩
 unfold put
 split
 · rename_i he
   subst he
   exact atKey_put_same h1.isMap (isKeyLit _) _ _
 · rename_i he
   rw [atKey_put_other (int_ne he)]
   exact h2 c' hc'
theorem Mp.drop (h:Mp P w kt b n m) (hk:P.underlying kt = some (.int .u64)) (ht:P.underlying t = some (.map kt e)) {c:Int} (hc:Key c) (ty:TypeId) :
 ∃ w',(Builtin.delete_ #[t,kt] ty #[.map (some b),.int .u64 c]).run P w = .ok (.tuple #[]) w' ∧ Mp P w' kt b n (put m c nl) ∧ Upd (fun k => k = b) w w':=by
 obtain ⟨D,h1,h2⟩:=h
 obtain ⟨w',hr,ho,hg⟩:=h1.drop (int_keyed hk) ht (keyOf_int_mk hk hc.wf) ty
 refine ⟨w',hr,⟨_,ho,fun c' hc' => ?_⟩,(Upd.refl _ _).grown hg.grown fun k hk => .inl (by injection hk with hk; exact hk.symm)⟩
 unfold put
 split
 · rename_i he
   subst he
   exact atKey_del_same _
 · rename_i he
   rw [atKey_del_other (int_ne he)]
   exact h2 c' hc'
variable {ops:Array Oper} {o:Oper} {a:Act} {Q:Exit → Act → World → Prop} {K:Act → World → Prop}
theorem wp_store (mo x v:Operand) (t kt e:TypeId) (ho:o.op = Op.mapUpdate t mo x v) (hk:P.underlying kt = some (.int .u64)) (ht:P.underlying t = some (.map kt e)) (b n:Nat) (m:Int → Value) (c:Int) (val:Value)
 (hm:a.eval mo = .map (some b)) (hx:a.eval x = .int .u64 c) (hv:a.eval v = val) (h:Mp P w kt b n m) (hn:n < maxLen) (hc:Key c)
 (hK:∀ w',Mp P w' kt b (n + 1) (put m c val) → Upd (fun k => k = b) w w' → K (a.put o.dst undef) w'):o.wp P a w K Q:=by
 obtain ⟨w',hr,h1,h2⟩:=h.store hk ht hn hc val
 unfold Oper.wp
 simp [execOp,ho,hm,hx,hv,hr,Result.andThen]
 exact hK w' h1 h2
theorem wp_drop (mo x:Operand) (t kt e:TypeId) (ho:o.op = Op.call { callee:=Callee.builtin Builtin.delete,args:=#[mo,x],argTypes:=#[t,kt] }) (hk:P.underlying kt = some (.int .u64)) (ht:P.underlying t = some (.map kt e)) (b n:Nat) (m:Int → Value) (c:Int)
 (hm:a.eval mo = .map (some b)) (hx:a.eval x = .int .u64 c) (h:Mp P w kt b n m) (hc:Key c)
 (hK:∀ w',Mp P w' kt b n (put m c nl) → Upd (fun k => k = b) w w' → K (a.put o.dst (.tuple #[])) w'):o.wp P a w K Q:=by
 obtain ⟨w',hr,h1,h2⟩:=h.drop hk ht hc o.type
 unfold Oper.wp
 simp [execOp,ho,resolve,invoke,builtin,hm,hx,hr,Result.andThen]
 exact hK w' h1 h2
end
end Mp
end
