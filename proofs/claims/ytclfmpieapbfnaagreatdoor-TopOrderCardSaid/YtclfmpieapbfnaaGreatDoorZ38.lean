/- Part 38: lemmas, no conditions. -/
import Derived.Test.YtclfmpieapbfnaaGreatDoorZ07
import Derived.Test.YtclfmpieapbfnaaGreatDoorZ11
import Derived.Test.YtclfmpieapbfnaaGreatDoorZ37
import Derived.Test.YtclfmpieapbfnaaGreatDoorZ15
import Derived.Test.YtclfmpieapbfnaaGreatDoorZ09
set_option maxHeartbeats 400000
namespace Go.Proofs.YtclfmpieapbfnaaGreatDoor
set_option linter.unusedVariables false
set_option linter.unusedSimpArgs false
section
namespace Bo
open Go.RowKit B Cm Cr Ou
def Vb (w:World) (G:Nat → Prop) (v:Value) (l:List Int):Prop:=
 ∃ A c,v = .slice A l.length c ∧ l.length ≤ c ∧ c ≤ 9223372036854775807 ∧ Rn w .u8 A l ∧ (0 < l.length → ∀ ad,A = some ad → G ad.block) ∧ Byte l
section
variable {w w':World} {F G H:Nat → Prop} {v:Value} {l:List Int}
theorem Vb.upd (h:Vb w G v l) (hu:Upd H w w') (hn:∀ k,G k → ¬ H k):Vb w' G v l:=by
 obtain ⟨A,c,h1,h2,h3,h4,h5,h6⟩:=h
 exact ⟨A,c,h1,h2,h3,Rd.upd0 h4 (by omega) hu fun h0 ad e => hn _ (h5 h0 ad e),h5,h6⟩
theorem Vb.quiet (h:Vb w G v l) (hu:Upd No w w'):Vb w' G v l:=h.upd hu fun _ _ => no_ _
theorem Vb.mono (h:Vb w G v l) (hg:∀ k,G k → H k):Vb w H v l:=by
 obtain ⟨A,c,h1,h2,h3,h4,h5,h6⟩:=h
 exact ⟨A,c,h1,h2,h3,h4,fun h0 ad e => hg _ (h5 h0 ad e),h6⟩
theorem Vb.tight (h:Vb w G v l):Vb w (fun k => G k ∧ k < w.heap.size) v l:=by
 obtain ⟨A,c,h1,h2,h3,h4,h5,h6⟩:=h
 refine ⟨A,c,h1,h2,h3,h4,fun h0 ad e => ⟨h5 h0 ad e,?_⟩,h6⟩
 obtain ⟨ad',e',hl⟩:=Rd.lt h4 h0 (by omega)
 rw [e] at e'
 injection e' with e'
 rw [e']
 exact hl
theorem Vb.of_own {base c:Nat} {A:Option Addr} (h:w.ownsRow base 5 1 (.slice A l.length c) l.length (nums .u8 l)) (hb:Byte l):Vb w (fun k => base ≤ k ∧ k < w.heap.size) (.slice A l.length c) l:=by
 obtain ⟨_,_,hsv,hc1,hc2⟩:=own_shape h
 simp only [Value.slice.injEq,true_and] at hsv
 obtain ⟨rfl,rfl⟩:=hsv
 simp only [maxLen] at hc2
 refine ⟨A,c,rfl,hc1,by omega,Rd.of_own h,fun _ ad e => ?_,hb⟩
 have:=h.lt ad.block (by simp [Value.ownBlock,e])
 exact this
end
abbrev Cg:=ByteArray × List Int × Bool × Value
def ccells (x:Cg):List Value:=[.string x.1,x.2.2.2,.bool x.2.2.1]
def Cl (w:World) (G:Nat → Prop) (v:Value) (xs:List Cg):Prop:=
 ∃ A c,v = .slice A xs.length c ∧ xs.length ≤ c ∧ c ≤ maxLen ∧ Rd w 3 A xs.length (xs.flatMap ccells) ∧ (0 < xs.length → ∀ ad,A = some ad → G ad.block) ∧ ∀ x ∈ xs,Vb w G x.2.2.2 x.2.1
section
variable {w w':World} {F G H:Nat → Prop} {v:Value} {xs:List Cg}
theorem Cl.upd (h:Cl w G v xs) (hu:Upd H w w') (hn:∀ k,G k → ¬ H k):Cl w' G v xs:=by
 obtain ⟨A,c,h1,h2,h3,h4,h5,h6⟩:=h
 exact ⟨A,c,h1,h2,h3,Rd.upd0 h4 (by omega) hu fun h0 ad e => hn _ (h5 h0 ad e),h5,fun x hx => (h6 x hx).upd hu hn⟩
theorem Cl.quiet (h:Cl w G v xs) (hu:Upd No w w'):Cl w' G v xs:=h.upd hu fun _ _ => no_ _
theorem ccells_get (xs:List Cg):∀ (j:Nat) (h:j < xs.length),(xs.flatMap ccells)[j * 3]? = some (.string xs[j].1) ∧ (xs.flatMap ccells)[j * 3 + 1]? = some xs[j].2.2.2 ∧ (xs.flatMap ccells)[j * 3 + 2]? = some (.bool xs[j].2.2.1):=by
 induction xs with
 | nil => intro j h; exact absurd h (by simp)
 | cons p r ih =>
  intro j h
  cases j with
  | zero => simp [ccells]
  | succ j =>
   have:=ih j (by simpa using h)
   have e:(j + 1) * 3 = j * 3 + 3:=by omega
   simp only [List.flatMap_cons,ccells,List.getElem_cons_succ]
   rw [e]
   simpa using this
theorem Cl.at_ (h:Cl w G v xs) {j:Nat} (hj:j < xs.length):∃ A c ad,v = .slice A xs.length c ∧ A = some ad ∧ xs.length ≤ c ∧ c ≤ maxLen ∧ w.cell? (ad.add (j * 3)) = some (.string xs[j].1) ∧
 w.cell? ⟨(ad.add (j * 3)).block,(ad.add (j * 3)).off + 1,none⟩ = some xs[j].2.2.2 ∧ w.cell? ⟨(ad.add (j * 3)).block,(ad.add (j * 3)).off + 2,none⟩ = some (.bool xs[j].2.2.1):=by
 obtain ⟨A,c,h1,h2,h3,h4,h5,h6⟩:=h
 obtain ⟨ad,e,hc⟩:=h4.2 (by omega)
 obtain ⟨g0,g1,g2⟩:=ccells_get xs j hj
 have add_field:∀ (m k:Nat),0 < k → ad.add (m + k) = ⟨(ad.add m).block,(ad.add m).off + k,none⟩:=fun m k hk => by
  unfold Addr.add
  by_cases hm:m = 0
  · subst hm
    simp
    omega
  · rw [if_neg (by omega),if_neg hm]
    simp [Nat.add_assoc]
 exact ⟨A,c,ad,h1,e,h2,h3,hc _ _ g0,by rw [← add_field _ 1 (by omega)]; exact hc _ _ g1,by rw [← add_field _ 2 (by omega)]; exact hc _ _ g2⟩
end
def layT (tab:ByteArray → Option (List Int)) (x:ByteArray × List Int × Bool):ByteArray → Option (List Int):=fun s => if s = x.1 then (if x.2.2 then none else some x.2.1) else tab s
def lays (tab:ByteArray → Option (List Int)) (xs:List (ByteArray × List Int × Bool)):ByteArray → Option (List Int):=xs.foldl layT tab
def bare (x:Cg):ByteArray × List Int × Bool:=(x.1,x.2.1,x.2.2.1)
def encC (x:ByteArray × List Int × Bool):List Int:=txt x.1 ++ if x.2.2 then [0] else [1] ++ txl x.2.1
def encL (xs:List (ByteArray × List Int × Bool)):List Int:=xs.flatMap encC
def sizeC (xs:List (ByteArray × List Int × Bool)):Nat:=(xs.map fun x => x.1.size + x.2.1.length).sum
theorem encC_le (x:ByteArray × List Int × Bool):(encC x).length ≤ x.1.size + x.2.1.length + 19:=by
 have h1:=txt_le x.1
 have h2:=txl_le x.2.1
 unfold encC
 split
 · simp only [List.length_append,List.length_singleton]; omega
 · simp only [List.length_append,List.length_singleton]; omega
theorem encL_le (xs:List (ByteArray × List Int × Bool)):(encL xs).length ≤ sizeC xs + 19 * xs.length:=by
 induction xs with
 | nil => simp [encL,sizeC]
 | cons x r ih =>
  have h1:=encC_le x
  have e:encL (x :: r) = encC x ++ encL r:=by simp [encL]
  have e2:sizeC (x :: r) = (x.1.size + x.2.1.length) + sizeC r:=by simp [sizeC]
  rw [e,e2]
  simp only [List.length_append,List.length_cons]
  omega
theorem encL_pos {xs:List (ByteArray × List Int × Bool)} (h:xs ≠ []):0 < (encL xs).length:=by
 rcases xs with _ | ⟨x,r⟩
 · exact absurd rfl h
 · have e:encL (x :: r) = encC x ++ encL r:=by simp [encL]
   have h1:=(num_length (x.1.size:Int)).1
   rw [e]
   simp only [encC,txt,List.length_append]
   omega
theorem encL_byte {xs:List (ByteArray × List Int × Bool)} (h:∀ x ∈ xs,Byte x.2.1):Byte (encL xs):=by
 refine flat_byte _ _ fun x hx => Byte.append (txt_byte _) ?_
 split
 · intro c hc; simp only [List.mem_singleton] at hc; omega
 · exact Byte.append (fun c hc => by simp only [List.mem_singleton] at hc; omega) (txl_byte (h x hx))
def Tb (w:World) (F:Nat → Prop) (b n:Nat) (tab:ByteArray → Option (List Int)):Prop:=
 ∃ (m:ByteArray → Option Value) (G:Nat → Prop),Ms.Ms Tryz.prog w 9 b n m ∧ (∀ s,Ms.Ks s → (match tab s with
  | none => m s = none
  | some l => ∃ v,m s = some v ∧ Vb w G v l)) ∧ F b ∧ (∀ k,G k → F k ∧ k ≠ b) ∧ ∀ k,F k → k < w.heap.size
section
variable {w w':World} {F G H:Nat → Prop} {b n:Nat} {tab:ByteArray → Option (List Int)}
theorem Tb.upd (h:Tb w F b n tab) (hu:Upd H w w') (hn:∀ k,F k → ¬ H k):Tb w' F b n tab:=by
 obtain ⟨m,G,h1,h2,h3,h4,h5⟩:=h
 refine ⟨m,G,h1.upd hu (hn _ h3),fun s hs => ?_,h3,h4,fun k hk => Nat.lt_of_lt_of_le (h5 k hk) hu.size⟩
 have:=h2 s hs
 cases ht:tab s with
 | none => rw [ht] at this; exact this
 | some l =>
  rw [ht] at this
  obtain ⟨v,e,hv⟩:=this
  exact ⟨v,e,hv.upd hu fun k hk => hn _ (h4 k hk).1⟩
theorem Tb.lt (h:Tb w F b n tab):∀ k,F k → k < w.heap.size:=by
 obtain ⟨m,G,h1,h2,h3,h4,h5⟩:=h
 exact h5
end
def tbO (b n:Nat) (tab:ByteArray → Option (List Int)):Ob:=⟨fun w F => Tb w F b n tab,fun h hu hn => h.upd hu hn,fun h => h.lt⟩
def Ch (w:World) (F:Nat → Prop) (b n:Nat) (ch:ByteArray → Bool):Prop:=Ms.Ms Tryz.prog w 9 b n (fun s => if ch s then some (.bool true) else none) ∧ ∀ k,F k ↔ k = b
def chO (b n:Nat) (ch:ByteArray → Bool):Ob:=⟨fun w F => Ch w F b n ch,fun h hu hn => ⟨h.1.upd hu (hn _ ((h.2 _).2 rfl)),h.2⟩,fun h k hk => by rw [(h.2 k).1 hk]; exact h.1.lt⟩
end Bo
end
section
namespace Ou
open Go.RowKit B Cm Cw Cr Lt Lc Nd
abbrev Ov:=Oe × Value
def ocs (x:Ov):List Value:=.string x.1.1 :: cells x.1.2 x.2
def ocells (ps:List Ov):List Value:=ps.flatMap ocs
def RowO (w:World) (F:Nat → Prop) (v:Value) (xs:List Oe):Prop:=
 ∃ ps:List Ov,ps.map (·.1) = xs ∧ Sl w 0 150 5 v ps.length (ocells ps) ∧ (∀ x ∈ ps,In w x.1.2 x.2 ∧ ∀ k,x.2.ownBlock = some k → F k ∧ ∃ cs,Blk w k 2 cs) ∧ (∀ k,v.ownBlock = some k → F k)
section
variable {w w':World} {F G:Nat → Prop} {v:Value} {xs:List Oe}
theorem RowO.upd (h:RowO w F v xs) (hu:Upd G w w') (hn:∀ k,F k → ¬ G k):RowO w' F v xs:=by
 obtain ⟨ps,h1,h2,h3,h4⟩:=h
 exact ⟨ps,h1,h2.upd hu fun k hk => hn k (h4 k hk),fun x hx => ⟨(h3 x hx).1.upd hu fun g hg => hn g ((h3 x hx).2 g hg).1,fun k hk => ⟨((h3 x hx).2 k hk).1,((h3 x hx).2 k hk).2.elim fun cs hB => ⟨cs,hB.upd hu (hn k ((h3 x hx).2 k hk).1)⟩⟩⟩,h4⟩
theorem RowO.far (h:RowO w F v xs) (hu:Upd G w w') (h1:∀ k cs,Blk w k 2 cs → ¬ G k) (h2:∀ k cs,Blk w k 150 cs → ¬ G k):RowO w' F v xs:=by
 obtain ⟨ps,g1,g2,g3,g4⟩:=h
 exact ⟨ps,g1,g2.upd hu fun k hk => (g2.blk hk).elim fun cs hB => h2 k cs hB,fun x hx => ⟨(g3 x hx).1.upd hu fun g hg => ((g3 x hx).2 g hg).2.elim fun cs hB => h1 g cs hB,fun k hk => ⟨((g3 x hx).2 k hk).1,((g3 x hx).2 k hk).2.elim fun cs hB => ⟨cs,hB.upd hu (h1 k cs hB)⟩⟩⟩,g4⟩
theorem RowO.len (h:RowO w F v xs):∃ A c,v = .slice A xs.length c ∧ xs.length ≤ c ∧ c ≤ maxLen:=by
 obtain ⟨ps,h1,h2,h3,h4⟩:=h
 have:xs.length = ps.length:=by rw [← h1]; simp
 rw [this]
 exact h2.shape
theorem RowO.nil (w:World) (F:Nat → Prop):RowO w F (.slice none 0 0) []:=⟨[],rfl,Sl.nil _ _ _ _,by simp,by intro k hk; simp [Value.ownBlock] at hk⟩
end
def sm (s:List (ByteArray × Int)):ByteArray → Option Value:=fun k => (at_ s k).map fun n => .int .u64 n
theorem map_ne {P:Program} {w:World} {kt:TypeId} {b n g:Nat} {m:ByteArray → Option Value} {t:TypeId} {cs:Array Value} (h:Ms.Ms P w kt b n m) (hb:Blk w g t cs):g ≠ b:=by
 rintro rfl
 obtain ⟨D,⟨es,clock,h1,_⟩,_⟩:=h
 unfold Blk at hb
 rw [hb] at h1
 simp at h1
structure Ox (w:World) (F:Nat → Prop) (p:Nat) (m:Om) (n:Nat) (v:Value) (b:Nat):Prop where
 blk:Blk w p 273 #[.string m.own,v,.map (some b)]
 row:RowO w F v m.lst
 map:Ms.Ms Tryz.prog w 9 b n (sm m.ser)
 fp:F p
 fb:F b
 lt:∀ k,F k → k < w.heap.size
def Ot (w:World) (F:Nat → Prop) (p:Nat) (m:Om) (n:Nat):Prop:=∃ v b,Ox w F p m n v b
section
variable {w w':World} {F G:Nat → Prop} {p n b:Nat} {m:Om} {v:Value}
theorem Ox.upd (h:Ox w F p m n v b) (hu:Upd G w w') (hn:∀ k,F k → ¬ G k):Ox w' F p m n v b:=
 ⟨h.blk.upd hu (hn _ h.fp),h.row.upd hu hn,h.map.upd hu (hn _ h.fb),h.fp,h.fb,fun k hk => Nat.lt_of_lt_of_le (h.lt k hk) hu.size⟩
theorem Ot.upd (h:Ot w F p m n) (hu:Upd G w w') (hn:∀ k,F k → ¬ G k):Ot w' F p m n:=by
 obtain ⟨v,b,h⟩:=h
 exact ⟨v,b,h.upd hu hn⟩
theorem Ot.quiet (h:Ot w F p m n) (hu:Upd No w w'):Ot w' F p m n:=h.upd hu fun _ _ => no_ _
theorem Ot.lt (h:Ot w F p m n):∀ k,F k → k < w.heap.size:=by
 obtain ⟨v,b,h⟩:=h
 exact h.lt
theorem Ox.cells (h:Ox w F p m n v b):w.cell? ⟨p,0,none⟩ = some (.string m.own) ∧ w.cell? ⟨p,1,none⟩ = some v ∧ w.cell? ⟨p,2,none⟩ = some (.map (some b)):=⟨by simpa using h.blk.cell 0,by simpa using h.blk.cell 1,by simpa using h.blk.cell 2⟩
theorem Ox.ne (h:Ox w F p m n v b):p ≠ b:=map_ne h.map h.blk
end
def NwOut (w:World) (k:ByteArray) (e:Ending) (w':World):Prop:=∃ p F,e = .returned (.tuple #[.pointer (some ⟨p,0,none⟩),.int .i64 0]) ∧ Ot w' F p (newO k) 0 ∧ (∀ k,F k → w.heap.size ≤ k) ∧ Upd No w w'
theorem NwOut.of {w:World} {k:ByteArray} {e:Ending} {w':World} (h:∃ p F,e = .returned (.tuple #[.pointer (some ⟨p,0,none⟩),.int .i64 0]) ∧ Ot w' F p (newO k) 0 ∧ (∀ k,F k → w.heap.size ≤ k) ∧ Upd No w w'):NwOut w k e w':=h
theorem Ot.new (w:World) (k:ByteArray):Ot ((w.alloc (.map #[] 0)).alloc (.cells #[.string k,.slice none 0 0,.map (some w.heap.size)] 273)) (fun g => g = w.heap.size ∨ g = w.heap.size + 1) (w.heap.size + 1) (newO k) 0:=by
 have hs:(w.alloc (.map #[] 0)).heap.size = w.heap.size + 1:=by simp
 refine ⟨.slice none 0 0,w.heap.size,?_,RowO.nil _ _,?_,.inr rfl,.inl rfl,fun g hg => ?_⟩
 · have:=Blk.fresh (w.alloc (.map #[] 0)) 273 #[.string k,.slice none 0 0,.map (some w.heap.size)]
   rwa [hs] at this
 · exact (Ms.Ms.made Tryz.prog w 9).upd ((Upd.refl No _).alloc _) (no_ _)
 · simp
   omega
theorem new_ (k:ByteArray) (hk:keyB k = true) (w:World):Calls Tryz.prog 171 #[.string k] w fun e w' => NwOut w k e w':=by
 have HK:=hid (key_ k w)
 rw [hk] at HK
 have HE:=hid (Ot.new w k)
 have HU:Hid (Upd No w ((w.alloc (.map #[] 0)).alloc (.cells #[.string k,.slice none 0 0,.map (some w.heap.size)] 273))):=hid (((Upd.refl _ _).alloc _).alloc _)
 have hmk:=@run_makeMap Tryz.prog
 clear hk
 go_enter Tryz.func171,Tryz.ntmps171
 go_wp2_with (fail)
 refine HK.out.mono ?_
 rintro e w' ⟨rfl,rfl⟩
 go_wp2

 go_ret2
 exact .of ⟨_,_,rfl,HE.out,fun g hg => by omega,HU.out⟩
theorem owner {w:World} {F:Nat → Prop} {p n:Nat} {m:Om} (h:Ot w F p m n) :
 Calls Tryz.prog 104 #[.pointer (some ⟨p,0,none⟩)] w fun e w' => e = .returned (.string m.own) ∧ w = w':=by
 obtain ⟨v,b,h⟩:=h
 obtain ⟨c0,c1,c2⟩:=h.cells
 go_enter Tryz.func104,Tryz.ntmps104
 go_wp2
 go_ret
 exact ⟨rfl,rfl⟩
theorem str_nz {s:ByteArray} (h:1 ≤ s.size):s.toList.isEmpty = false:=by
 have h1:=toList_length s
 rcases hl:s.toList with _ | ⟨a,r⟩
 · rw [hl] at h1
   simp at h1
   omega
 · rfl
theorem none_ {w:World} {F:Nat → Prop} {p n:Nat} {m:Om} (h:Ot w F p m n) (hk:Kk m.own) :
 Calls Tryz.prog 195 #[.pointer (some ⟨p,0,none⟩)] w fun e w' => e = .returned (.bool false) ∧ w = w':=by
 obtain ⟨v,b,h⟩:=h
 obtain ⟨c0,c1,c2⟩:=h.cells
 have hn:=str_nz hk.1
 go_enter Tryz.func195,Tryz.ntmps195
 go_wp2
 go_ret
 exact ⟨rfl,rfl⟩
theorem map_len {P:Program} {w:World} {kt:TypeId} {b n:Nat} {s:List (ByteArray × Int)} (hk:P.underlying kt = some .string) (h:Ms.Ms P w kt b n (sm s)) (hs:s.Pairwise fun a c => bl a.1 c.1 = true) (hb:∀ e ∈ s,e.1.size ≤ maxLen) {D:DataW Value} (h1:w.ownsMap P kt Ms.vR b n D)
 (h2:∀ k,Ms.Ks k → ∀ z,D.atKey (Ms.kl k) z = (match sm s k with | some v => .held v | none => z)):Maps.size D = s.length:=by
 have hp:=Ms.keys_perm hk h1 h2 (ks:=s.map (·.1)) (List.pairwise_map.2 (hs.imp fun {a c} h e => by rw [e,bl_irrefl] at h; cases h)) (fun k hk => by
  unfold sm
  rw [Option.isSome_map,List.mem_map]
  constructor
  · rintro ⟨e,he,rfl⟩
    rw [at_of_mem (srt_nd hs) he]
    rfl
  · intro h
    obtain ⟨v,hv⟩:=Option.isSome_iff_exists.1 h
    exact ⟨_,at_mem hv,rfl⟩) (fun k hk => by
  obtain ⟨e,he,rfl⟩:=List.mem_map.1 hk
  exact hb e he)
 have hl:=hp.length_eq
 obtain ⟨es,hD,_⟩:=h1.keysOf
 subst hD
 simp [strKeys] at hl
 simp [Maps.size]
 omega
end Ou
end
