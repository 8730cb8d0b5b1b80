/- Part 11: lemmas, no conditions. -/
import Derived.Test.YtclfmpieapbfnaaGreatDoorZ07
import Derived.Sort.KeysCollected
import Derived.Sort.Walk0
set_option linter.unusedVariables false
set_option linter.unusedSimpArgs false
section
namespace Go.Proofs.YtclfmpieapbfnaaGreatDoor.Ms
open Go.RowKit Go.Maps B
def raw (s:ByteArray):List UInt8:=s.data.toList
theorem raw_inj {s s':ByteArray} (h:raw s = raw s'):s = s':=by
 obtain ⟨⟨a⟩⟩:=s
 obtain ⟨⟨b⟩⟩:=s'
 simp only [raw] at h
 rw [h]
theorem raw_len (s:ByteArray):(raw s).length = s.size:=by unfold raw; rw [Array.length_toList]; rfl
theorem keys_perm {P:Program} {w:World} {kt:TypeId} {b n:Nat} {m:ByteArray → Option Value} {D:DataW Value} (hk:P.underlying kt = some .string) (h1:w.ownsMap P kt vR b n D)
 (h2:∀ s,Ks s → ∀ z,D.atKey (kl s) z = (match m s with | some v => .held v | none => z)) {ks:List ByteArray} (hnd:ks.Nodup) (hm:∀ s,Ks s → (s ∈ ks ↔ (m s).isSome = true)) (hks:∀ s ∈ ks,Ks s) :
 (ks.map raw).Perm (strKeys D):=by
 obtain ⟨es,hD,hpw,_⟩:=h1.entries (string_keyed hk)
 obtain ⟨es',hD',hko⟩:=h1.keysOf
 obtain rfl:es = es':=by rw [hD] at hD'; simpa using hD'
 subst hD
 refine perm_strKeys hpw (fun p hp => ?_) (List.pairwise_map.2 (hnd.imp fun {a c} hac e => hac (raw_inj e))) fun x => ?_
 · obtain ⟨v,hv⟩:=hko p hp
   obtain ⟨x,_,hx,_⟩:=Maps.keyOf_str hk hv
   exact ⟨x,hx⟩
 · by_cases hx:x.length ≤ maxLen
   · obtain ⟨s,hs⟩:∃ s:ByteArray,raw s = x:=⟨⟨⟨x⟩⟩,rfl⟩
     have hsk:Ks s:=by unfold Ks; rw [← raw_len,hs]; exact hx
     have e1:x ∈ ks.map raw ↔ s ∈ ks:=by
      rw [List.mem_map]
      exact ⟨fun ⟨y,hy,e⟩ => by rw [← raw_inj (e.trans hs.symm)]; exact hy,fun h => ⟨s,h,hs⟩⟩
     have e2:Lit.string x = kl s:=by rw [← hs]; rfl
     rw [e1,hm s hsk,e2]
     have h3:=h2 s hsk
     rcases hms:m s with _ | v
     · rw [hms] at h3
       rw [has_false_of_atKey h3]
       simp
     · rw [hms] at h3
       rw [has_true_of_atKey h3]
       simp
   · constructor
     · intro h
       obtain ⟨y,hy,e⟩:=List.mem_map.1 h
       have:=hks y hy
       unfold Ks at this
       rw [← raw_len,e] at this
       exact absurd this hx
     · intro h
       rw [has_eq,List.any_eq_true] at h
       obtain ⟨p,hp,hs⟩:=h
       obtain ⟨v,hv⟩:=hko p hp
       obtain ⟨y,_,hy,hl⟩:=Maps.keyOf_str hk hv
       rw [hy] at hs
       have:y = x:=by simpa [Lit.sameKey] using hs
       subst this
       exact absurd hl hx
theorem raw_le {a c:ByteArray} (h:Nd.bl a c = true):raw a ≤ raw c:=by
 unfold Nd.bl at h
 rw [Go.Proofs.bytesLess_eq,decide_eq_true_iff,Nd.toList_data,Nd.toList_data] at h
 exact List.le_of_lt h
theorem sorted_keys {P:Program} {w:World} {kt:TypeId} {b n:Nat} {m:ByteArray → Option Value} {D:DataW Value} (hk:P.underlying kt = some .string) (h1:w.ownsMap P kt vR b n D)
 (h2:∀ s,Ks s → ∀ z,D.atKey (kl s) z = (match m s with | some v => .held v | none => z)) {ks:List ByteArray} (hs:ks.Pairwise fun a c => Nd.bl a c = true) (hm:∀ s,Ks s → (s ∈ ks ↔ (m s).isSome = true)) (hks:∀ s ∈ ks,Ks s)
 {ss:List (List UInt8)} (hp:ss.Perm (strKeys D)):ss.mergeSort leB = ks.map raw:=by
 have hnd:ks.Nodup:=hs.imp fun {a c} h e => by rw [e,Nd.bl_irrefl] at h; cases h
 rw [mergeSort_of_perm (hp.trans (keys_perm hk h1 h2 hnd hm hks).symm)]
 exact List.mergeSort_of_pairwise (List.pairwise_map.2 (hs.imp fun {a c} h => by
  simp only [leB,decide_eq_true_eq]
  exact raw_le h))
theorem encStr_raw (s:ByteArray):Go.Proofs.encStr (raw s) = .string s:=by simp [Go.Proofs.encStr,raw]
theorem keys_row {P:Program} {w:World} {kt:TypeId} {b n:Nat} {m:ByteArray → Option Value} {D:DataW Value} (hk:P.underlying kt = some .string) (h1:w.ownsMap P kt vR b n D)
 (h2:∀ s,Ks s → ∀ z,D.atKey (kl s) z = (match m s with | some v => .held v | none => z)) {ks:List ByteArray} (hs:ks.Pairwise fun a c => Nd.bl a c = true) (hm:∀ s,Ks s → (s ∈ ks ↔ (m s).isSome = true)) (hks:∀ s ∈ ks,Ks s)
 {ss:List (List UInt8)} (hp:ss.Perm (strKeys D)):ss.length = ks.length ∧ (ss.mergeSort (fun x y => decide (x ≤ y))).map Go.Proofs.encStr = ks.map .string:=by
 have e:=sorted_keys hk h1 h2 hs hm hks hp
 have e1:(ss.mergeSort (fun x y => decide (x ≤ y))) = ks.map raw:=e
 refine ⟨?_,?_⟩
 · have:=congrArg List.length e1
   simpa using this
 · rw [e1,List.map_map]
   exact List.map_congr_left fun s _ => encStr_raw s
end Go.Proofs.YtclfmpieapbfnaaGreatDoor.Ms
end
