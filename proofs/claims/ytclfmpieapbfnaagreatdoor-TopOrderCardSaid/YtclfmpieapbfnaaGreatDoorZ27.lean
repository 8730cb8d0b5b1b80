/- Part 27: lemmas, no conditions. -/
import Derived.Test.YtclfmpieapbfnaaGreatDoorZ06
import Derived.Test.YtclfmpieapbfnaaGreatDoorZ11
set_option linter.unusedVariables false
set_option linter.unusedSimpArgs false
section
namespace Go.Proofs.YtclfmpieapbfnaaGreatDoor.Tj
open Go.RowKit B
def SoOut (w1:World) (ks:List ByteArray) (e:Ending) (w':World):Prop:=∃ A c,e = .returned (.slice A ks.length c) ∧ w'.ownsRow w1.heap.size 9 1 (.slice A ks.length c) ks.length (ks.map .string) ∧ Upd No w1 w'
theorem SoOut.of {w1:World} {ks:List ByteArray} {e:Ending} {w':World} (h:∃ A c,e = .returned (.slice A ks.length c) ∧ w'.ownsRow w1.heap.size 9 1 (.slice A ks.length c) ks.length (ks.map .string) ∧ Upd No w1 w'):SoOut w1 ks e w':=h
theorem keysU (b:Nat) (W:World):Calls Tryz.prog 196 #[.map (some b)] W fun e w' => e = .returned (.func (.func 251) #[] #[.pointer (some ⟨W.heap.size,0,none⟩)]) ∧ W.alloc (.cells #[.map (some b)] 271) = w':=
 (callsIn_wide.1 (Ti.maps_Keys_196 (some b) W)).mono fun e w' h => ⟨h.1,h.2.symm⟩
theorem keysB (b:Nat) (W:World):Calls Tryz.prog 170 #[.map (some b)] W fun e w' => e = .returned (.func (.func 231) #[] #[.pointer (some ⟨W.heap.size,0,none⟩)]) ∧ W.alloc (.cells #[.map (some b)] 179) = w':=
 (callsIn_wide.1 (Ti.maps_Keys_170 (some b) W)).mono fun e w' h => ⟨h.1,h.2.symm⟩
theorem fin {w w1 w':World} {b n:Nat} {m:ByteArray → Option Value} {D:DataW Value} (h1:w.ownsMap Tryz.prog 9 Ms.vR b n D) (h2:∀ s,Ms.Ks s → ∀ z,D.atKey (Ms.kl s) z = (match m s with | some v => .held v | none => z))
 {ks:List ByteArray} (hs:ks.Pairwise fun a c => Nd.bl a c = true) (hm:∀ s,Ms.Ks s → (s ∈ ks ↔ (m s).isSome = true)) (hks:∀ s ∈ ks,Ms.Ks s) {v:Value} {ss:List (List UInt8)} {e:Ending}
 (he:e = .returned v) (hp:ss.Perm (strKeys D)) (hr:w'.ownsRow w1.heap.size 9 1 v ss.length ((ss.mergeSort (fun x y => decide (x ≤ y))).map Go.Proofs.encStr)) (hb:Below w1.heap.size w1 w'):SoOut w1 ks e w':=by
 obtain ⟨e1,e2⟩:=Ms.keys_row Tryz.underlying9 h1 h2 hs hm hks hp
 rw [e1,e2] at hr
 obtain ⟨A,c,rfl,_,_⟩:=own_shape hr
 exact ⟨A,c,he,hr,Upd.of_below No hb⟩
theorem sortedU {w:World} {b n:Nat} {m:ByteArray → Option Value} (h:Ms.Ms Tryz.prog w 9 b n m) (hn:n ≤ 1000000) {ks:List ByteArray} (hs:ks.Pairwise fun a c => Nd.bl a c = true) (hm:∀ s,Ms.Ks s → (s ∈ ks ↔ (m s).isSome = true)) (hks:∀ s ∈ ks,Ms.Ks s) :
 Calls Tryz.prog 169 #[.func (.func 251) #[] #[.pointer (some ⟨w.heap.size,0,none⟩)]] (w.alloc (.cells #[.map (some b)] 271)) fun e w' => SoOut (w.alloc (.cells #[.map (some b)] 271)) ks e w':=by
 obtain ⟨D,h1,h2⟩:=h
 have hsz:=h1.size_le
 refine (callsIn_wide.1 (Ti.slices_Sorted_keys_169_196 b n D Ms.vR w h1 (by unfold maxLen; omega) (by omega))).mono ?_
 rintro e w' ⟨v,ss,he,hp,hr,_,hb⟩
 exact fin h1 h2 hs hm hks he hp hr hb
theorem sortedB {w:World} {b n:Nat} {m:ByteArray → Option Value} (h:Ms.Ms Tryz.prog w 9 b n m) (hn:n ≤ 1000000) {ks:List ByteArray} (hs:ks.Pairwise fun a c => Nd.bl a c = true) (hm:∀ s,Ms.Ks s → (s ∈ ks ↔ (m s).isSome = true)) (hks:∀ s ∈ ks,Ms.Ks s) :
 Calls Tryz.prog 169 #[.func (.func 231) #[] #[.pointer (some ⟨w.heap.size,0,none⟩)]] (w.alloc (.cells #[.map (some b)] 179)) fun e w' => SoOut (w.alloc (.cells #[.map (some b)] 179)) ks e w':=by
 obtain ⟨D,h1,h2⟩:=h
 have hsz:=h1.size_le
 refine (callsIn_wide.1 (Ti.slices_Sorted_keys_169_170 b n D Ms.vR w h1 (by unfold maxLen; omega) (by omega))).mono ?_
 rintro e w' ⟨v,ss,he,hp,hr,_,hb⟩
 exact fin h1 h2 hs hm hks he hp hr hb
end Go.Proofs.YtclfmpieapbfnaaGreatDoor.Tj
end
