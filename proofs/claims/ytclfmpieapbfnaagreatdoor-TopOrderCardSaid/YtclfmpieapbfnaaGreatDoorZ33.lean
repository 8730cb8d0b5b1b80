/- Part 33: lemmas, no conditions. -/
import Derived.Test.YtclfmpieapbfnaaGreatDoorZ29
import Derived.Test.YtclfmpieapbfnaaGreatDoorZ18
set_option maxHeartbeats 400000
namespace Go.Proofs.YtclfmpieapbfnaaGreatDoor
set_option linter.unusedVariables false
set_option linter.unusedSimpArgs false
section
namespace Nd
open Go.RowKit B Go.Proofs.YtclfmpieapbfnaaGreatDoor.Op
theorem add_fl (ad:Addr) (m k:Nat) (hk:0 < k):ad.add (m + k) = ⟨(ad.add m).block,(ad.add m).off + k,none⟩:=by
 unfold Addr.add
 by_cases hm:m = 0
 · subst hm; simp; omega
 · simp [hm]; omega
structure At (W:World) (ad:Addr) (r:Rm):Prop where
 c0:W.cell? ad = some (.string r.actor)
 c1:W.cell? ⟨ad.block,ad.off + 1,none⟩ = some (.string r.name)
 c2:W.cell? ⟨ad.block,ad.off + 2,none⟩ = some (.int .i64 r.due)
 c3:W.cell? ⟨ad.block,ad.off + 3,none⟩ = some (.int .i64 r.per)
 c4:W.cell? ⟨ad.block,ad.off + 4,none⟩ = some (.int .i64 r.kind)
theorem rm_at {W:World} {A:Option Addr} {xs:List Rm} (h:Rd W 5 A xs.length (xs.flatMap rc)) {i:Nat} (hi:i < xs.length):∃ ad,A = some ad ∧ At W (ad.add (i * 5)) xs[i]:=by
 obtain ⟨ad,e,hc⟩:=row_at h (fun _ _ => rfl) rfl hi
 have h0:=hc 0 (by omega)
 have h1:=hc 1 (by omega)
 have h2:=hc 2 (by omega)
 have h3:=hc 3 (by omega)
 have h4:=hc 4 (by omega)
 rw [add_fl ad (i * 5) 1 (by omega)] at h1
 rw [add_fl ad (i * 5) 2 (by omega)] at h2
 rw [add_fl ad (i * 5) 3 (by omega)] at h3
 rw [add_fl ad (i * 5) 4 (by omega)] at h4
 exact ⟨ad,e,⟨h0,h1,h2,h3,h4⟩⟩
end Nd
end
section
namespace Nd
open Go.RowKit B Go.Proofs.YtclfmpieapbfnaaGreatDoor.Op
def Qo (w:World) (F:Nat → Prop) (q:Nat) (l:List Rm):Prop:=
 ∃ v,Blk w q 208 #[v] ∧ w.ownsRow 0 71 5 v l.length (l.flatMap rc) ∧ ∀ k,F k ↔ k = q ∨ v.ownBlock = some k
section
variable {w w':World} {F G:Nat → Prop} {q:Nat} {l:List Rm}
theorem Qo.upd (h:Qo w F q l) (hu:Upd G w w') (hn:∀ k,F k → ¬ G k):Qo w' F q l:=by
 obtain ⟨v,h1,h2,h3⟩:=h
 exact ⟨v,h1.upd hu (hn _ ((h3 q).2 (.inl rfl))),own_upd h2 hu fun k hk => hn k ((h3 k).2 (.inr hk)),h3⟩
theorem Qo.lt (h:Qo w F q l):∀ k,F k → k < w.heap.size:=by
 obtain ⟨v,h1,h2,h3⟩:=h
 intro k hk
 rcases (h3 k).1 hk with rfl | hk
 · exact h1.lt
 · exact (h2.lt k hk).2
theorem Qo.cell (h:Qo w F q l):∃ A c,w.cell? ⟨q,0,none⟩ = some (.slice A l.length c) ∧ Rd w 5 A l.length (l.flatMap rc) ∧ l.length ≤ c ∧ c ≤ maxLen:=by
 obtain ⟨v,h1,h2,h3⟩:=h
 obtain ⟨A,c,rfl,h4,h5⟩:=own_shape h2
 have e:=h1.cell 0
 simp at e
 exact ⟨A,c,e,Rd.of_own h2,h4,h5⟩
theorem Qo.new (w:World):Qo (w.alloc (.cells #[.slice none 0 0] 208)) (fun k => k = w.heap.size) w.heap.size []:=
 ⟨_,Blk.fresh w _ _,World.ownsRow_nil _ _ _ _,fun k => by simp [Value.ownBlock]⟩
end
theorem new_ (w:World):Calls Tryz.prog 27 #[] w fun e w' => e = .returned (.pointer (some ⟨w.heap.size,0,none⟩)) ∧ w.alloc (.cells #[.slice none 0 0] 208) = w':=by
 go_enter Tryz.func27,Tryz.ntmps27
 go_wp2
 go_ret
 exact ⟨rfl,rfl⟩
theorem size_zero {s:ByteArray} (h:s.size = 0):s = ⟨#[]⟩:=by
 obtain ⟨⟨l⟩⟩:=s
 have:l.length = 0:=h
 rw [List.eq_nil_of_length_eq_zero this]
theorem toList_length (s:ByteArray):s.toList.length = s.size:=by
 rw [toList_data,Array.length_toList]
 rfl
theorem key_ (s:ByteArray) (w:World):Calls Tryz.prog 46 #[.string s] w fun e w' => e = .returned (.bool (keyB s)) ∧ w = w':=by
 have HK:Hid (keyB s = decide (1 ≤ s.size ∧ s.size ≤ 40)):=hid rfl
 by_cases h0:s.size = 0
 · have HE:Hid (keyB s = false):=hid (by rw [HK.out,decide_eq_false (by omega)])
   obtain rfl:=size_zero h0
   go_enter Tryz.func46,Tryz.ntmps46
   go_wp2
   go_ret
   exact ⟨congrArg (fun z => Ending.returned (.bool z)) HE.out.symm,rfl⟩
 · have he:¬ s.toList = []:=by
    intro h
    have:=congrArg List.length h
    rw [toList_length] at this
    exact h0 this
   have he2:s.toList.isEmpty = false:=by simpa using he
   by_cases h1:s.size ≤ 40
   · have HE:Hid (keyB s = true):=hid (by rw [HK.out,decide_eq_true (by omega)])
     have h1':(s.size:Int) ≤ 40:=by omega
     go_enter Tryz.func46,Tryz.ntmps46
     go_wp2
     go_ret
     exact ⟨congrArg (fun z => Ending.returned (.bool z)) HE.out.symm,rfl⟩
   · have HE:Hid (keyB s = false):=hid (by rw [HK.out,decide_eq_false (by omega)])
     have h1':¬ (s.size:Int) ≤ 40:=by omega
     go_enter Tryz.func46,Tryz.ntmps46
     go_wp2
     go_ret
     exact ⟨congrArg (fun z => Ending.returned (.bool z)) HE.out.symm,rfl⟩
theorem Qo.parts {w:World} {F:Nat → Prop} {q:Nat} {l:List Rm} (h:Qo w F q l):∃ A c,Blk w q 208 #[.slice A l.length c] ∧ w.ownsRow 0 71 5 (.slice A l.length c) l.length (l.flatMap rc) ∧ (∀ k,F k ↔ k = q ∨ (Value.slice A l.length c).ownBlock = some k) ∧ l.length ≤ c ∧ c ≤ maxLen:=by
 obtain ⟨v,h1,h2,h3⟩:=h
 obtain ⟨A,c,rfl,h4,h5⟩:=own_shape h2
 exact ⟨A,c,h1,h2,h3,h4,h5⟩
end Nd
end
section
namespace Nd
open Go.RowKit B Go.Proofs.YtclfmpieapbfnaaGreatDoor.Op
theorem box5 {W:World} {p:Nat} {t:TypeId} {a0 a1 a2 a3 a4:Value} (h:Blk W p t #[a0,a1,a2,a3,a4]):W.cell? ⟨p,0,none⟩ = some a0 ∧ W.cell? ⟨p,1,none⟩ = some a1 ∧ W.cell? ⟨p,2,none⟩ = some a2 ∧ W.cell? ⟨p,3,none⟩ = some a3 ∧ W.cell? ⟨p,4,none⟩ = some a4:=by
 have h0:=h.cell 0
 have h1:=h.cell 1
 have h2:=h.cell 2
 have h3:=h.cell 3
 have h4:=h.cell 4
 simp at h0 h1 h2 h3 h4
 exact ⟨h0,h1,h2,h3,h4⟩
end Nd
end
section
namespace Nd
open Go.RowKit B Go.Proofs.YtclfmpieapbfnaaGreatDoor.Op
section
variable {w W W':World} {F F':Nat → Prop} {q:Nat} {l l':List Rm}
end
def sa:ByteArray:=⟨#[97]⟩
def sn:ByteArray:=⟨#[110]⟩
end Nd
end
