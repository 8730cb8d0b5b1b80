/- Part 06: lemmas, no conditions. -/
import Derived.Shelf.SlIter.Nil
import Derived.Shelf.SortM.Plain
import Derived.Shelf.SortM.SortNone
import Derived.Ground.GgzProg
import Derived.Ground.SlgmProg
import Derived.Test.YtclfmpieapbfnaaGreatDoorProg
set_option maxHeartbeats 1000000
set_option linter.unusedVariables false
set_option linter.unusedSimpArgs false
section
namespace Go.Proofs.YtclfmpieapbfnaaGreatDoor
open Go.RowKit Go.Maps Go.Sort Go.Shelf Go.Proofs
def Ti.keys170_ren:Go.Shelf.Ren:=⟨fun | 7 => 170 | 10 => 231 | n => n,fun | 23 => 179 | 26 => 9 | 3 => 22 | 28 => 330 | 0 => 0 | 27 => 329 | 33 => 133 | 4 => 4 | n => n,fun | n => n⟩
theorem Ti.keys170:Go.Proofs.SlLaysZ.n7 Tryz.prog Ti.keys170_ren:={
 mixed:=by kernel_rfl
 f7:=⟨Tryz.f170.name,by decide,Tryz.func170.trans (congrArg some (by kernel_rfl))⟩
 f10:=⟨Tryz.f231.name,by decide,Tryz.func231.trans (congrArg some (by kernel_rfl))⟩
 t0:=Tryz.underlying0
 a0:=Tryz.isAgg0
 z0:=Tryz.sizeOf0
 v0:=Tryz.zeroValue0
 t4:=Tryz.underlying4
 a4:=Tryz.isAgg4
 z4:=Tryz.sizeOf4
 v4:=Tryz.zeroValue4
 t23:=Tryz.underlying179
 a23:=Tryz.isAgg179
 z23:=Tryz.sizeOf179
 v23:=Tryz.zeroValue179
 t26:=Tryz.underlying9
 a26:=Tryz.isAgg9
 z26:=Tryz.sizeOf9
 v26:=Tryz.zeroValue9
 t27:=Tryz.underlying329
 a27:=Tryz.isAgg329
 z27:=Tryz.sizeOf329
 v27:=Tryz.zeroValue329
 t28:=Tryz.underlying330
 a28:=Tryz.isAgg330
 z28:=Tryz.sizeOf330
 v28:=Tryz.zeroValue330
 t33:=Tryz.underlying133
 a33:=Tryz.isAgg133
 z33:=Tryz.sizeOf133
 v33:=Tryz.zeroValue133 }
def Ti.sorted169_ren:Go.Shelf.Ren:=⟨fun | 6 => 169 | 8 => 229 | 9 => 230 | 11 => 273 | 13 => 271 | 12 => 274 | 23 => 310 | 24 => 174 | 14 => 311 | 15 => 312 | 16 => 313 | 17 => 314 | 18 => 315 | 19 => 316 | 20 => 317 | 21 => 318 | 22 => 319 | 25 => 353 | 26 => 348 | 27 => 349 | 28 => 354 | 29 => 355 | 30 => 356 | 31 => 376 | n => n,fun | 26 => 9 | 28 => 330 | 24 => 31 | 0 => 0 | 3 => 3 | 37 => 46 | 48 => 288 | 50 => 23 | 4 => 4 | 40 => 449 | 39 => 448 | 45 => 354 | 5 => 5 | 9 => 9 | 51 => 484 | 55 => 487 | 57 => 500 | 58 => 501 | 33 => 133 | n => n,fun | n => n⟩
theorem Ti.sorted169:Go.Proofs.SlLaysZ.n6 Tryz.prog Ti.sorted169_ren:={
 mixed:=by kernel_rfl
 f6:=⟨Tryz.f169.name,by decide,Tryz.func169.trans (congrArg some (by kernel_rfl))⟩
 f8:=⟨Tryz.f229.name,by decide,Tryz.func229.trans (congrArg some (by kernel_rfl))⟩
 f11:=⟨Tryz.f273.name,by decide,Tryz.func273.trans (congrArg some (by kernel_rfl))⟩
 t0:=Tryz.underlying0
 a0:=Tryz.isAgg0
 z0:=Tryz.sizeOf0
 v0:=Tryz.zeroValue0
 t24:=Tryz.underlying31
 a24:=Tryz.isAgg31
 z24:=Tryz.sizeOf31
 v24:=Tryz.zeroValue31
 t26:=Tryz.underlying9
 a26:=Tryz.isAgg9
 z26:=Tryz.sizeOf9
 v26:=Tryz.zeroValue9
 t28:=Tryz.underlying330
 a28:=Tryz.isAgg330
 z28:=Tryz.sizeOf330
 v28:=Tryz.zeroValue330
 i26:=by kernel_rfl }
def Ti.sort230_ren:Go.Shelf.Ren:=⟨fun | 6 => 230 | 8 => 271 | 9 => 274 | 19 => 310 | 20 => 174 | 21 => 311 | 22 => 312 | 23 => 313 | 24 => 314 | 25 => 315 | 26 => 316 | 27 => 317 | 28 => 318 | 29 => 319 | 36 => 353 | 31 => 348 | 32 => 349 | 37 => 354 | 38 => 355 | 39 => 356 | 41 => 376 | n => n,fun | 27 => 31 | 29 => 9 | 3 => 3 | 32 => 46 | 26 => 31 | 0 => 0 | 44 => 288 | 46 => 23 | 4 => 4 | 36 => 449 | 35 => 448 | 41 => 354 | 5 => 5 | 9 => 9 | 53 => 484 | 57 => 487 | 63 => 500 | 64 => 501 | n => n,fun | n => n⟩
theorem Ti.sort230:Go.Proofs.SlLaysM.n6 Tryz.prog Ti.sort230_ren:={
 mixed:=by kernel_rfl
 f6:=⟨Tryz.f230.name,by decide,Tryz.func230.trans (congrArg some (by kernel_rfl))⟩
 f8:=Tryz.func271.trans (congrArg some (by kernel_rfl))
 f9:=⟨Tryz.f274.name,by decide,Tryz.func274.trans (congrArg some (by kernel_rfl))⟩
 f19:=Tryz.func310.trans (congrArg some (by kernel_rfl))
 f20:=Tryz.func174.trans (congrArg some (by kernel_rfl))
 f21:=⟨Tryz.f311.name,by decide,Tryz.func311.trans (congrArg some (by kernel_rfl))⟩
 f22:=⟨Tryz.f312.name,by decide,Tryz.func312.trans (congrArg some (by kernel_rfl))⟩
 f23:=⟨Tryz.f313.name,by decide,Tryz.func313.trans (congrArg some (by kernel_rfl))⟩
 f24:=⟨Tryz.f314.name,by decide,Tryz.func314.trans (congrArg some (by kernel_rfl))⟩
 f25:=⟨Tryz.f315.name,by decide,Tryz.func315.trans (congrArg some (by kernel_rfl))⟩
 f26:=⟨Tryz.f316.name,by decide,Tryz.func316.trans (congrArg some (by kernel_rfl))⟩
 f27:=⟨Tryz.f317.name,by decide,Tryz.func317.trans (congrArg some (by kernel_rfl))⟩
 f28:=⟨Tryz.f318.name,by decide,Tryz.func318.trans (congrArg some (by kernel_rfl))⟩
 f29:=⟨Tryz.f319.name,by decide,Tryz.func319.trans (congrArg some (by kernel_rfl))⟩
 f31:=Tryz.func348.trans (congrArg some (by kernel_rfl))
 f32:=Tryz.func349.trans (congrArg some (by kernel_rfl))
 f36:=⟨Tryz.f353.name,by decide,Tryz.func353.trans (congrArg some (by kernel_rfl))⟩
 f37:=⟨Tryz.f354.name,by decide,Tryz.func354.trans (congrArg some (by kernel_rfl))⟩
 f38:=⟨Tryz.f355.name,by decide,Tryz.func355.trans (congrArg some (by kernel_rfl))⟩
 f39:=⟨Tryz.f356.name,by decide,Tryz.func356.trans (congrArg some (by kernel_rfl))⟩
 f41:=⟨Tryz.f376.name,by decide,Tryz.func376.trans (congrArg some (by kernel_rfl))⟩
 t0:=Tryz.underlying0
 a0:=Tryz.isAgg0
 z0:=Tryz.sizeOf0
 v0:=Tryz.zeroValue0
 t3:=Tryz.underlying3
 a3:=Tryz.isAgg3
 z3:=Tryz.sizeOf3
 v3:=Tryz.zeroValue3
 t4:=Tryz.underlying4
 a4:=Tryz.isAgg4
 z4:=Tryz.sizeOf4
 v4:=Tryz.zeroValue4
 t5:=Tryz.underlying5
 a5:=Tryz.isAgg5
 z5:=Tryz.sizeOf5
 v5:=Tryz.zeroValue5
 t9:=Tryz.underlying9
 a9:=Tryz.isAgg9
 z9:=Tryz.sizeOf9
 v9:=Tryz.zeroValue9
 t26:=Tryz.underlying31
 a26:=Tryz.isAgg31
 z26:=Tryz.sizeOf31
 v26:=Tryz.zeroValue31
 t27:=Tryz.underlying31
 a27:=Tryz.isAgg31
 z27:=Tryz.sizeOf31
 v27:=Tryz.zeroValue31
 t29:=Tryz.underlying9
 a29:=Tryz.isAgg9
 z29:=Tryz.sizeOf9
 v29:=Tryz.zeroValue9
 t32:=Tryz.underlying46
 a32:=Tryz.isAgg46
 z32:=Tryz.sizeOf46
 v32:=Tryz.zeroValue46
 t35:=Tryz.underlying448
 a35:=Tryz.isAgg448
 z35:=Tryz.sizeOf448
 v35:=Tryz.zeroValue448
 t36:=Tryz.underlying449
 a36:=Tryz.isAgg449
 z36:=Tryz.sizeOf449
 v36:=Tryz.zeroValue449
 t41:=Tryz.underlying354
 a41:=Tryz.isAgg354
 z41:=Tryz.sizeOf354
 v41:=Tryz.zeroValue354
 t44:=Tryz.underlying288
 a44:=Tryz.isAgg288
 z44:=Tryz.sizeOf288
 v44:=Tryz.zeroValue288
 t46:=Tryz.underlying23
 a46:=Tryz.isAgg23
 z46:=Tryz.sizeOf23
 v46:=Tryz.zeroValue23
 t53:=Tryz.underlying484
 a53:=Tryz.isAgg484
 z53:=Tryz.sizeOf484
 v53:=Tryz.zeroValue484
 t57:=Tryz.underlying487
 a57:=Tryz.isAgg487
 z57:=Tryz.sizeOf487
 v57:=Tryz.zeroValue487
 t63:=Tryz.underlying500
 a63:=Tryz.isAgg500
 z63:=Tryz.sizeOf500
 v63:=Tryz.zeroValue500
 t64:=Tryz.underlying501
 a64:=Tryz.isAgg501
 z64:=Tryz.sizeOf501
 v64:=Tryz.zeroValue501 }
def Ti.keys196_ren:Go.Shelf.Ren:=⟨fun | 7 => 196 | 10 => 251 | n => n,fun | 23 => 271 | 26 => 9 | 3 => 23 | 28 => 330 | 0 => 0 | 27 => 329 | 33 => 133 | 4 => 4 | n => n,fun | n => n⟩
theorem Ti.keys196:Go.Proofs.SlLaysZ.n7 Tryz.prog Ti.keys196_ren:={
 mixed:=by kernel_rfl
 f7:=⟨Tryz.f196.name,by decide,Tryz.func196.trans (congrArg some (by kernel_rfl))⟩
 f10:=⟨Tryz.f251.name,by decide,Tryz.func251.trans (congrArg some (by kernel_rfl))⟩
 t0:=Tryz.underlying0
 a0:=Tryz.isAgg0
 z0:=Tryz.sizeOf0
 v0:=Tryz.zeroValue0
 t4:=Tryz.underlying4
 a4:=Tryz.isAgg4
 z4:=Tryz.sizeOf4
 v4:=Tryz.zeroValue4
 t23:=Tryz.underlying271
 a23:=Tryz.isAgg271
 z23:=Tryz.sizeOf271
 v23:=Tryz.zeroValue271
 t26:=Tryz.underlying9
 a26:=Tryz.isAgg9
 z26:=Tryz.sizeOf9
 v26:=Tryz.zeroValue9
 t27:=Tryz.underlying329
 a27:=Tryz.isAgg329
 z27:=Tryz.sizeOf329
 v27:=Tryz.zeroValue329
 t28:=Tryz.underlying330
 a28:=Tryz.isAgg330
 z28:=Tryz.sizeOf330
 v28:=Tryz.zeroValue330
 t33:=Tryz.underlying133
 a33:=Tryz.isAgg133
 z33:=Tryz.sizeOf133
 v33:=Tryz.zeroValue133 }
theorem Ti.sorts169 (m:Nat):AnyZ.SortsIn Tryz.prog Ti.sorted169_ren Fence.wide m:=
 ⟨fun blk off cap ss W hH hblk hsz => callsIn_wide.2 (AnyM.slices_Sort_string Ti.sort230 blk off cap ss W hH hblk hsz),
  fun p cap W => callsIn_wide.2 (AnyM.slices_Sort_string_none Ti.sort230 p cap W)⟩
theorem Ti.maps_Keys_170 (mb:Option Nat) (W:World):CallsIn Fence.wide 5 Tryz.prog 170 #[.map mb] W fun e w' => e = .returned (.func (.func 231) #[] #[.pointer (some ⟨W.heap.size,0,none⟩)]) ∧ w' = W.alloc (.cells #[.map mb] 179):=
 AnyZ.keys_in Ti.keys170 Fence.wide 5 trivial rfl mb W
theorem Ti.slices_Sorted_keys_169_170 {H:Type} (b nn:Nat) (D0:DataW H) (R:Value → Option (DataW H × List MemPlace)) (w:World) (hown:w.ownsMap Tryz.prog 9 R b nn D0) (hmax:Maps.size D0 ≤ maxLen) (hbytes:Maps.size D0 * 16 ≤ 140737488355328) :
 CallsIn Fence.wide 5 Tryz.prog 169 #[.func (.func 231) #[] #[.pointer (some ⟨w.heap.size,0,none⟩)]] (w.alloc (.cells #[.map (some b)] 179)) fun e w' => ∃ (v:Value) (ss:List (List UInt8)),e = .returned v ∧ ss.Perm (strKeys D0) ∧
  w'.ownsRow (w.alloc (.cells #[.map (some b)] 179)).heap.size 9 1 v ss.length ((ss.mergeSort (fun x y => decide (x ≤ y))).map encStr) ∧ (v = .slice none 0 0 ↔ ss = []) ∧ Below (w.alloc (.cells #[.map (some b)] 179)).heap.size (w.alloc (.cells #[.map (some b)] 179)) w':=by
 have hbl:=hown.lt
 have hseq:SeqGives Fence.wide 2 Tryz.prog 231 #[.pointer (some ⟨w.heap.size,0,none⟩)] encStr (fun ss => ss.Perm (strKeys D0)) (Maps.size D0) (w.alloc (.cells #[.map (some b)] 179)):=
  AnyZ.keys_gives (ρ:=Ti.keys170_ren) { Ti.keys170 with } Fence.wide _ trivial rfl (by omega) w.heap.size b nn D0 _ (by simp) (by simp) (by
   obtain ⟨es,clock,hb,Ft,hs,hD⟩:=hown
   exact ⟨es,clock,(Below.heap_alloc _ _ b hbl).trans hb,Ft,hs,hD⟩)
 exact AnyZ.sorted_in Ti.sorted169 Fence.wide 5 trivial trivial trivial trivial rfl (by omega) (Ti.sorts169 _) (enters_of Tryz.func230 (by kernel_rfl) rfl) 231 #[.pointer (some ⟨w.heap.size,0,none⟩)] trivial (enters_of Tryz.func231 (by kernel_rfl) rfl) _ _ hmax hbytes _ hseq
theorem Ti.maps_Keys_196 (mb:Option Nat) (W:World):CallsIn Fence.wide 5 Tryz.prog 196 #[.map mb] W fun e w' => e = .returned (.func (.func 251) #[] #[.pointer (some ⟨W.heap.size,0,none⟩)]) ∧ w' = W.alloc (.cells #[.map mb] 271):=
 AnyZ.keys_in Ti.keys196 Fence.wide 5 trivial rfl mb W
theorem Ti.slices_Sorted_keys_169_196 {H:Type} (b nn:Nat) (D0:DataW H) (R:Value → Option (DataW H × List MemPlace)) (w:World) (hown:w.ownsMap Tryz.prog 9 R b nn D0) (hmax:Maps.size D0 ≤ maxLen) (hbytes:Maps.size D0 * 16 ≤ 140737488355328) :
 CallsIn Fence.wide 5 Tryz.prog 169 #[.func (.func 251) #[] #[.pointer (some ⟨w.heap.size,0,none⟩)]] (w.alloc (.cells #[.map (some b)] 271)) fun e w' => ∃ (v:Value) (ss:List (List UInt8)),e = .returned v ∧ ss.Perm (strKeys D0) ∧
  w'.ownsRow (w.alloc (.cells #[.map (some b)] 271)).heap.size 9 1 v ss.length ((ss.mergeSort (fun x y => decide (x ≤ y))).map encStr) ∧ (v = .slice none 0 0 ↔ ss = []) ∧ Below (w.alloc (.cells #[.map (some b)] 271)).heap.size (w.alloc (.cells #[.map (some b)] 271)) w':=by
 have hbl:=hown.lt
 have hseq:SeqGives Fence.wide 2 Tryz.prog 251 #[.pointer (some ⟨w.heap.size,0,none⟩)] encStr (fun ss => ss.Perm (strKeys D0)) (Maps.size D0) (w.alloc (.cells #[.map (some b)] 271)):=
  AnyZ.keys_gives (ρ:=Ti.keys196_ren) { Ti.keys196 with } Fence.wide _ trivial rfl (by omega) w.heap.size b nn D0 _ (by simp) (by simp) (by
   obtain ⟨es,clock,hb,Ft,hs,hD⟩:=hown
   exact ⟨es,clock,(Below.heap_alloc _ _ b hbl).trans hb,Ft,hs,hD⟩)
 exact AnyZ.sorted_in Ti.sorted169 Fence.wide 5 trivial trivial trivial trivial rfl (by omega) (Ti.sorts169 _) (enters_of Tryz.func230 (by kernel_rfl) rfl) 251 #[.pointer (some ⟨w.heap.size,0,none⟩)] trivial (enters_of Tryz.func251 (by kernel_rfl) rfl) _ _ hmax hbytes _ hseq
end Go.Proofs.YtclfmpieapbfnaaGreatDoor
end
