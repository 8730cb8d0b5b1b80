/- Part 13: lemmas, no conditions. -/
import Derived.Test.YtclfmpieapbfnaaGreatDoorZ12
import Derived.Test.YtclfmpieapbfnaaGreatDoorProg
set_option maxHeartbeats 2000000
set_option linter.unusedVariables false
set_option linter.unusedSimpArgs false
section
namespace Go.Proofs.YtclfmpieapbfnaaGreatDoor.Ws
open Go.RowKit B Df
section
variable {q:Int → Bool} {xs:List Int} {r:Int} {A:Option Addr} {c:Nat} {w:World}
theorem u_idxf (b:Nat) (hr:Rd w 1 A xs.length (xs.map fun x => (.int .u64 x))) (hn:xs.length ≤ 9223372036854775807) (hR:Hid (IxR q xs r))
 (hcl:Hid (∀ x ∈ xs,Calls Tryz.prog 119 #[(.int .u64 x),.pointer (some ⟨b,0,none⟩)] w fun e w' => e = .returned (.bool (q x)) ∧ w = w')) :
 Calls Tryz.prog 189 #[.slice A xs.length c,.func (.func 119) #[] #[.pointer (some ⟨b,0,none⟩)]] w fun e w' => e = .returned (.int .i64 r) ∧ w = w':=by
 go_enter Tryz.func189,Tryz.ntmps189
 go_wp2_with (fail)
 go_loop [8] (fun v8 => ∃ j:Nat,j ≤ xs.length ∧ v8 = .int .i64 j ∧ Hid (∀ i (hi:i < xs.length),i < j → q xs[i] = false)) (fun v8 => xs.length - (intOf v8).toNat)
 case atStart => exact ⟨0,by omega,rfl,hid fun i _ h => by omega⟩
 case round =>
  obtain ⟨j,hj,rfl,hH⟩:=hrel
  by_cases hlt:j < xs.length
  · obtain ⟨ad,u,rfl,hu,hc⟩:=hr.at_ hlt
    rw [List.getElem?_map,List.getElem?_eq_getElem hlt] at hu
    simp only [Option.map_some,Option.some.injEq] at hu
    subst hu
    have HC:=hid (hcl.out _ (List.getElem_mem hlt))
    have HN:Hid (q xs[j] = false → ∀ i (hi:i < xs.length),i < j + 1 → q xs[i] = false):=hid fun h i hi hij => by
     by_cases h':i < j
     · exact hH.out i hi h'
     · obtain rfl:i = j:=by omega
       exact h
    have HY:Hid (q xs[j] = true → r = (j:Int)):=hid fun h => hR.out.at_ hlt h hH.out
    have hj2:(j:Int) < (xs.length:Int):=by omega
    generalize xs[j] = x at *
    rcases hq:q x with _ | _
    · rw [hq] at HC HN
      replace HN:=hid (HN.out rfl)
      clear HY hq
      go_wp2_with (fail)
      refine Calls.mono HC.out ?_
      rintro e w' ⟨rfl,rfl⟩
      go_wp2
      go_round
      case rel => exact ⟨j + 1,by omega,by go_num,HN⟩
      case measure => simp [intOf]; omega
    · rw [hq] at HC HY
      replace HY:=hid (HY.out rfl)
      clear HN hq
      go_wp2_with (fail)
      refine Calls.mono HC.out ?_
      rintro e w' ⟨rfl,rfl⟩
      go_wp2
      go_ret
      exact ⟨congrArg (fun z => Ending.returned (.int .i64 z)) HY.out.symm,rfl⟩
  · obtain rfl:j = xs.length:=by omega
    have HY:Hid (r = -1):=hid (hR.out.end_ hH.out)
    go_wp2
    go_ret
    exact ⟨congrArg (fun z => Ending.returned (.int .i64 z)) HY.out.symm,rfl⟩
theorem u_idx (v:Int) (hr:Rd w 1 A xs.length (xs.map fun x => (.int .u64 x))) (hn:xs.length ≤ 9223372036854775807) (hR:Hid (IxR (fun x => decide (v = x)) xs r)) :
 Calls Tryz.prog 168 #[.slice A xs.length c,(.int .u64 v)] w fun e w' => e = .returned (.int .i64 r) ∧ w = w':=by
 go_enter Tryz.func168,Tryz.ntmps168
 go_wp2_with (fail)
 go_loop [8] (fun v8 => ∃ j:Nat,j ≤ xs.length ∧ v8 = .int .i64 j ∧ Hid (∀ i (hi:i < xs.length),i < j → decide (v = xs[i]) = false)) (fun v8 => xs.length - (intOf v8).toNat)
 case atStart => exact ⟨0,by omega,rfl,hid fun i _ h => by omega⟩
 case round =>
  obtain ⟨j,hj,rfl,hH⟩:=hrel
  by_cases hlt:j < xs.length
  · obtain ⟨ad,u,rfl,hu,hc⟩:=hr.at_ hlt
    rw [List.getElem?_map,List.getElem?_eq_getElem hlt] at hu
    simp only [Option.map_some,Option.some.injEq] at hu
    subst hu
    have HN:Hid (¬ v = xs[j] → ∀ i (hi:i < xs.length),i < j + 1 → decide (v = xs[i]) = false):=hid fun h i hi hij => by
     by_cases h':i < j
     · exact hH.out i hi h'
     · obtain rfl:i = j:=by omega
       simpa using h
    have HY:Hid (v = xs[j] → r = (j:Int)):=hid fun h => hR.out.at_ hlt (by simpa using h) hH.out
    have hj2:(j:Int) < (xs.length:Int):=by omega
    generalize xs[j] = x at *
    by_cases hv:v = x
    · subst hv
      replace HY:=hid (HY.out rfl)
      clear HN
      go_wp2
      go_ret
      exact ⟨congrArg (fun z => Ending.returned (.int .i64 z)) HY.out.symm,rfl⟩
    · replace HN:=hid (HN.out hv)
      have n1:(v == x) = false:=by simp [hv]
      clear HY hv
      go_wp2
      go_round
      case rel => exact ⟨j + 1,by omega,by go_num,HN⟩
      case measure => simp [intOf]; omega
  · obtain rfl:j = xs.length:=by omega
    have HY:Hid (r = -1):=hid (hR.out.end_ hH.out)
    go_wp2
    go_ret
    exact ⟨congrArg (fun z => Ending.returned (.int .i64 z)) HY.out.symm,rfl⟩
theorem u_any (v:Int) (hr:Rd w 1 A xs.length (xs.map fun x => (.int .u64 x))) (hn:xs.length ≤ 9223372036854775807) :
 Calls Tryz.prog 97 #[.slice A xs.length c,(.int .u64 v)] w fun e w' => e = .returned (.bool (xs.any fun x => decide (v = x))) ∧ w = w':=by
 obtain ⟨r,hR⟩:=IxR.ex (fun x => decide (v = x)) xs
 have HC:=u_idx (c:=c) v hr hn (hid hR)
 have ha:=hR.any
 rcases hv:xs.any (fun x => decide (v = x)) with _ | _
 · have h0:decide (0 ≤ r) = false:=decide_eq_false fun h => by rw [ha.1 h] at hv; cases hv
   clear ha hv hR
   go_enter Tryz.func97,Tryz.ntmps97
   go_wp2_with (fail)
   refine Calls.mono HC ?_
   rintro e w' ⟨rfl,rfl⟩
   go_wp2
   go_ret
   exact ⟨congrArg (fun z => Ending.returned (.bool z)) (by first | rfl | exact h0),rfl⟩
 · have h0:0 ≤ r:=ha.2 hv
   have h1:decide (0 ≤ r) = true:=decide_eq_true h0
   clear ha hv hR
   go_enter Tryz.func97,Tryz.ntmps97
   go_wp2_with (fail)
   refine Calls.mono HC ?_
   rintro e w' ⟨rfl,rfl⟩
   go_wp2
   go_ret
   exact ⟨congrArg (fun z => Ending.returned (.bool z)) (by first | rfl | exact h1),rfl⟩
theorem u_zero (w:World):(zeroValue 23).run Tryz.prog w = .ok (.int .u64 0) w:=by kernel_rfl
theorem u_del (base b:Nat) (hs:Sl w base 23 1 (.slice A xs.length c) xs.length (xs.map fun x => (.int .u64 x))) (hn:xs.length ≤ 9223372036854775807)
 (hcl:Hid (∀ W,Upd (fun k => (Value.slice A xs.length c).ownBlock = some k) w W → ∀ x ∈ xs,Calls Tryz.prog 119 #[(.int .u64 x),.pointer (some ⟨b,0,none⟩)] W fun e w' => e = .returned (.bool (q x)) ∧ W = w')) :
 Calls Tryz.prog 118 #[.slice A xs.length c,.func (.func 119) #[] #[.pointer (some ⟨b,0,none⟩)]] w fun e w' => e = .returned (.slice A (xs.filter fun x => !q x).length c) ∧
  Sl w' base 23 1 (.slice A (xs.filter fun x => !q x).length c) (xs.filter fun x => !q x).length ((xs.filter fun x => !q x).map fun x => (.int .u64 x)) ∧ Upd (fun k => (Value.slice A xs.length c).ownBlock = some k) w w':=by
 obtain ⟨r,hR⟩:=IxR.ex q xs
 have HC:=hid (u_idxf (c:=c) b (Sl.rd hs) hn (hid hR) (hid (hcl.out w (Upd.refl _ _))))
 by_cases hr1:r = -1
 · subst hr1
   have hf:xs.filter (fun x => !q x) = xs:=by
    rw [List.filter_eq_self]
    intro x hx
    rcases hR with ⟨_,h⟩ | ⟨k,hk,h,_⟩
    · rw [h x hx]; rfl
    · omega
   rw [hf]
   have hS:=hid hs
   clear hf hs hR
   go_enter Tryz.func118,Tryz.ntmps118
   go_wp2_with (fail)
   refine Calls.mono HC.out ?_
   rintro e w' ⟨rfl,rfl⟩
   go_wp2
   go_ret
   exact ⟨rfl,hS.out,Upd.refl _ _⟩
 · obtain ⟨j0,rfl,hj0,hq0,hb0⟩:=hR.pos hr1
   rcases hs.2 with ⟨_,h⟩ | ⟨g,off,cap,cur0,hv,hbg,hB0,hnc,hcm,hroom,hc0⟩
   · omega
   simp only [Value.slice.injEq,true_and] at hv
   obtain ⟨rfl,rfl⟩:=hv
   have hown:(Value.slice (some ⟨g,off,none⟩) xs.length c).ownBlock = some g:=rfl
   simp only [hown,Option.some.injEq] at hcl ⊢
   have hc0':∀ t (ht:t < xs.length),cur0[off + t]? = some ((.int .u64 xs[t])):=fun t ht => hc0 t _ (by rw [List.getElem?_map,List.getElem?_eq_getElem ht]; rfl)
   have HD0:Hid (Dl q (fun x => (.int .u64 x)) xs off j0 (j0 + 1) cur0):=hid (Dl.start hj0 hq0 hb0 hc0' (by omega))
   have HB0:=hid hB0
   have hne:((j0:Int) == -1) = false:=by simp
   obtain ⟨sz,hsz⟩:∃ sz,sz = cur0.size:=⟨_,rfl⟩
   have HSZ:=hid hsz
   rw [← hsz] at hroom
   simp only [Nat.mul_one] at hroom
   simp only [maxLen] at hcm
   clear hR hs hr1 hb0 hc0 hc0' hB0 hsz hown hq0
   go_enter Tryz.func118,Tryz.ntmps118
   go_wp2_with (fail)
   refine Calls.mono HC.out ?_
   rintro e w' ⟨rfl,rfl⟩
   go_wp2_with (fail)
   go_loopw [5,6] (fun v5 v6 W => ∃ (i j:Nat) (cur:Array Value),v5 = .int .i64 i ∧ v6 = .int .i64 j ∧ j ≤ xs.length ∧ Hid (Dl q (fun x => (.int .u64 x)) xs off i j cur) ∧ Hid (Blk W g 23 cur ∧ cur.size = sz) ∧ Hid (Upd (fun k => g = k) w W)) (fun _ v6 _ => xs.length - (intOf v6).toNat)
   case atStart => exact ⟨j0,j0 + 1,cur0,rfl,by go_num,by omega,HD0,hid ⟨HB0.out,HSZ.out.symm⟩,hid (Upd.refl _ _)⟩
   case round =>
    obtain ⟨i,j,cur,rfl,rfl,hj,hD,hB,hU⟩:=hrel
    have hij:=hD.out.lt
    by_cases hlt:j < xs.length
    · have hj2:(j:Int) < (xs.length:Int):=by omega
      have cj:=hB.out.1.cell (off + j)
      rw [hD.out.hi j hlt (Nat.le_refl _)] at cj
      have HX:=hid (hcl.out wr hU.out _ (List.getElem_mem hlt))
      rcases hq:q xs[j] with _ | _
      · have hci:off + i < cur.size:=by have:=hB.out.2; omega
        have ci:=hB.out.1.cell (off + i)
        rw [Array.getElem?_eq_getElem hci] at ci
        have fi:=hB.out.1.free (off + i)
        have HE:Hid (∃ cur',Dl q (fun x => (.int .u64 x)) xs off (i + 1) (j + 1) cur' ∧ (Blk (wr.setCell ⟨g,off + i,none⟩ ((.int .u64 xs[j]))) g 23 cur' ∧ cur'.size = sz) ∧ Upd (fun k => g = k) w (wr.setCell ⟨g,off + i,none⟩ ((.int .u64 xs[j])))):=
         hid ⟨_,hD.out.keep hlt hq,⟨hB.out.1.put (off + i) _,by simpa using hB.out.2⟩,hU.out.set (.inl rfl) _⟩
        rw [hq] at HX
        clear hq
        generalize xs[j] = x at *
        generalize cur[off + i] = u at *
        go_wp2_with (fail)
        refine Calls.mono HX.out ?_
        rintro e w' ⟨rfl,rfl⟩
        go_wp2
        obtain ⟨cur',h1,h2,h3⟩:=HE.out
        go_roundw
        case rel => exact ⟨i + 1,j + 1,cur',by go_num,by go_num,by omega,hid h1,hid h2,hid h3⟩
        case measure => simp [intOf]; omega
      · have HE:Hid (Dl q (fun x => (.int .u64 x)) xs off i (j + 1) cur):=hid (hD.out.skip hlt hq)
        rw [hq] at HX
        clear hq
        generalize xs[j] = x at *
        go_wp2_with (fail)
        refine Calls.mono HX.out ?_
        rintro e w' ⟨rfl,rfl⟩
        go_wp2
        go_roundw
        case rel => exact ⟨i,j + 1,cur,rfl,by go_num,by omega,HE,hB,hU⟩
        case measure => simp [intOf]; omega
    · obtain rfl:j = xs.length:=by omega
      have hclr:∀ ty,(Builtin.clear_ #[210] ty #[.slice (some ⟨g,off + i,none⟩) (xs.length - i) (c - i)]).run Tryz.prog wr = .ok (.tuple #[]) (wr.setCells g (off + i) (List.replicate (xs.length - i) (.int .u64 0))):=
       fun ty => Go.Lib.run_clear_slice wr _ _ ty _ Tryz.underlying210 u_zero rfl rfl g (off + i) _ _ (by omega)
        (fun t ht => by
         have:=hB.out.2
         rw [hB.out.1.cell,Array.getElem?_eq_getElem (by omega)]; rfl) (fun t ht => hB.out.1.free _)
      have HE:Hid (i = (xs.filter fun x => !q x).length ∧ Sl (wr.setCells g (off + i) (List.replicate (xs.length - i) (.int .u64 0))) base 23 1 (.slice (some ⟨g,off,none⟩) (xs.filter fun x => !q x).length c) (xs.filter fun x => !q x).length ((xs.filter fun x => !q x).map fun x => (.int .u64 x)) ∧ Upd (fun k => g = k) w (wr.setCells g (off + i) (List.replicate (xs.length - i) (.int .u64 0)))):=by
       have hl:=hD.out.len
       have hlo:=hD.out.lo
       simp only [List.take_length] at hl hlo
       have hle:=List.length_filter_le (fun x => !q x) xs
       obtain ⟨cs',b1,b2,b3,_⟩:=hB.out.1.puts (List.replicate (xs.length - i) (.int .u64 0)) (off + i) wr cur (by have:=hB.out.2; simp; omega)
       refine hid ⟨hl,⟨by simp,.inr ⟨g,off,c,cs',rfl,hbg,b1,by omega,by simp only [maxLen]; omega,by have:=hB.out.2; omega,fun t u hu => ?_⟩⟩,hU.out.puts _ _ (.inl rfl)⟩
       rw [List.getElem?_map] at hu
       obtain ⟨y,hy,rfl⟩:=Option.map_eq_some_iff.1 hu
       obtain ⟨ht,rfl⟩:=List.getElem?_eq_some_iff.1 hy
       rw [b3 (off + t) (.inl (by omega))]
       exact hlo t ht
      clear hD hB hU
      go_wp2
      go_ret
      exact ⟨congrArg (fun z => Ending.returned (.slice (some ⟨g,off,none⟩) z c)) HE.out.1,HE.out.2⟩
end
theorem u_has {xs:List Int} {A:Option Addr} {c:Nat} {w:World} (v:Int) (hr:Rd w 1 A xs.length (xs.map fun x => (.int .u64 x))) (hn:xs.length ≤ 9223372036854775807) :
 Calls Tryz.prog 97 #[.slice A xs.length c,.int .u64 v] w fun e w' => e = .returned (.bool (decide (v ∈ xs))) ∧ w = w':=by
 have h:decide (v ∈ xs) = xs.any fun x => decide (v = x):=by rw [Bool.eq_iff_iff]; simp
 rw [h]
 exact u_any v hr hn
end Go.Proofs.YtclfmpieapbfnaaGreatDoor.Ws
end
