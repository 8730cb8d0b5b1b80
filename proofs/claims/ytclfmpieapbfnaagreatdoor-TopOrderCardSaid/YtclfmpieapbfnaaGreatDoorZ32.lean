/- Part 32: lemmas, no conditions. -/
import Derived.Test.YtclfmpieapbfnaaGreatDoorZ15
import Derived.Test.YtclfmpieapbfnaaGreatDoorZ18
import Derived.Test.YtclfmpieapbfnaaGreatDoorZ16
set_option maxHeartbeats 2000000
namespace Go.Proofs.YtclfmpieapbfnaaGreatDoor
set_option linter.unusedVariables false
set_option linter.unusedSimpArgs false
section
namespace Ls
open Go.RowKit B Lt Ib
def RowR (w:World) (v:Value) (xs:List L):Prop:=∃ (ps:List Lv) (A:Option Addr) (c:Nat),ps.map (·.1) = xs ∧ v = .slice A ps.length c ∧ ps.length ≤ c ∧ c ≤ maxLen ∧ Rd w 4 A ps.length (pcells ps) ∧ ∀ x ∈ ps,In w x.1 x.2
theorem RowR.of {F:Nat → Prop} {w:World} {v:Value} {xs:List L} (h:Row w F v xs):RowR w v xs:=by
 obtain ⟨ps,h1,h2,h3,h4⟩:=h
 obtain ⟨A,c,rfl,hc,hm⟩:=h2.shape
 exact ⟨ps,A,c,h1,rfl,hc,hm,h2.rd,fun x hx => (h3 x hx).1⟩
theorem RowR.at_ {w:World} {v:Value} {xs:List L} (h:RowR w v xs) {i:Nat} (hi:i < xs.length) :
 ∃ ad c u,v = .slice (some ad) xs.length c ∧ In w xs[i] u ∧ w.cell? (ad.add (i * 4)) = some (.string xs[i].1) ∧ w.cell? ⟨(ad.add (i * 4)).block,(ad.add (i * 4)).off + 1,none⟩ = some (.int .u64 xs[i].2.1) ∧
  w.cell? ⟨(ad.add (i * 4)).block,(ad.add (i * 4)).off + 2,none⟩ = some (.int .i64 xs[i].2.2.1) ∧ w.cell? ⟨(ad.add (i * 4)).block,(ad.add (i * 4)).off + 3,none⟩ = some u:=by
 obtain ⟨ps,A,c,h1,rfl,hc,hm,h2,h3⟩:=h
 have hl:xs.length = ps.length:=by rw [← h1]; simp
 obtain ⟨ad,rfl,hcell⟩:=Op.row_at (f:=fun x:Lv => cells x.1 x.2) (k:=4) h2 (fun _ _ => rfl) rfl (i:=i) (by omega)
 have hx:xs[i] = (ps[i]'(by omega)).1:=by
  have:xs[i]? = (ps.map (·.1))[i]?:=by rw [h1]
  rw [List.getElem?_map,List.getElem?_eq_getElem hi,List.getElem?_eq_getElem (show i < ps.length by omega)] at this
  simpa using this
 have g1:=h3 _ (List.getElem_mem (show i < ps.length by omega))
 have c0:=hcell 0 (by omega)
 have c1:=hcell 1 (by omega)
 have c2:=hcell 2 (by omega)
 have c3:=hcell 3 (by omega)
 rw [add_field _ _ _ (by omega)] at c1 c2 c3
 rw [hx]
 exact ⟨ad,c,(ps[i]'(by omega)).2,by rw [hl],g1,c0,c1,c2,c3⟩
end Ls
end
section
namespace La
open Go.RowKit B Lt Ib Ls
def AllOut (w:World) (xs:List L) (e:Ending) (w':World):Prop:=∃ v G,e = .returned v ∧ Row w' G v xs ∧ (∀ k,G k → w.heap.size ≤ k) ∧ Upd No w w'
theorem AllOut.of {w:World} {xs:List L} {e:Ending} {w':World} (h:∃ v G,e = .returned v ∧ Row w' G v xs ∧ (∀ k,G k → w.heap.size ≤ k) ∧ Upd No w w'):AllOut w xs e w':=h
theorem Row.nil (w:World) (F:Nat → Prop):Row w F (.slice none 0 0) []:=⟨[],rfl,Sl.nil _ _ _ _,fun x hx => (by cases hx),fun k hk => by simp [Value.ownBlock] at hk⟩
set_option maxRecDepth 100000 in
theorem all_ (v:Value) (xs:List L) (F:Nat → Prop) (w:World) (hx:Row w F v xs) (hsm:∀ x ∈ xs,x.2.2.2.length ≤ 1000000) (hn:xs.length ≤ 1000000) :
 Calls Tryz.prog 61 #[v] w fun e w' => AllOut w xs e w':=by
 obtain ⟨A,c,hv,hc,hcm⟩:=hx.len
 subst hv
 simp only [maxLen] at hcm
 go_enter Tryz.func61,Tryz.ntmps61
 go_wp2_with (fail)
 go_loopw [3,8] (fun v3 v8 W => ∃ j:Nat,j ≤ xs.length ∧ v8 = .int .i64 j ∧ Hid (∃ G,Row W G v3 (xs.take j) ∧ (∀ k,G k → w.heap.size ≤ k ∧ k < W.heap.size) ∧ Upd No w W)) (fun _ v8 _ => xs.length - (intOf v8).toNat)
 case atStart => exact ⟨0,by omega,rfl,hid ⟨No,Row.nil _ _,fun k hk => hk.elim,Upd.refl _ _⟩⟩
 case round =>
  obtain ⟨j,hj,rfl,hH⟩:=hrel
  by_cases hlt:j < xs.length
  · obtain ⟨G,hR,hG,hu⟩:=hH.out
    obtain ⟨ps,hps,hs,hin,hvG⟩:=hR
    obtain ⟨A3,c3,rfl,hc3,hcm3⟩:=hs.shape
    have hpl:ps.length = j:=by
     have:=congrArg List.length hps
     simp at this
     omega
    subst hpl
    obtain ⟨ad,c',ux,e1,i1,x0,x1,x2,x3⟩:=RowR.at_ (RowR.of (hx.upd hu (fun _ _ => no_ _))) hlt
    simp only [Value.slice.injEq,true_and] at e1
    obtain ⟨rfl,rfl⟩:=e1
    have hj1:(0:Int) ≤ (ps.length:Int):=by omega
    have hj2:(ps.length:Int) < (xs.length:Int):=by omega
    have hxs:=hsm _ (List.getElem_mem hlt)
    have htk:xs.take (ps.length + 1) = ps.map (·.1) ++ [xs[ps.length]]:=by rw [List.take_succ_eq_append_getElem hlt,hps]
    generalize xs[ps.length] = x at *
    have HT:=hid htk
    have hal:Upd No wr (wr.alloc (.cells #[.string x.1,.int .u64 x.2.1,.int .i64 x.2.2.1,ux] 60)):=(Upd.refl _ _).alloc _
    have HC:=hid (copy_ x ux _ (i1.upd hal (fun _ _ => no_ _)) hxs)
    unfold val at HC
    have hux:=In.one i1
    have i1':=i1
    obtain ⟨Ax,cx,hue,_⟩:=i1'
    subst hue
    clear htk i1
    go_wp2_with (fail)
    generalize wr.alloc (.cells #[.string x.1,.int .u64 x.2.1,.int .i64 x.2.2.1,.slice Ax x.2.2.2.length cx] 60) = w1 at *
    refine Calls.mono HC.out ?_
    rintro e w2 ⟨v3,rfl,hx3,hu3,hf3⟩
    unfold val
    have hw2:=hal.next hu3
    have s3:=hs.upd hw2 (fun _ _ => no_ _)
    have hle1:ps.length + 1 ≤ 9223372036854775807:=by omega
    have hle2:(ps.length + 1) * 56 ≤ 140737488355328:=by omega
    have HX3:=hid hx3
    have HF3:=hid hf3
    have hsz1:=hal.size
    clear hx3 hf3 x0 x1 x2 x3 hux
    go_wp2_with (at_builtin; go_must (refine ap_sl 0 rfl (.tmp 12) (.tmp 15) 52 60 (.agg #[.string ⟨#[]⟩,.int .u64 0,.int .i64 0,.slice none 0 0]) 4 56 rfl Tryz.underlying52 lt_info rfl (by omega) (.slice A3 ps.length c3) ps.length (pcells ps) (some ⟨w2.heap.size,0,none⟩) 1 1 (cells x v3) rfl rfl (s3.alloc _) (Rd_lit w2 _ 4 1 (cells x v3) rfl) (cells_one HX3.out) hle1 hle2 (Nat.zero_le _) ?_); intro A4 c4 w4 ho4 hg4 hat4)
    have hR4:=Row.push hs hin hvG (HX3.out.upd ((Upd.refl No w2).alloc _) (fun _ _ => no_ _)) (fun k hk => ⟨by have:=(HF3.out k hk).1; omega,(HF3.out k hk).2.elim fun cs hB => ⟨cs,hB.alloc _⟩⟩) (hw2.alloc _) ho4 hg4 hat4
    rw [← HT.out] at hR4
    have hsz2:=hw2.size
    have hsz3:=hg4.size
    simp at hsz3
    have HH:=hid (show ∃ G,Row w4 G (.slice A4 (ps.length + 1) c4) (xs.take (ps.length + 1)) ∧ (∀ k,G k → w.heap.size ≤ k ∧ k < w4.heap.size) ∧ Upd No w w4 from
     ⟨_,hR4,fun k hk => by
      have hsz0:=hu.size
      rcases hk with hk | hk | hk
      · have:=hG k hk
        omega
      · obtain ⟨h1,cs,hB⟩:=HF3.out k hk
        have:=hB.lt
        omega
      · have h1:=(ho4.lt k hk).2
        rcases hat4 k hk with h | h
        · have:=hG k (hvG k h)
          omega
        · simp at h
          omega,
      (hu.next (hw2.alloc _)).trans hg4 (fun i hi hk => by have:=(hG i (hvG i hk)).1; omega)⟩)
    clear hR4 ho4 hg4 hat4 hs hin hvG hG hu s3 hw2 hal hu3
    go_wp2
    go_roundw
    case rel => exact ⟨ps.length + 1,by omega,by go_num,HH⟩
    case measure => simp [intOf]; omega
  · obtain rfl:j = xs.length:=by omega
    obtain ⟨G,hR,hG,hu⟩:=hH.out
    rw [List.take_length] at hR
    have HO:=hid (show ∃ G,Row wr G _ xs ∧ (∀ k,G k → w.heap.size ≤ k) ∧ Upd No w wr from ⟨G,hR,fun k hk => (hG k hk).1,hu⟩)
    clear hR hG hu
    go_wp2
    go_ret
    obtain ⟨G,h1,h2,h3⟩:=HO.out
    exact .of ⟨_,G,rfl,h1,h2,h3⟩
theorem iall (p:Nat) (xs:List L) (F:Nat → Prop) (w:World) (h:Ib w F p xs) (hsm:∀ x ∈ xs,x.2.2.2.length ≤ 1000000) (hn:xs.length ≤ 1000000) :
 Calls Tryz.prog 13 #[.pointer (some ⟨p,0,none⟩)] w fun e w' => AllOut w xs e w':=by
 obtain ⟨v,h1,h2,h3,h4⟩:=h
 have HC:=hid (all_ v xs F w h2 hsm hn)
 obtain ⟨A,c,rfl,hc,hm⟩:=h2.len
 simp only [maxLen] at hm
 have hc0:=h1.cell 0
 simp at hc0
 go_enter Tryz.func13,Tryz.ntmps13
 go_wp2_with (fail)
 refine Calls.mono HC.out ?_
 rintro e w' ⟨v',G,rfl,g1,g2,g3⟩
 go_wp2
 go_ret
 exact .of ⟨v',G,rfl,g1,g2,g3⟩
end La
end
