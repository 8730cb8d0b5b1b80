/-
  Part 15 of the proof of the statement that the last part ends in: lemmas, no conditions of their own.
-/
import Derived.Test.YtclfmpieapbfnaaGreatDoorZ14
set_option linter.unusedVariables false
set_option linter.unusedSimpArgs false
section
namespace Go.Proofs.YtclfmpieapbfnaaGreatDoor.Ib
open Go.RowKit B Lt
def Ib (w:World) (F:Nat → Prop) (p:Nat) (xs:List L):Prop:=
 ∃ v,Blk w p 155 #[v] ∧ Row w F v xs ∧ F p ∧ (∀ k,F k → k < w.heap.size)
section
variable {w w':World} {F G:Nat → Prop} {p:Nat} {xs:List L}
theorem Ib.upd (h:Ib w F p xs) (hu:Upd G w w') (hn:∀ k,F k → ¬ G k):Ib w' F p xs:=by
 obtain ⟨v,h1,h2,h3,h4⟩:=h
 exact ⟨v,h1.upd hu (hn _ h3),h2.upd hu hn,h3,fun k hk => Nat.lt_of_lt_of_le (h4 k hk) hu.size⟩
theorem Ib.lt (h:Ib w F p xs):∀ k,F k → k < w.heap.size:=by
 obtain ⟨v,h1,h2,h3,h4⟩:=h
 exact h4
end
theorem Ib.pushed {w wa w4:World} {F:Nat → Prop} {p:Nat} {v:Value} {xs:List L} {ps:List Lv} {x:L} {v3:Value} {A4:Option Addr} {c4:Nat}
 (h1:Blk w p 155 #[v]) (hps:ps.map (·.1) = xs) (hs:Sl w 0 60 4 v ps.length (pcells ps)) (hin:∀ x ∈ ps,In w x.1 x.2 ∧ ∀ k,x.2.ownBlock = some k → F k ∧ ∃ cs,Blk w k 2 cs) (hvF:∀ k,v.ownBlock = some k → F k)
 (h3:F p) (h4:∀ k,F k → k < w.heap.size) (hx3:In wa x v3) (hf3:∀ k,v3.ownBlock = some k → w.heap.size ≤ k ∧ ∃ cs,Blk wa k 2 cs) (hua:Upd No w wa)
 (ho4:Sl w4 0 60 4 (.slice A4 (ps.length + 1) c4) (ps.length + 1) (pcells ps ++ cells x v3)) (hg4:Upd (fun k => v.ownBlock = some k) wa w4)
 (hat4:∀ k,(Value.slice A4 (ps.length + 1) c4).ownBlock = some k → v.ownBlock = some k ∨ wa.heap.size ≤ k) (p4:Blk w4 p 155 #[v]) :
 ∃ F',Ib (w4.setCell ⟨p,0,none⟩ (.slice A4 (ps.length + 1) c4)) F' p (xs ++ [x]) ∧ Mv F F' w (w4.setCell ⟨p,0,none⟩ (.slice A4 (ps.length + 1) c4)):=by
 have hR:=Row.push hs hin hvF hx3 hf3 hua ho4 hg4 hat4
 have hR2:=hR.far p4 (by decide) (by decide) ((Upd.refl (fun k => k = p) w4).set1 0 (.slice A4 (ps.length + 1) c4))
 have hsz3:=hua.size
 have hsz4:=hg4.size
 have hz:∀ k,k < w4.heap.size → k < (w4.setCell ⟨p,0,none⟩ (.slice A4 (ps.length + 1) c4)).heap.size:=fun k hk => by simpa [World.setCell] using hk
 refine ⟨fun k => F k ∨ v3.ownBlock = some k ∨ (Value.slice A4 (ps.length + 1) c4).ownBlock = some k,⟨.slice A4 (ps.length + 1) c4,?_,by rw [← hps]; exact hR2,.inl h3,?_⟩,⟨?_,?_⟩⟩
 · have:=p4.put 0 (.slice A4 (ps.length + 1) c4)
   simpa using this
 · rintro k (hk | hk | hk)
   · have:=h4 k hk; exact hz k (by omega)
   · obtain ⟨cs,hB⟩:=(hf3 k hk).2
     have:=hB.lt
     exact hz k (by omega)
   · exact hz k (ho4.lt k hk).2
 · exact ((hua.mono fun _ _ h => h.elim).next (hg4.mono fun k _ hk => hvF k hk)).set (.inl h3) _
 · rintro k (hk | hk | hk)
   · exact .inl hk
   · exact .inr (hf3 k hk).1
   · rcases hat4 k hk with h | h
     · exact .inl (hvF k h)
     · exact .inr (by omega)
set_option maxHeartbeats 400000 in
theorem new_ (w:World):Calls Tryz.prog 242 #[] w fun e w' => e = .returned (.pointer (some ⟨w.heap.size,0,none⟩)) ∧ Ib w' (fun k => k = w.heap.size) w.heap.size [] ∧ Upd No w w':=by
 have h:Hid (Ib (w.alloc (.cells #[.slice none 0 0] 155)) (fun k => k = w.heap.size) w.heap.size []):=
  hid ⟨_,Blk.fresh _ _ _,⟨[],rfl,Sl.nil _ _ _ _,fun x hx => (by cases hx),fun k hk => by simp [Value.ownBlock] at hk⟩,rfl,fun k hk => by subst hk; simp⟩
 have hu:Upd No w (w.alloc (.cells #[.slice none 0 0] 155)):=(Upd.refl _ _).alloc _
 go_enter Tryz.func242,Tryz.ntmps242
 go_wp2
 go_ret
 exact ⟨rfl,h.out,hu⟩
set_option maxHeartbeats 400000 in
theorem len_ (p:Nat) (xs:List L) (F:Nat → Prop) (w:World) (h:Ib w F p xs) :
 Calls Tryz.prog 19 #[.pointer (some ⟨p,0,none⟩)] w fun e w' => e = .returned (.int .i64 xs.length) ∧ w = w':=by
 obtain ⟨v,h1,h2,h3,h4⟩:=h
 obtain ⟨A,c,rfl,hc,hm⟩:=h2.len
 simp only [maxLen] at hm
 have hc0:=h1.cell 0
 simp at hc0
 go_enter Tryz.func19,Tryz.ntmps19
 go_wp2
 go_ret
 exact ⟨rfl,rfl⟩
def pushL (xs:List L) (x:L):Int × List L:=if formed x then (if xs.length < 8 then (0,xs ++ [x]) else (7,xs)) else (1,xs)
set_option maxHeartbeats 2000000 in
set_option maxRecDepth 100000 in
theorem push (p:Nat) (xs:List L) (F:Nat → Prop) (x:L) (u:Value) (w:World) (h:Ib w F p xs) (hx:In w x u) :
 Calls Tryz.prog 51 #[.pointer (some ⟨p,0,none⟩),val x u] w fun e w' => e = .returned (.int .i64 (pushL xs x).1) ∧ ∃ F',Ib w' F' p (pushL xs x).2 ∧ Mv F F' w w':=by
 have hI:=hid h
 obtain ⟨v,h1,⟨ps,hps,hs,hin,hvF⟩,h3,h4⟩:=h
 have hxl:xs.length = ps.length:=by rw [← hps]; simp
 obtain ⟨A,c,rfl,hc,hm⟩:=hs.shape
 simp only [maxLen] at hm
 have hu1:Upd No w (w.alloc (.cells #[.string x.1,.int .u64 x.2.1,.int .i64 x.2.2.1,u] 60)):=(Upd.refl _ _).alloc _
 have hbx:=Blk.fresh w 60 #[.string x.1,.int .u64 x.2.1,.int .i64 x.2.2.1,u]
 have hx1:=hx.upd hu1 (fun _ _ => no_ _)
 have HF:=hid (formed_ x u _ hx1)
 have hI1:=hid (hI.out.upd hu1 (fun _ _ => no_ _))
 have hc0:=(h1.upd hu1 (no_ _)).cell 0
 simp at hc0
 obtain ⟨y0,y1,y2,y3⟩:=box hbx
 unfold val
 unfold pushL
 by_cases hf:formed x = true
 · rw [if_pos hf]
   rw [hf] at HF
   by_cases h8:xs.length < 8
   · rw [if_pos h8]
     have h8':¬ (8:Int) ≤ (ps.length:Int):=by omega
     have hxa:x.2.2.2.length ≤ 1000000:=by
      simp [formed] at hf
      omega
     go_enter Tryz.func51,Tryz.ntmps51
     go_wp2_with (fail)
     generalize hw1:w.alloc (.cells #[.string x.1,.int .u64 x.2.1,.int .i64 x.2.2.1,u] 60) = w1 at *
     have hsz1:w.heap.size < w1.heap.size:=by rw [← hw1]; simp
     clear hw1
     unfold val at HF
     refine Calls.mono HF.out ?_
     rintro e w2 ⟨rfl,hu2⟩
     have hu12:=hu1.next hu2
     have hb2:=hbx.upd hu2 (no_ _)
     have k1:=h1.upd hu12 (no_ _)
     have k0:=k1.cell 0
     have kf:=k1.free 0
     simp at k0
     have hx2:=hx1.upd hu2 (fun _ _ => no_ _)
     have HC:=hid (copy_ x u w2.drew hx2 hxa)
     unfold val at HC
     have hsz2:=hu2.size
     clear hc0 y0 y1 y2 y3 HF hI1 hx1
     go_wp2_with (fail)
     refine wp_region_held_drew (S:=fun W => Blk W w.heap.size 60 #[.string x.1,.int .u64 x.2.1,.int .i64 x.2.2.1,u]) (by kernel_rfl) hb2.drew (fun hS => ?_)
     refine zt 0 hS ?_
     refine zt 1 hS ?_
     refine zt 2 hS ?_
     refine zt 3 hS ?_
     refine zh 5 hS (fun w hw => box hw) ?_
     refine rg_two 4 6 (by kernel_rfl) ?_ ?_
     · refine zs 4 (fun K hK => ?_)
       go_simp
       refine hK.out _ _ ((by first | exact hb2.drew | exact hbx3 | exact hbx3.alloc _)) (fun hS => ?_)
       clear hK K
       try simp only [Act.put,zA,zB,zC]
       refine zk 6 (fun K hK => ?_)
       go_simp
       refine Calls.mono HC.out ?_
       rintro e w3 ⟨v3,rfl,hx3,hu3,hf3⟩
       unfold val
       have hu3':=Upd.of_drew hu3
       have hbx3:=hb2.upd hu3' (no_ _)
       have k3:=k1.upd hu3' (no_ _)
       have c3:=k3.cell 0
       have f3:=k3.free 0
       simp at c3
       have e3:∀ o,(w3.alloc o).cell? ⟨p,0,none⟩ = some (.slice A ps.length c):=fun o => by simpa using (k3.alloc o).cell 0
       have s3:=(hs.upd hu12 (fun _ _ => no_ _)).upd hu3' (fun _ _ => no_ _)
       go_wp2_with (fail)
       refine hK.out _ _ ((by exact hbx3)) (fun hS => ?_)
       clear hK K
       try simp only [Act.put,zA,zB,zC]
       refine zk 7 (fun K hK => ?_)
       go_simp
       refine hK.out _ _ ((hbx3.alloc _)) (fun hS => ?_)
       clear hK K
       try simp only [Act.put,zA,zB,zC]
       refine zk 8 (fun K hK => ?_)
       refine wp_ap_sl 0 (.tmp 24) (.tmp 27) 52 60 (.agg #[.string ⟨#[]⟩,.int .u64 0,.int .i64 0,.slice none 0 0]) 4 56 (by rfl) Tryz.underlying52 lt_info rfl (by omega) (.slice A ps.length c) ps.length (pcells ps) (some ⟨w3.heap.size,0,none⟩) 1 1 (cells x v3) (by rfl) (by rfl) (s3.alloc _) (Rd_lit w3 _ 4 1 (cells x v3) rfl) (cells_one hx3) (by omega) (by omega) (Nat.zero_le _) ?_
       intro A4 c4 w4 ho4 hg4 hat4
       have p4:=(k3.alloc _).upd hg4 (fun h => s3.ne k3 (by decide) h)
       have f4:=p4.free 0
       have c4':=p4.cell 0
       simp at c4'
       have b4:=(hbx3.alloc _).upd hg4 (fun h => by have:=(hs.lt _ h).2; omega)
       refine hK.out _ _ ((by exact b4)) (fun hS => ?_)
       clear hK K
       try simp only [Act.put,zA,zB,zC]
       refine zt 9 hS ?_
       refine zt 10 hS ?_
       refine zk 11 (fun K hK => ?_)
       go_simp
       refine hK.out _ _ ((b4.far (by have:=h4 _ h3; simp; omega) _)) (fun hS => ?_)
       clear hK K
       try simp only [Act.put,zA,zB,zC]
       refine wpAnyH_done (by kernel_rfl) ?_ _
       have hRes:=hid (Ib.pushed h1 hps hs hin hvF h3 h4 (hx3.upd ((Upd.refl No w3).alloc _) (fun _ _ => no_ _)) (fun k hk => ⟨by have:=(hf3 k hk).1; have hz:=hu12.size; simp at this; omega,(hf3 k hk).2.elim fun cs hB => ⟨cs,hB.alloc _⟩⟩) ((hu12.next hu3').alloc _) ho4 hg4 hat4 p4)
       go_wp2
       go_ret
       exact ⟨rfl,hRes.out⟩
     · refine zs 6 (fun K hK => ?_)
       go_simp
       refine Calls.mono HC.out ?_
       rintro e w3 ⟨v3,rfl,hx3,hu3,hf3⟩
       unfold val
       have hu3':=Upd.of_drew hu3
       have hbx3:=hb2.upd hu3' (no_ _)
       have k3:=k1.upd hu3' (no_ _)
       have c3:=k3.cell 0
       have f3:=k3.free 0
       simp at c3
       have e3:∀ o,(w3.alloc o).cell? ⟨p,0,none⟩ = some (.slice A ps.length c):=fun o => by simpa using (k3.alloc o).cell 0
       have s3:=(hs.upd hu12 (fun _ _ => no_ _)).upd hu3' (fun _ _ => no_ _)
       go_wp2_with (fail)
       refine hK.out _ _ ((by exact hbx3)) (fun hS => ?_)
       clear hK K
       try simp only [Act.put,zA,zB,zC]
       refine rg_two 4 7 (by kernel_rfl) ?_ ?_
       · refine zs 4 (fun K hK => ?_)
         go_simp
         refine hK.out _ _ ((by first | exact hb2.drew | exact hbx3 | exact hbx3.alloc _)) (fun hS => ?_)
         clear hK K
         try simp only [Act.put,zA,zB,zC]
         refine zk 7 (fun K hK => ?_)
         go_simp
         refine hK.out _ _ ((hbx3.alloc _)) (fun hS => ?_)
         clear hK K
         try simp only [Act.put,zA,zB,zC]
         refine zk 8 (fun K hK => ?_)
         refine wp_ap_sl 0 (.tmp 24) (.tmp 27) 52 60 (.agg #[.string ⟨#[]⟩,.int .u64 0,.int .i64 0,.slice none 0 0]) 4 56 (by rfl) Tryz.underlying52 lt_info rfl (by omega) (.slice A ps.length c) ps.length (pcells ps) (some ⟨w3.heap.size,0,none⟩) 1 1 (cells x v3) (by rfl) (by rfl) (s3.alloc _) (Rd_lit w3 _ 4 1 (cells x v3) rfl) (cells_one hx3) (by omega) (by omega) (Nat.zero_le _) ?_
         intro A4 c4 w4 ho4 hg4 hat4
         have p4:=(k3.alloc _).upd hg4 (fun h => s3.ne k3 (by decide) h)
         have f4:=p4.free 0
         have c4':=p4.cell 0
         simp at c4'
         have b4:=(hbx3.alloc _).upd hg4 (fun h => by have:=(hs.lt _ h).2; omega)
         refine hK.out _ _ ((by exact b4)) (fun hS => ?_)
         clear hK K
         try simp only [Act.put,zA,zB,zC]
         refine zt 9 hS ?_
         refine zt 10 hS ?_
         refine zk 11 (fun K hK => ?_)
         go_simp
         refine hK.out _ _ ((b4.far (by have:=h4 _ h3; simp; omega) _)) (fun hS => ?_)
         clear hK K
         try simp only [Act.put,zA,zB,zC]
         refine wpAnyH_done (by kernel_rfl) ?_ _
         have hRes:=hid (Ib.pushed h1 hps hs hin hvF h3 h4 (hx3.upd ((Upd.refl No w3).alloc _) (fun _ _ => no_ _)) (fun k hk => ⟨by have:=(hf3 k hk).1; have hz:=hu12.size; simp at this; omega,(hf3 k hk).2.elim fun cs hB => ⟨cs,hB.alloc _⟩⟩) ((hu12.next hu3').alloc _) ho4 hg4 hat4 p4)
         go_wp2
         go_ret
         exact ⟨rfl,hRes.out⟩
       · refine zs 7 (fun K hK => ?_)
         go_simp
         refine hK.out _ _ ((hbx3.alloc _)) (fun hS => ?_)
         clear hK K
         try simp only [Act.put,zA,zB,zC]
         refine zk 4 (fun K hK => ?_)
         go_simp
         refine hK.out _ _ ((by first | exact hb2.drew | exact hbx3 | exact hbx3.alloc _)) (fun hS => ?_)
         clear hK K
         try simp only [Act.put,zA,zB,zC]
         refine zk 8 (fun K hK => ?_)
         refine wp_ap_sl 0 (.tmp 24) (.tmp 27) 52 60 (.agg #[.string ⟨#[]⟩,.int .u64 0,.int .i64 0,.slice none 0 0]) 4 56 (by rfl) Tryz.underlying52 lt_info rfl (by omega) (.slice A ps.length c) ps.length (pcells ps) (some ⟨w3.heap.size,0,none⟩) 1 1 (cells x v3) (by rfl) (by rfl) (s3.alloc _) (Rd_lit w3 _ 4 1 (cells x v3) rfl) (cells_one hx3) (by omega) (by omega) (Nat.zero_le _) ?_
         intro A4 c4 w4 ho4 hg4 hat4
         have p4:=(k3.alloc _).upd hg4 (fun h => s3.ne k3 (by decide) h)
         have f4:=p4.free 0
         have c4':=p4.cell 0
         simp at c4'
         have b4:=(hbx3.alloc _).upd hg4 (fun h => by have:=(hs.lt _ h).2; omega)
         refine hK.out _ _ ((by exact b4)) (fun hS => ?_)
         clear hK K
         try simp only [Act.put,zA,zB,zC]
         refine zt 9 hS ?_
         refine zt 10 hS ?_
         refine zk 11 (fun K hK => ?_)
         go_simp
         refine hK.out _ _ ((b4.far (by have:=h4 _ h3; simp; omega) _)) (fun hS => ?_)
         clear hK K
         try simp only [Act.put,zA,zB,zC]
         refine wpAnyH_done (by kernel_rfl) ?_ _
         have hRes:=hid (Ib.pushed h1 hps hs hin hvF h3 h4 (hx3.upd ((Upd.refl No w3).alloc _) (fun _ _ => no_ _)) (fun k hk => ⟨by have:=(hf3 k hk).1; have hz:=hu12.size; simp at this; omega,(hf3 k hk).2.elim fun cs hB => ⟨cs,hB.alloc _⟩⟩) ((hu12.next hu3').alloc _) ho4 hg4 hat4 p4)
         go_wp2
         go_ret
         exact ⟨rfl,hRes.out⟩
   · rw [if_neg h8]
     have h8':(8:Int) ≤ (ps.length:Int):=by omega
     go_enter Tryz.func51,Tryz.ntmps51
     go_wp2_with (fail)
     generalize w.alloc (.cells #[.string x.1,.int .u64 x.2.1,.int .i64 x.2.2.1,u] 60) = w1 at *
     unfold val at HF
     refine Calls.mono HF.out ?_
     rintro e w2 ⟨rfl,hu2⟩
     have hI2:=hid (hI1.out.upd hu2 (fun _ _ => no_ _))
     have k0:=(h1.upd (hu1.next hu2) (no_ _)).cell 0
     simp at k0
     go_wp2
     go_ret
     exact ⟨rfl,F,hI2.out,Mv.quiet ((hu1.next hu2).old (Nat.le_refl _))⟩
 · have hff:formed x = false:=by simpa using hf
   rw [if_neg hf]
   rw [hff] at HF
   go_enter Tryz.func51,Tryz.ntmps51
   go_wp2_with (fail)
   generalize w.alloc (.cells #[.string x.1,.int .u64 x.2.1,.int .i64 x.2.2.1,u] 60) = w1 at *
   unfold val at HF
   refine Calls.mono HF.out ?_
   rintro e w2 ⟨rfl,hu2⟩
   have hI2:=hid (hI1.out.upd hu2 (fun _ _ => no_ _))
   go_wp2
   go_ret
   exact ⟨rfl,F,hI2.out,Mv.quiet ((hu1.next hu2).old (Nat.le_refl _))⟩
end Go.Proofs.YtclfmpieapbfnaaGreatDoor.Ib
end
