/- Part 16: lemmas, no conditions. -/
import Derived.Test.YtclfmpieapbfnaaGreatDoorZ15
import Derived.Test.YtclfmpieapbfnaaGreatDoorZ12
set_option maxHeartbeats 2000000
namespace Go.Proofs.YtclfmpieapbfnaaGreatDoor
set_option linter.unusedVariables false
set_option linter.unusedSimpArgs false
section
namespace Ib
open Go.RowKit B Lt
def Ib (w:World) (F:Nat → Prop) (p:Nat) (xs:List L):Prop:=
 ∃ v,Blk w p 155 #[v] ∧ Row w F v xs ∧ F p ∧ (∀ k,F k → k < w.heap.size)
section
variable {w w':World} {F G:Nat → Prop} {p:Nat} {xs:List L}
theorem Ib.upd (h:Ib w F p xs) (hu:Upd G w w') (hn:∀ k,F k → ¬ G k):Ib w' F p xs:=by
 obtain ⟨v,h1,h2,h3,h4⟩:=h
 exact ⟨v,h1.upd hu (hn _ h3),h2.upd hu hn,h3,fun k hk => Nat.lt_of_lt_of_le (h4 k hk) hu.size⟩
theorem Ib.lt (h:Ib w F p xs):∀ k,F k → k < w.heap.size:=by
 obtain ⟨v,h1,h2,h3,h4⟩:=h
 exact h4
end
theorem Ib.pushed {w wa w4:World} {F:Nat → Prop} {p:Nat} {v:Value} {xs:List L} {ps:List Lv} {x:L} {v3:Value} {A4:Option Addr} {c4:Nat}
 (h1:Blk w p 155 #[v]) (hps:ps.map (·.1) = xs) (hs:Sl w 0 60 4 v ps.length (pcells ps)) (hin:∀ x ∈ ps,In w x.1 x.2 ∧ ∀ k,x.2.ownBlock = some k → F k ∧ ∃ cs,Blk w k 2 cs) (hvF:∀ k,v.ownBlock = some k → F k)
 (h3:F p) (h4:∀ k,F k → k < w.heap.size) (hx3:In wa x v3) (hf3:∀ k,v3.ownBlock = some k → w.heap.size ≤ k ∧ ∃ cs,Blk wa k 2 cs) (hua:Upd No w wa)
 (ho4:Sl w4 0 60 4 (.slice A4 (ps.length + 1) c4) (ps.length + 1) (pcells ps ++ cells x v3)) (hg4:Upd (fun k => v.ownBlock = some k) wa w4)
 (hat4:∀ k,(Value.slice A4 (ps.length + 1) c4).ownBlock = some k → v.ownBlock = some k ∨ wa.heap.size ≤ k) (p4:Blk w4 p 155 #[v]) :
 ∃ F',Ib (w4.setCell ⟨p,0,none⟩ (.slice A4 (ps.length + 1) c4)) F' p (xs ++ [x]) ∧ Mv F F' w (w4.setCell ⟨p,0,none⟩ (.slice A4 (ps.length + 1) c4)):=by
 have hR:=Row.push hs hin hvF hx3 hf3 hua ho4 hg4 hat4
 have hR2:=hR.far p4 (by decide) (by decide) ((Upd.refl (fun k => k = p) w4).set1 0 (.slice A4 (ps.length + 1) c4))
 have hsz3:=hua.size
 have hsz4:=hg4.size
 have hz:∀ k,k < w4.heap.size → k < (w4.setCell ⟨p,0,none⟩ (.slice A4 (ps.length + 1) c4)).heap.size:=fun k hk => by simpa [World.setCell] using hk
 refine ⟨fun k => F k ∨ v3.ownBlock = some k ∨ (Value.slice A4 (ps.length + 1) c4).ownBlock = some k,⟨.slice A4 (ps.length + 1) c4,?_,by rw [← hps]; exact hR2,.inl h3,?_⟩,⟨?_,?_⟩⟩
 · have:=p4.put 0 (.slice A4 (ps.length + 1) c4)
   simpa using this
 · rintro k (hk | hk | hk)
   · have:=h4 k hk; exact hz k (by omega)
   · obtain ⟨cs,hB⟩:=(hf3 k hk).2
     have:=hB.lt
     exact hz k (by omega)
   · exact hz k (ho4.lt k hk).2
 · exact ((hua.mono fun _ _ h => h.elim).next (hg4.mono fun k _ hk => hvF k hk)).set (.inl h3) _
 · rintro k (hk | hk | hk)
   · exact .inl hk
   · exact .inr (hf3 k hk).1
   · rcases hat4 k hk with h | h
     · exact .inl (hvF k h)
     · exact .inr (by omega)
theorem new_ (w:World):Calls Tryz.prog 242 #[] w fun e w' => e = .returned (.pointer (some ⟨w.heap.size,0,none⟩)) ∧ Ib w' (fun k => k = w.heap.size) w.heap.size [] ∧ Upd No w w':=by
 have h:Hid (Ib (w.alloc (.cells #[.slice none 0 0] 155)) (fun k => k = w.heap.size) w.heap.size []):=
  hid ⟨_,Blk.fresh _ _ _,⟨[],rfl,Sl.nil _ _ _ _,fun x hx => (by cases hx),fun k hk => by simp [Value.ownBlock] at hk⟩,rfl,fun k hk => by subst hk; simp⟩
 have hu:Upd No w (w.alloc (.cells #[.slice none 0 0] 155)):=(Upd.refl _ _).alloc _
 go_enter Tryz.func242,Tryz.ntmps242
 go_wp2
 go_ret
 exact ⟨rfl,h.out,hu⟩
theorem len_ (p:Nat) (xs:List L) (F:Nat → Prop) (w:World) (h:Ib w F p xs) :
 Calls Tryz.prog 19 #[.pointer (some ⟨p,0,none⟩)] w fun e w' => e = .returned (.int .i64 xs.length) ∧ w = w':=by
 obtain ⟨v,h1,h2,h3,h4⟩:=h
 obtain ⟨A,c,rfl,hc,hm⟩:=h2.len
 simp only [maxLen] at hm
 have hc0:=h1.cell 0
 simp at hc0
 go_enter Tryz.func19,Tryz.ntmps19
 go_wp2
 go_ret
 exact ⟨rfl,rfl⟩
def pushL (xs:List L) (x:L):Int × List L:=if formed x then (if xs.length < 8 then (0,xs ++ [x]) else (7,xs)) else (1,xs)
set_option maxRecDepth 100000 in
theorem push (p:Nat) (xs:List L) (F:Nat → Prop) (x:L) (u:Value) (w:World) (h:Ib w F p xs) (hx:In w x u) :
 Calls Tryz.prog 51 #[.pointer (some ⟨p,0,none⟩),val x u] w fun e w' => e = .returned (.int .i64 (pushL xs x).1) ∧ ∃ F',Ib w' F' p (pushL xs x).2 ∧ Mv F F' w w':=by
 have hI:=hid h
 obtain ⟨v,h1,⟨ps,hps,hs,hin,hvF⟩,h3,h4⟩:=h
 have hxl:xs.length = ps.length:=by rw [← hps]; simp
 obtain ⟨A,c,rfl,hc,hm⟩:=hs.shape
 simp only [maxLen] at hm
 have hu1:Upd No w (w.alloc (.cells #[.string x.1,.int .u64 x.2.1,.int .i64 x.2.2.1,u] 60)):=(Upd.refl _ _).alloc _
 have hbx:=Blk.fresh w 60 #[.string x.1,.int .u64 x.2.1,.int .i64 x.2.2.1,u]
 have hx1:=hx.upd hu1 (fun _ _ => no_ _)
 have HF:=hid (formed_ x u _ hx1)
 have hI1:=hid (hI.out.upd hu1 (fun _ _ => no_ _))
 have hc0:=(h1.upd hu1 (no_ _)).cell 0
 simp at hc0
 obtain ⟨y0,y1,y2,y3⟩:=box hbx
 unfold val
 unfold pushL
 by_cases hf:formed x = true
 · rw [if_pos hf]
   rw [hf] at HF
   by_cases h8:xs.length < 8
   · rw [if_pos h8]
     have h8':¬ (8:Int) ≤ (ps.length:Int):=by omega
     have hxa:x.2.2.2.length ≤ 1000000:=by
      simp [formed] at hf
      omega
     go_enter Tryz.func51,Tryz.ntmps51
     go_wp2_with (fail)
     generalize hw1:w.alloc (.cells #[.string x.1,.int .u64 x.2.1,.int .i64 x.2.2.1,u] 60) = w1 at *
     have hsz1:w.heap.size < w1.heap.size:=by rw [← hw1]; simp
     clear hw1
     unfold val at HF
     refine Calls.mono HF.out ?_
     rintro e w2 ⟨rfl,hu2⟩
     have hu12:=hu1.next hu2
     have hb2:=hbx.upd hu2 (no_ _)
     have k1:=h1.upd hu12 (no_ _)
     have k0:=k1.cell 0
     have kf:=k1.free 0
     simp at k0
     have hx2:=hx1.upd hu2 (fun _ _ => no_ _)
     have HC:=hid (copy_ x u w2.drew hx2 hxa)
     unfold val at HC
     have hsz2:=hu2.size
     clear hc0 y0 y1 y2 y3 HF hI1 hx1
     go_wp2_with (fail)
     refine wp_region_held_drew (S:=fun W => Blk W w.heap.size 60 #[.string x.1,.int .u64 x.2.1,.int .i64 x.2.2.1,u]) (by kernel_rfl) hb2.drew (fun hS => ?_)
     refine zt 0 hS ?_
     refine zt 1 hS ?_
     refine zt 2 hS ?_
     refine zt 3 hS ?_
     refine zh 5 hS (fun w hw => box hw) ?_
     refine rg_two 4 6 (by kernel_rfl) ?_ ?_
     · refine zs 4 (fun K hK => ?_)
       go_simp
       refine hK.out _ _ ((by first | exact hb2.drew | exact hbx3 | exact hbx3.alloc _)) (fun hS => ?_)
       clear hK K
       try simp only [Act.put,zA,zB,zC]
       refine zk 6 (fun K hK => ?_)
       go_simp
       refine Calls.mono HC.out ?_
       rintro e w3 ⟨v3,rfl,hx3,hu3,hf3⟩
       unfold val
       have hu3':=Upd.of_drew hu3
       have hbx3:=hb2.upd hu3' (no_ _)
       have k3:=k1.upd hu3' (no_ _)
       have c3:=k3.cell 0
       have f3:=k3.free 0
       simp at c3
       have e3:∀ o,(w3.alloc o).cell? ⟨p,0,none⟩ = some (.slice A ps.length c):=fun o => by simpa using (k3.alloc o).cell 0
       have s3:=(hs.upd hu12 (fun _ _ => no_ _)).upd hu3' (fun _ _ => no_ _)
       go_wp2_with (fail)
       refine hK.out _ _ ((by exact hbx3)) (fun hS => ?_)
       clear hK K
       try simp only [Act.put,zA,zB,zC]
       refine zk 7 (fun K hK => ?_)
       go_simp
       refine hK.out _ _ ((hbx3.alloc _)) (fun hS => ?_)
       clear hK K
       try simp only [Act.put,zA,zB,zC]
       refine zk 8 (fun K hK => ?_)
       refine wp_ap_sl 0 (.tmp 24) (.tmp 27) 52 60 (.agg #[.string ⟨#[]⟩,.int .u64 0,.int .i64 0,.slice none 0 0]) 4 56 (by rfl) Tryz.underlying52 lt_info rfl (by omega) (.slice A ps.length c) ps.length (pcells ps) (some ⟨w3.heap.size,0,none⟩) 1 1 (cells x v3) (by rfl) (by rfl) (s3.alloc _) (Rd_lit w3 _ 4 1 (cells x v3) rfl) (cells_one hx3) (by omega) (by omega) (Nat.zero_le _) ?_
       intro A4 c4 w4 ho4 hg4 hat4
       have p4:=(k3.alloc _).upd hg4 (fun h => s3.ne k3 (by decide) h)
       have f4:=p4.free 0
       have c4':=p4.cell 0
       simp at c4'
       have b4:=(hbx3.alloc _).upd hg4 (fun h => by have:=(hs.lt _ h).2; omega)
       refine hK.out _ _ ((by exact b4)) (fun hS => ?_)
       clear hK K
       try simp only [Act.put,zA,zB,zC]
       refine zt 9 hS ?_
       refine zt 10 hS ?_
       refine zk 11 (fun K hK => ?_)
       go_simp
       refine hK.out _ _ ((b4.far (by have:=h4 _ h3; simp; omega) _)) (fun hS => ?_)
       clear hK K
       try simp only [Act.put,zA,zB,zC]
       refine wpAnyH_done (by kernel_rfl) ?_ _
       have hRes:=hid (Ib.pushed h1 hps hs hin hvF h3 h4 (hx3.upd ((Upd.refl No w3).alloc _) (fun _ _ => no_ _)) (fun k hk => ⟨by have:=(hf3 k hk).1; have hz:=hu12.size; simp at this; omega,(hf3 k hk).2.elim fun cs hB => ⟨cs,hB.alloc _⟩⟩) ((hu12.next hu3').alloc _) ho4 hg4 hat4 p4)
       go_wp2
       go_ret
       exact ⟨rfl,hRes.out⟩
     · refine zs 6 (fun K hK => ?_)
       go_simp
       refine Calls.mono HC.out ?_
       rintro e w3 ⟨v3,rfl,hx3,hu3,hf3⟩
       unfold val
       have hu3':=Upd.of_drew hu3
       have hbx3:=hb2.upd hu3' (no_ _)
       have k3:=k1.upd hu3' (no_ _)
       have c3:=k3.cell 0
       have f3:=k3.free 0
       simp at c3
       have e3:∀ o,(w3.alloc o).cell? ⟨p,0,none⟩ = some (.slice A ps.length c):=fun o => by simpa using (k3.alloc o).cell 0
       have s3:=(hs.upd hu12 (fun _ _ => no_ _)).upd hu3' (fun _ _ => no_ _)
       go_wp2_with (fail)
       refine hK.out _ _ ((by exact hbx3)) (fun hS => ?_)
       clear hK K
       try simp only [Act.put,zA,zB,zC]
       refine rg_two 4 7 (by kernel_rfl) ?_ ?_
       · refine zs 4 (fun K hK => ?_)
         go_simp
         refine hK.out _ _ ((by first | exact hb2.drew | exact hbx3 | exact hbx3.alloc _)) (fun hS => ?_)
         clear hK K
         try simp only [Act.put,zA,zB,zC]
         refine zk 7 (fun K hK => ?_)
         go_simp
         refine hK.out _ _ ((hbx3.alloc _)) (fun hS => ?_)
         clear hK K
         try simp only [Act.put,zA,zB,zC]
         refine zk 8 (fun K hK => ?_)
         refine wp_ap_sl 0 (.tmp 24) (.tmp 27) 52 60 (.agg #[.string ⟨#[]⟩,.int .u64 0,.int .i64 0,.slice none 0 0]) 4 56 (by rfl) Tryz.underlying52 lt_info rfl (by omega) (.slice A ps.length c) ps.length (pcells ps) (some ⟨w3.heap.size,0,none⟩) 1 1 (cells x v3) (by rfl) (by rfl) (s3.alloc _) (Rd_lit w3 _ 4 1 (cells x v3) rfl) (cells_one hx3) (by omega) (by omega) (Nat.zero_le _) ?_
         intro A4 c4 w4 ho4 hg4 hat4
         have p4:=(k3.alloc _).upd hg4 (fun h => s3.ne k3 (by decide) h)
         have f4:=p4.free 0
         have c4':=p4.cell 0
         simp at c4'
         have b4:=(hbx3.alloc _).upd hg4 (fun h => by have:=(hs.lt _ h).2; omega)
         refine hK.out _ _ ((by exact b4)) (fun hS => ?_)
         clear hK K
         try simp only [Act.put,zA,zB,zC]
         refine zt 9 hS ?_
         refine zt 10 hS ?_
         refine zk 11 (fun K hK => ?_)
         go_simp
         refine hK.out _ _ ((b4.far (by have:=h4 _ h3; simp; omega) _)) (fun hS => ?_)
         clear hK K
         try simp only [Act.put,zA,zB,zC]
         refine wpAnyH_done (by kernel_rfl) ?_ _
         have hRes:=hid (Ib.pushed h1 hps hs hin hvF h3 h4 (hx3.upd ((Upd.refl No w3).alloc _) (fun _ _ => no_ _)) (fun k hk => ⟨by have:=(hf3 k hk).1; have hz:=hu12.size; simp at this; omega,(hf3 k hk).2.elim fun cs hB => ⟨cs,hB.alloc _⟩⟩) ((hu12.next hu3').alloc _) ho4 hg4 hat4 p4)
         go_wp2
         go_ret
         exact ⟨rfl,hRes.out⟩
       · refine zs 7 (fun K hK => ?_)
         go_simp
         refine hK.out _ _ ((hbx3.alloc _)) (fun hS => ?_)
         clear hK K
         try simp only [Act.put,zA,zB,zC]
         refine zk 4 (fun K hK => ?_)
         go_simp
         refine hK.out _ _ ((by first | exact hb2.drew | exact hbx3 | exact hbx3.alloc _)) (fun hS => ?_)
         clear hK K
         try simp only [Act.put,zA,zB,zC]
         refine zk 8 (fun K hK => ?_)
         refine wp_ap_sl 0 (.tmp 24) (.tmp 27) 52 60 (.agg #[.string ⟨#[]⟩,.int .u64 0,.int .i64 0,.slice none 0 0]) 4 56 (by rfl) Tryz.underlying52 lt_info rfl (by omega) (.slice A ps.length c) ps.length (pcells ps) (some ⟨w3.heap.size,0,none⟩) 1 1 (cells x v3) (by rfl) (by rfl) (s3.alloc _) (Rd_lit w3 _ 4 1 (cells x v3) rfl) (cells_one hx3) (by omega) (by omega) (Nat.zero_le _) ?_
         intro A4 c4 w4 ho4 hg4 hat4
         have p4:=(k3.alloc _).upd hg4 (fun h => s3.ne k3 (by decide) h)
         have f4:=p4.free 0
         have c4':=p4.cell 0
         simp at c4'
         have b4:=(hbx3.alloc _).upd hg4 (fun h => by have:=(hs.lt _ h).2; omega)
         refine hK.out _ _ ((by exact b4)) (fun hS => ?_)
         clear hK K
         try simp only [Act.put,zA,zB,zC]
         refine zt 9 hS ?_
         refine zt 10 hS ?_
         refine zk 11 (fun K hK => ?_)
         go_simp
         refine hK.out _ _ ((b4.far (by have:=h4 _ h3; simp; omega) _)) (fun hS => ?_)
         clear hK K
         try simp only [Act.put,zA,zB,zC]
         refine wpAnyH_done (by kernel_rfl) ?_ _
         have hRes:=hid (Ib.pushed h1 hps hs hin hvF h3 h4 (hx3.upd ((Upd.refl No w3).alloc _) (fun _ _ => no_ _)) (fun k hk => ⟨by have:=(hf3 k hk).1; have hz:=hu12.size; simp at this; omega,(hf3 k hk).2.elim fun cs hB => ⟨cs,hB.alloc _⟩⟩) ((hu12.next hu3').alloc _) ho4 hg4 hat4 p4)
         go_wp2
         go_ret
         exact ⟨rfl,hRes.out⟩
   · rw [if_neg h8]
     have h8':(8:Int) ≤ (ps.length:Int):=by omega
     go_enter Tryz.func51,Tryz.ntmps51
     go_wp2_with (fail)
     generalize w.alloc (.cells #[.string x.1,.int .u64 x.2.1,.int .i64 x.2.2.1,u] 60) = w1 at *
     unfold val at HF
     refine Calls.mono HF.out ?_
     rintro e w2 ⟨rfl,hu2⟩
     have hI2:=hid (hI1.out.upd hu2 (fun _ _ => no_ _))
     have k0:=(h1.upd (hu1.next hu2) (no_ _)).cell 0
     simp at k0
     go_wp2
     go_ret
     exact ⟨rfl,F,hI2.out,Mv.quiet ((hu1.next hu2).old (Nat.le_refl _))⟩
 · have hff:formed x = false:=by simpa using hf
   rw [if_neg hf]
   rw [hff] at HF
   go_enter Tryz.func51,Tryz.ntmps51
   go_wp2_with (fail)
   generalize w.alloc (.cells #[.string x.1,.int .u64 x.2.1,.int .i64 x.2.2.1,u] 60) = w1 at *
   unfold val at HF
   refine Calls.mono HF.out ?_
   rintro e w2 ⟨rfl,hu2⟩
   have hI2:=hid (hI1.out.upd hu2 (fun _ _ => no_ _))
   go_wp2
   go_ret
   exact ⟨rfl,F,hI2.out,Mv.quiet ((hu1.next hu2).old (Nat.le_refl _))⟩
end Ib
end
section
namespace Ib
open Go.RowKit B Lt
def FsOut (w:World) (x:L) (b:Bool) (e:Ending) (w':World):Prop:=∃ v,e = .returned (.tuple #[val x v,.bool b]) ∧ In w' x v ∧ Upd No w w' ∧ ∀ k,v.ownBlock = some k → w.heap.size ≤ k ∧ ∃ cs,Blk w' k 2 cs
theorem FsOut.of {w:World} {x:L} {b:Bool} {e:Ending} {w':World} (h:∃ v,e = .returned (.tuple #[val x v,.bool b]) ∧ In w' x v ∧ Upd No w w' ∧ ∀ k,v.ownBlock = some k → w.heap.size ≤ k ∧ ∃ cs,Blk w' k 2 cs):FsOut w x b e w':=h
theorem Row.head {F:Nat → Prop} {w:World} {v:Value} {x:L} {r:List L} (h:Row w F v (x :: r)) :
 ∃ (g off n c:Nat) (u:Value),v = .slice (some ⟨g,off,none⟩) (n + 1) c ∧ n = r.length ∧ n + 1 ≤ c ∧ c ≤ maxLen ∧ In w x u ∧ (∀ k,u.ownBlock = some k → F k) ∧ w.cell? ⟨g,off,none⟩ = some (.string x.1) ∧ w.cell? ⟨g,off + 1,none⟩ = some (.int .u64 x.2.1) ∧ w.cell? ⟨g,off + 2,none⟩ = some (.int .i64 x.2.2.1) ∧ w.cell? ⟨g,off + 3,none⟩ = some u ∧ F g ∧ g < w.heap.size:=by
 obtain ⟨ps,h1,h2,h3,h4⟩:=h
 match ps,h1 with
 | (y,u) :: qs,h1 =>
  simp only [List.map_cons,List.cons.injEq] at h1
  obtain ⟨rfl,rfl⟩:=h1
  obtain ⟨hi,hk⟩:=h3 (y,u) (by simp)
  rcases h2.2 with ⟨_,h⟩ | ⟨g,off,cap,cur,rfl,_,hh,g1,g2,g3,hc⟩
  · simp at h
  · have e:∀ j w',(pcells ((y,u) :: qs))[j]? = some w' → w.cell? ⟨g,off + j,none⟩ = some w':=fun j w' hj => by rw [hh.cell]; exact hc j w' hj
    exact ⟨g,off,qs.length,cap,u,by simp,by simp,by simpa using g1,g2,hi,fun k hk' => (hk k hk').1,e 0 _ rfl,e 1 _ rfl,e 2 _ rfl,e 3 _ rfl,h4 g rfl,hh.lt⟩
set_option maxRecDepth 100000 in
theorem first_some (p:Nat) (x:L) (r:List L) (F:Nat → Prop) (w:World) (h:Ib w F p (x :: r)) (hl:x.2.2.2.length ≤ 1000000) :
 Calls Tryz.prog 126 #[.pointer (some ⟨p,0,none⟩)] w fun e w' => FsOut w x true e w':=by
 have hL:=hid (fun W (hu:Upd No w W) => len_ p (x :: r) F W (h.upd hu (fun _ _ => no_ _)))
 obtain ⟨n1,hn1⟩:∃ n1:Nat,n1 = (x :: r).length:=⟨_,rfl⟩
 have hn1':(0:Int) < (n1:Int):=by rw [hn1]; simp
 rw [← hn1] at hL
 obtain ⟨vl,h1,h2,h3,h4⟩:=h
 obtain ⟨g,off,n,c,u,rfl,hn,hnc,hcm,hx,hxF,c0,c1,c2,c3,_,hgl⟩:=h2.head
 have hu1:Upd No w (w.alloc (.cells #[.string ⟨#[]⟩,.int .u64 0,.int .i64 0,.slice none 0 0] 60)):=(Upd.refl _ _).alloc _
 have hb1:=Blk.fresh w 60 #[.string ⟨#[]⟩,.int .u64 0,.int .i64 0,.slice none 0 0]
 have hu1l:=alloc_lt w (.cells #[.string ⟨#[]⟩,.int .u64 0,.int .i64 0,.slice none 0 0] 60)
 clear hn
 go_enter Tryz.func126,Tryz.ntmps126
 go_wp2_with (fail)
 generalize w.alloc (.cells #[.string ⟨#[]⟩,.int .u64 0,.int .i64 0,.slice none 0 0] 60) = w1 at *
 refine Calls.mono (hL.out _ hu1) ?_
 rintro e w2 ⟨rfl,rfl⟩
 have k0:=(h1.upd hu1 (no_ _)).cell 0
 simp at k0
 have d0:=(hu1.cell (p:=⟨g,off,none⟩) hgl (no_ _)).trans c0
 have d1:=(hu1.cell (p:=⟨g,off + 1,none⟩) hgl (no_ _)).trans c1
 have d2:=(hu1.cell (p:=⟨g,off + 2,none⟩) hgl (no_ _)).trans c2
 have d3:=(hu1.cell (p:=⟨g,off + 3,none⟩) hgl (no_ _)).trans c3
 have HC:=hid (copy_ x u w1 (hx.upd hu1 (fun _ _ => no_ _)) hl)
 unfold val at HC
 go_wp2_with (fail)
 refine Calls.mono HC.out ?_
 rintro e w3 ⟨v3,rfl,hx3,hu3,hf3⟩
 have hx3':=hx3
 obtain ⟨A3,c3',hv3,_⟩:=hx3'
 subst hv3
 unfold val
 have hb3:=hb1.upd hu3 (no_ _)
 have hu13:=hu1.next hu3
 obtain ⟨z0,z1,z2,z3⟩:=box hb3
 have g0:=hb3.free 0
 have g1:=hb3.free 1
 have g2:=hb3.free 2
 have g3:=hb3.free 3
 have HB:=hid (put4_blk hb3 x (.slice A3 x.2.2.2.length c3'))
 have HU:=hid (put4_new hu13 (Nat.le_refl _) x (.slice A3 x.2.2.2.length c3'))
 have HX:=hid (hx3.upd (put4_upd w3 w.heap.size x (.slice A3 x.2.2.2.length c3')) (fun k hk e => by have:=(hf3 k hk).1; omega))
 have HF:=hid (show ∀ k,(Value.slice A3 x.2.2.2.length c3').ownBlock = some k → w.heap.size ≤ k ∧ ∃ cs,Blk (put4 w3 w.heap.size x (.slice A3 x.2.2.2.length c3')) k 2 cs from fun k hk => ⟨by have:=(hf3 k hk).1; omega,(hf3 k hk).2.elim fun cs hB => ⟨cs,hB.upd (put4_upd w3 w.heap.size x (.slice A3 x.2.2.2.length c3')) (fun e => by have:=(hf3 k hk).1; omega)⟩⟩)
 have h1v:=In.one hx3
 clear hb1 hb3
 go_wp2
 simp only [put4] at HB HU HX HF
 generalize (((w3.setCell ⟨w.heap.size,0,none⟩ (.string x.1)).setCell ⟨w.heap.size,1,none⟩ (.int .u64 x.2.1)).setCell ⟨w.heap.size,2,none⟩ (.int .i64 x.2.2.1)).setCell ⟨w.heap.size,3,none⟩ (.slice A3 x.2.2.2.length c3') = W5 at *
 obtain ⟨q0,q1,q2,q3⟩:=box HB.out
 exact bodyPost_ret (v:=.tuple #[val x (.slice A3 x.2.2.2.length c3'),.bool true]) (by simp [results,go_sem,q0,q1,q2,q3,val]) rfl (.of ⟨_,rfl,HX.out,HU.out,HF.out⟩)
def PopOut (w:World) (F:Nat → Prop) (p:Nat) (x:L) (b:Bool) (r:List L) (e:Ending) (w':World):Prop:=
 ∃ v,e = .returned (.tuple #[val x v,.bool b]) ∧ In w' x v ∧ Ib w' F p r ∧ Upd F w w' ∧ ∀ k,v.ownBlock = some k → w.heap.size ≤ k ∧ ∃ cs,Blk w' k 2 cs
theorem PopOut.of {w:World} {F:Nat → Prop} {p:Nat} {x:L} {b:Bool} {r:List L} {e:Ending} {w':World}
 (h:∃ v,e = .returned (.tuple #[val x v,.bool b]) ∧ In w' x v ∧ Ib w' F p r ∧ Upd F w w' ∧ ∀ k,v.ownBlock = some k → w.heap.size ≤ k ∧ ∃ cs,Blk w' k 2 cs):PopOut w F p x b r e w':=h
theorem Ib.popped {w:World} {F:Nat → Prop} {p:Nat} {x:L} {r:List L} {n c:Nat} {A:Option Addr} (h1:Blk w p 155 #[.slice A (n + 1) c]) (h2:Row w F (.slice A (n + 1) c) (x :: r)) (h3:F p) (h4:∀ k,F k → k < w.heap.size) :
 Ib (w.setCell ⟨p,0,none⟩ (.slice (if c = 1 then A else A.map (·.add (1 * 4))) n (c - 1))) F p r:=by
 have h2':=h2
 obtain ⟨ps,e1,e2,e3,e4⟩:=h2
 match ps,e1 with
 | (y,u) :: qs,e1 =>
  simp only [List.map_cons,List.cons.injEq] at e1
  obtain ⟨rfl,rfl⟩:=e1
  obtain ⟨A0,c0,ev,_,_⟩:=e2.shape
  simp only [Value.slice.injEq,List.length_cons] at ev
  have hn:n = qs.length:=by omega
  subst hn
  have hd:=(show Sl w 0 60 4 (.slice A (qs.length + 1) c) (qs.length + 1) (pcells ((y,u) :: qs)) from e2).drop (m:=1) (by omega)
  rw [pcells_drop] at hd
  have hR:Row w F (.slice (if c = 1 then A else A.map (·.add (1 * 4))) qs.length (c - 1)) (qs.map (·.1)):=⟨qs,rfl,hd,fun z hz => e3 z (by simp [hz]),fun k hk => e4 k (by
   rcases A with _ | ad
   · simp [Value.ownBlock] at hk
   · split at hk
     · simpa [Value.ownBlock] using hk
     · simp only [Option.map_some,Value.ownBlock,Addr_add_block] at hk ⊢
       exact hk)⟩
  refine ⟨_,?_,hR.far h1 (by decide) (by decide) ((Upd.refl _ _).set1 0 _),h3,fun k hk => by have:=h4 k hk; simpa [World.setCell] using this⟩
  have:=h1.put 0 (.slice (if c = 1 then A else A.map (·.add (1 * 4))) qs.length (c - 1))
  simpa using this
set_option maxRecDepth 100000 in
theorem pop_some (p:Nat) (x:L) (r:List L) (F:Nat → Prop) (w:World) (h:Ib w F p (x :: r)) (hl:x.2.2.2.length ≤ 1000000) :
 Calls Tryz.prog 131 #[.pointer (some ⟨p,0,none⟩)] w fun e w' => PopOut w F p x true r e w':=by
 have hu1:Upd No w (w.alloc (.cells #[.string ⟨#[]⟩,.int .u64 0,.int .i64 0,.slice none 0 0] 60)):=(Upd.refl _ _).alloc _
 have hb1:=Blk.fresh w 60 #[.string ⟨#[]⟩,.int .u64 0,.int .i64 0,.slice none 0 0]
 have hu1l:=alloc_lt w (.cells #[.string ⟨#[]⟩,.int .u64 0,.int .i64 0,.slice none 0 0] 60)
 go_enter Tryz.func131,Tryz.ntmps131
 go_wp2_with (fail)
 generalize w.alloc (.cells #[.string ⟨#[]⟩,.int .u64 0,.int .i64 0,.slice none 0 0] 60) = w1 at *
 refine Calls.mono (first_some p x r F w1 (h.upd hu1 (fun _ _ => no_ _)) hl) ?_
 rintro e w2 ⟨v,rfl,hx,hu2,hf⟩
 have hx':=hx
 obtain ⟨A3,c3',hv3,_⟩:=hx'
 subst hv3
 obtain ⟨s,sn,k,l⟩:=x
 simp only [val]
 simp only at hx hf
 have hua:Upd No w2 (w2.alloc (.cells #[.string s,.int .u64 sn,.int .i64 k,.slice A3 l.length c3'] 60)):=(Upd.refl _ _).alloc _
 have hba:=(hb1.upd hu2 (no_ _)).alloc (.cells #[.string s,.int .u64 sn,.int .i64 k,.slice A3 l.length c3'] 60)
 have hbb:=Blk.fresh w2 60 #[.string s,.int .u64 sn,.int .i64 k,.slice A3 l.length c3']
 have hsz2:=hu2.size
 have huw:=(hu1.next hu2).next hua
 have HX0:=hid (hx.upd hua (fun _ _ => no_ _))
 have HF0:=hid (show ∀ k',(Value.slice A3 l.length c3').ownBlock = some k' → w1.heap.size ≤ k' ∧ ∃ cs,Blk (w2.alloc (.cells #[.string s,.int .u64 sn,.int .i64 k,.slice A3 l.length c3'] 60)) k' 2 cs from fun k' hk => ⟨(hf k' hk).1,(hf k' hk).2.elim fun cs hB => ⟨cs,hB.alloc _⟩⟩)
 have hIa:=h.upd huw (fun _ _ => no_ _)
 have hpl:=h.lt
 obtain ⟨vl,i1,i2,i3,i4⟩:=hIa
 obtain ⟨g,off,n,c,u0,rfl,hn,hnc,hcm,_⟩:=i2.head
 subst hn
 simp only [maxLen] at hcm
 have HP:=hid (Ib.popped i1 i2 i3 i4)
 have j0:=i1.cell 0
 have jf:=i1.free 0
 simp at j0
 have hbl:=hb1.lt
 have hpw:=hpl _ i3
 by_cases hc1:c = 1
 · subst hc1
   rw [if_pos rfl] at HP
   obtain rfl:r = []:=List.eq_nil_of_length_eq_zero (by omega)
   have hbs:Hid (Blk ((w2.alloc (.cells #[.string s,.int .u64 sn,.int .i64 k,.slice A3 l.length c3'] 60)).setCell ⟨p,0,none⟩ (.slice (some ⟨g,off,none⟩) 0 0)) w.heap.size 60 #[.string ⟨#[]⟩,.int .u64 0,.int .i64 0,.slice none 0 0]):=hid (hba.far (by simp; omega) _)
   have hbt:Hid (Blk ((w2.alloc (.cells #[.string s,.int .u64 sn,.int .i64 k,.slice A3 l.length c3'] 60)).setCell ⟨p,0,none⟩ (.slice (some ⟨g,off,none⟩) 0 0)) w2.heap.size 60 #[.string s,.int .u64 sn,.int .i64 k,.slice A3 l.length c3']):=hid (hbb.far (by simp; omega) _)
   obtain ⟨z0,z1,z2,z3⟩:=box hbs.out
   obtain ⟨y0,y1,y2,y3⟩:=box hbt.out
   have g0:=hbs.out.free 0
   have g1:=hbs.out.free 1
   have g2:=hbs.out.free 2
   have g3:=hbs.out.free 3
   have hup:Hid (Upd F w ((w2.alloc (.cells #[.string s,.int .u64 sn,.int .i64 k,.slice A3 l.length c3'] 60)).setCell ⟨p,0,none⟩ (.slice (some ⟨g,off,none⟩) 0 0))):=hid ((huw.mono fun _ _ h => h.elim).set (.inl i3) _)
   have HX1:Hid (In ((w2.alloc (.cells #[.string s,.int .u64 sn,.int .i64 k,.slice A3 l.length c3'] 60)).setCell ⟨p,0,none⟩ (.slice (some ⟨g,off,none⟩) 0 0)) (s,sn,k,l) (.slice A3 l.length c3')):=hid (HX0.out.upd ((Upd.refl (fun k => k = p) _).set1 0 _) (fun k' hk e => by have:=(HF0.out k' hk).1; omega))
   have HF1:=hid (show ∀ k',(Value.slice A3 l.length c3').ownBlock = some k' → w1.heap.size ≤ k' ∧ ∃ cs,Blk ((w2.alloc (.cells #[.string s,.int .u64 sn,.int .i64 k,.slice A3 l.length c3'] 60)).setCell ⟨p,0,none⟩ (.slice (some ⟨g,off,none⟩) 0 0)) k' 2 cs from fun k' hk => ⟨(HF0.out k' hk).1,(HF0.out k' hk).2.elim fun cs hB => ⟨cs,hB.far (by have:=(HF0.out k' hk).1; simp; omega) _⟩⟩)
   clear hba hbb huw hua HX0
   go_wp2_with (fail)
   generalize ((w2.alloc (.cells #[.string s,.int .u64 sn,.int .i64 k,.slice A3 l.length c3'] 60)).setCell ⟨p,0,none⟩ (.slice (some ⟨g,off,none⟩) 0 0)) = wb at *
   have HB:=hid (put4_blk hbs.out (s,sn,k,l) (.slice A3 l.length c3'))
   have HU:=hid (hup.out.trans (put4_upd wb w.heap.size (s,sn,k,l) (.slice A3 l.length c3')) (fun i hi e => by omega))
   have HX:=hid (HX1.out.upd (put4_upd wb w.heap.size (s,sn,k,l) (.slice A3 l.length c3')) (fun k' hk e => by have:=(HF1.out k' hk).1; omega))
   have HF:=hid (show ∀ k',(Value.slice A3 l.length c3').ownBlock = some k' → w.heap.size ≤ k' ∧ ∃ cs,Blk (put4 wb w.heap.size (s,sn,k,l) (.slice A3 l.length c3')) k' 2 cs from fun k' hk => ⟨by have:=(HF1.out k' hk).1; omega,(HF1.out k' hk).2.elim fun cs hB => ⟨cs,hB.upd (put4_upd wb w.heap.size (s,sn,k,l) (.slice A3 l.length c3')) (fun e => by have:=(HF1.out k' hk).1; omega)⟩⟩)
   have HP2:=hid (HP.out.upd (put4_upd wb w.heap.size (s,sn,k,l) (.slice A3 l.length c3')) (fun k' hk e => by have:=hpl k' hk; omega))
   simp only [put4] at HB HU HX HF HP2
   generalize (((wb.setCell ⟨w.heap.size,0,none⟩ (.string s)).setCell ⟨w.heap.size,1,none⟩ (.int .u64 sn)).setCell ⟨w.heap.size,2,none⟩ (.int .i64 k)).setCell ⟨w.heap.size,3,none⟩ (.slice A3 l.length c3') = W5 at *
   obtain ⟨q0,q1,q2,q3⟩:=box HB.out
   exact bodyPost_ret (v:=.tuple #[val (s,sn,k,l) (.slice A3 l.length c3'),.bool true]) (by simp [results,go_sem,q0,q1,q2,q3,val]) rfl (PopOut.of ⟨_,rfl,HX.out,HP2.out,HU.out,HF.out⟩)
 · rw [if_neg hc1] at HP
   rw [show (some (⟨g,off,none⟩:Addr)).map (·.add (1 * 4)) = some ⟨g,off + 4,none⟩ from by simp [add_off]] at HP
   have hbs:Hid (Blk ((w2.alloc (.cells #[.string s,.int .u64 sn,.int .i64 k,.slice A3 l.length c3'] 60)).setCell ⟨p,0,none⟩ (.slice (some ⟨g,off + 4,none⟩) r.length (c - 1))) w.heap.size 60 #[.string ⟨#[]⟩,.int .u64 0,.int .i64 0,.slice none 0 0]):=hid (hba.far (by simp; omega) _)
   have hbt:Hid (Blk ((w2.alloc (.cells #[.string s,.int .u64 sn,.int .i64 k,.slice A3 l.length c3'] 60)).setCell ⟨p,0,none⟩ (.slice (some ⟨g,off + 4,none⟩) r.length (c - 1))) w2.heap.size 60 #[.string s,.int .u64 sn,.int .i64 k,.slice A3 l.length c3']):=hid (hbb.far (by simp; omega) _)
   obtain ⟨z0,z1,z2,z3⟩:=box hbs.out
   obtain ⟨y0,y1,y2,y3⟩:=box hbt.out
   have g0:=hbs.out.free 0
   have g1:=hbs.out.free 1
   have g2:=hbs.out.free 2
   have g3:=hbs.out.free 3
   have hup:Hid (Upd F w ((w2.alloc (.cells #[.string s,.int .u64 sn,.int .i64 k,.slice A3 l.length c3'] 60)).setCell ⟨p,0,none⟩ (.slice (some ⟨g,off + 4,none⟩) r.length (c - 1)))):=hid ((huw.mono fun _ _ h => h.elim).set (.inl i3) _)
   have HX1:Hid (In ((w2.alloc (.cells #[.string s,.int .u64 sn,.int .i64 k,.slice A3 l.length c3'] 60)).setCell ⟨p,0,none⟩ (.slice (some ⟨g,off + 4,none⟩) r.length (c - 1))) (s,sn,k,l) (.slice A3 l.length c3')):=hid (HX0.out.upd ((Upd.refl (fun k => k = p) _).set1 0 _) (fun k' hk e => by have:=(HF0.out k' hk).1; omega))
   have HF1:=hid (show ∀ k',(Value.slice A3 l.length c3').ownBlock = some k' → w1.heap.size ≤ k' ∧ ∃ cs,Blk ((w2.alloc (.cells #[.string s,.int .u64 sn,.int .i64 k,.slice A3 l.length c3'] 60)).setCell ⟨p,0,none⟩ (.slice (some ⟨g,off + 4,none⟩) r.length (c - 1))) k' 2 cs from fun k' hk => ⟨(HF0.out k' hk).1,(HF0.out k' hk).2.elim fun cs hB => ⟨cs,hB.far (by have:=(HF0.out k' hk).1; simp; omega) _⟩⟩)
   clear hba hbb huw hua HX0
   go_wp2_with (fail)
   generalize ((w2.alloc (.cells #[.string s,.int .u64 sn,.int .i64 k,.slice A3 l.length c3'] 60)).setCell ⟨p,0,none⟩ (.slice (some ⟨g,off + 4,none⟩) r.length (c - 1))) = wb at *
   have HB:=hid (put4_blk hbs.out (s,sn,k,l) (.slice A3 l.length c3'))
   have HU:=hid (hup.out.trans (put4_upd wb w.heap.size (s,sn,k,l) (.slice A3 l.length c3')) (fun i hi e => by omega))
   have HX:=hid (HX1.out.upd (put4_upd wb w.heap.size (s,sn,k,l) (.slice A3 l.length c3')) (fun k' hk e => by have:=(HF1.out k' hk).1; omega))
   have HF:=hid (show ∀ k',(Value.slice A3 l.length c3').ownBlock = some k' → w.heap.size ≤ k' ∧ ∃ cs,Blk (put4 wb w.heap.size (s,sn,k,l) (.slice A3 l.length c3')) k' 2 cs from fun k' hk => ⟨by have:=(HF1.out k' hk).1; omega,(HF1.out k' hk).2.elim fun cs hB => ⟨cs,hB.upd (put4_upd wb w.heap.size (s,sn,k,l) (.slice A3 l.length c3')) (fun e => by have:=(HF1.out k' hk).1; omega)⟩⟩)
   have HP2:=hid (HP.out.upd (put4_upd wb w.heap.size (s,sn,k,l) (.slice A3 l.length c3')) (fun k' hk e => by have:=hpl k' hk; omega))
   simp only [put4] at HB HU HX HF HP2
   generalize (((wb.setCell ⟨w.heap.size,0,none⟩ (.string s)).setCell ⟨w.heap.size,1,none⟩ (.int .u64 sn)).setCell ⟨w.heap.size,2,none⟩ (.int .i64 k)).setCell ⟨w.heap.size,3,none⟩ (.slice A3 l.length c3') = W5 at *
   obtain ⟨q0,q1,q2,q3⟩:=box HB.out
   exact bodyPost_ret (v:=.tuple #[val (s,sn,k,l) (.slice A3 l.length c3'),.bool true]) (by simp [results,go_sem,q0,q1,q2,q3,val]) rfl (PopOut.of ⟨_,rfl,HX.out,HP2.out,HU.out,HF.out⟩)
end Ib
end
section
namespace Mc
open Go.RowKit B Lt
abbrev Se:=ByteArray × Int × Int
def sc (s:Se):List Value:=[.string s.1,.int .i64 s.2.1,.int .i64 s.2.2]
def ses (l:List Se):List Value:=l.flatMap sc
structure Env where
 vN:Value
 vC:Value
 x:L
 u:Value
 now:Int
structure Mst where
 at_:Int
 st:List Int
 reg:List Int
 evs:List Jn.Ev
 snt:List Se
 steps:Int
def mcs (v:Env) (c:Mst) (vs ve vn:Value):Array Value:=#[v.vN,v.vC,.string v.x.1,.int .u64 v.x.2.1,.int .i64 v.x.2.2.1,v.u,.int .i64 v.now,.int .i64 c.at_,vs,
 .int .i64 (gi c.reg 0),.int .i64 (gi c.reg 1),.int .i64 (gi c.reg 2),.int .i64 (gi c.reg 3),.int .i64 (gi c.reg 4),.int .i64 (gi c.reg 5),.int .i64 (gi c.reg 6),.int .i64 (gi c.reg 7),
 ve,vn,.slice none 0 0,.int .i64 c.steps,.int .i64 0,.bool false]
structure Mx (w0 W:World) (p:Nat) (v:Env) (c:Mst) (vs ve vn:Value):Prop where
 blk:Blk W p 347 (mcs v c vs ve vn)
 hs:Sl W w0.heap.size 2 1 vs c.st.length (nums .i64 c.st)
 he:Sl W w0.heap.size 160 2 ve c.evs.length (Jn.ecs c.evs)
 hn:Sl W w0.heap.size 264 3 vn c.snt.length (ses c.snt)
 lo:w0.heap.size ≤ p
 upd:Upd No w0 W
def Mo (w0 W:World) (p:Nat) (v:Env) (c:Mst):Prop:=∃ vs ve vn,Mx w0 W p v c vs ve vn
section
variable {w0 W W':World} {p:Nat} {v:Env} {c:Mst} {vs ve vn:Value}
theorem Mx.quiet (h:Mx w0 W p v c vs ve vn) (hu:Upd No W W'):Mx w0 W' p v c vs ve vn:=
 ⟨h.blk.upd hu (no_ _),h.hs.upd hu fun _ _ => no_ _,h.he.upd hu fun _ _ => no_ _,h.hn.upd hu fun _ _ => no_ _,h.lo,h.upd.next hu⟩
theorem Mo.quiet (h:Mo w0 W p v c) (hu:Upd No W W'):Mo w0 W' p v c:=by
 obtain ⟨vs,ve,vn,h⟩:=h
 exact ⟨vs,ve,vn,h.quiet hu⟩
theorem Mx.drew (h:Mx w0 W p v c vs ve vn):Mx w0 W.drew p v c vs ve vn:=h.quiet (Upd.refl _ _).drew
theorem mcells (h:Blk W p 347 (mcs v c vs ve vn)):(W.cell? ⟨p,0,none⟩ = some v.vN ∧ W.cell? ⟨p,1,none⟩ = some v.vC ∧ W.cell? ⟨p,2,none⟩ = some (.string v.x.1) ∧ W.cell? ⟨p,3,none⟩ = some (.int .u64 v.x.2.1) ∧ W.cell? ⟨p,4,none⟩ = some (.int .i64 v.x.2.2.1) ∧ W.cell? ⟨p,5,none⟩ = some v.u ∧ W.cell? ⟨p,6,none⟩ = some (.int .i64 v.now)) ∧
 (W.cell? ⟨p,7,none⟩ = some (.int .i64 c.at_) ∧ W.cell? ⟨p,8,none⟩ = some vs ∧ W.cell? ⟨p,17,none⟩ = some ve ∧ W.cell? ⟨p,18,none⟩ = some vn ∧ W.cell? ⟨p,19,none⟩ = some (.slice none 0 0) ∧ W.cell? ⟨p,20,none⟩ = some (.int .i64 c.steps) ∧ W.cell? ⟨p,21,none⟩ = some (.int .i64 0) ∧ W.cell? ⟨p,22,none⟩ = some (.bool false)) ∧
 (W.cell? ⟨p,9,none⟩ = some (.int .i64 (gi c.reg 0)) ∧ W.cell? ⟨p,10,none⟩ = some (.int .i64 (gi c.reg 1)) ∧ W.cell? ⟨p,11,none⟩ = some (.int .i64 (gi c.reg 2)) ∧ W.cell? ⟨p,12,none⟩ = some (.int .i64 (gi c.reg 3)) ∧ W.cell? ⟨p,13,none⟩ = some (.int .i64 (gi c.reg 4)) ∧ W.cell? ⟨p,14,none⟩ = some (.int .i64 (gi c.reg 5)) ∧ W.cell? ⟨p,15,none⟩ = some (.int .i64 (gi c.reg 6)) ∧ W.cell? ⟨p,16,none⟩ = some (.int .i64 (gi c.reg 7))):=
 ⟨⟨h.cell 0,h.cell 1,h.cell 2,h.cell 3,h.cell 4,h.cell 5,h.cell 6⟩,⟨h.cell 7,h.cell 8,h.cell 17,h.cell 18,h.cell 19,h.cell 20,h.cell 21,h.cell 22⟩,h.cell 9,h.cell 10,h.cell 11,h.cell 12,h.cell 13,h.cell 14,h.cell 15,h.cell 16⟩
theorem Mx.vp (h:Mx w0 W p v c vs ve vn):vs.ownBlock ≠ some p ∧ ve.ownBlock ≠ some p ∧ vn.ownBlock ≠ some p:=⟨h.hs.ne h.blk (by decide),h.he.ne h.blk (by decide),h.hn.ne h.blk (by decide)⟩
theorem Mx.set {c':Mst} {vs' ve' vn':Value} (h:Mx w0 W p v c vs ve vn) (i:Nat) (u:Value) (hc:(mcs v c vs ve vn).setIfInBounds i u = mcs v c' vs' ve' vn')
 (h1:Sl W w0.heap.size 2 1 vs' c'.st.length (nums .i64 c'.st)) (h2:Sl W w0.heap.size 160 2 ve' c'.evs.length (Jn.ecs c'.evs)) (h3:Sl W w0.heap.size 264 3 vn' c'.snt.length (ses c'.snt)):Mx w0 (W.setCell ⟨p,i,none⟩ u) p v c' vs' ve' vn':=by
 have hu:Upd (fun k => k = p) W (W.setCell ⟨p,i,none⟩ u):=Upd.set1 (Upd.refl _ _) _ _
 have n1:=h1.ne h.blk (by decide)
 have n2:=h2.ne h.blk (by decide)
 have n3:=h3.ne h.blk (by decide)
 refine ⟨hc ▸ h.blk.put i u,h1.upd hu fun g hg e => n1 (e ▸ hg),h2.upd hu fun g hg e => n2 (e ▸ hg),h3.upd hu fun g hg e => n3 (e ▸ hg),h.lo,h.upd.trans hu fun k hk e => ?_⟩
 have:=h.lo
 omega
theorem Mx.stack {vs2:Value} {st:List Int} (h:Mx w0 W p v c vs ve vn) (hu:Upd (fun k => vs.ownBlock = some k) W W') (h1:Sl W' w0.heap.size 2 1 vs2 st.length (nums .i64 st)) :
 Mx w0 (W'.setCell ⟨p,8,none⟩ vs2) p v { c with st:=st } vs2 ve vn:=by
 have hn:=h.vp
 have hb:Blk W' p 347 (mcs v c vs ve vn):=h.blk.upd hu fun e => hn.1 e
 have he:Sl W' w0.heap.size 160 2 ve c.evs.length (Jn.ecs c.evs):=h.he.upd hu fun g hg hv => by
  obtain ⟨cs,hB⟩:=h.he.blk hg
  exact h.hs.ne hB (by decide) hv
 have hs:Sl W' w0.heap.size 264 3 vn c.snt.length (ses c.snt):=h.hn.upd hu fun g hg hv => by
  obtain ⟨cs,hB⟩:=h.hn.blk hg
  exact h.hs.ne hB (by decide) hv
 have hu2:Upd (fun k => k = p) W' (W'.setCell ⟨p,8,none⟩ vs2):=Upd.set1 (Upd.refl _ _) _ _
 have hU:Upd No w0 W':=h.upd.trans hu fun k hk hv => by have:=(h.hs.lt k hv).1; omega
 refine ⟨?_,h1.upd hu2 fun g hg e => h1.ne hb (by decide) (e ▸ hg),he.upd hu2 fun g hg e => he.ne hb (by decide) (e ▸ hg),hs.upd hu2 fun g hg e => hs.ne hb (by decide) (e ▸ hg),h.lo,hU.trans hu2 fun k hk e => ?_⟩
 · have:=hb.put 8 vs2
   exact this
 · have:=h.lo
   omega
theorem Mx.events {ve2:Value} {es:List Jn.Ev} (h:Mx w0 W p v c vs ve vn) (hu:Upd (fun k => ve.ownBlock = some k) W W') (h1:Sl W' w0.heap.size 160 2 ve2 es.length (Jn.ecs es)) :
 Mx w0 (W'.setCell ⟨p,17,none⟩ ve2) p v { c with evs:=es } vs ve2 vn:=by
 have hn:=h.vp
 have hb:Blk W' p 347 (mcs v c vs ve vn):=h.blk.upd hu fun e => hn.2.1 e
 have hs:Sl W' w0.heap.size 2 1 vs c.st.length (nums .i64 c.st):=h.hs.upd hu fun g hg hv => by
  obtain ⟨cs,hB⟩:=h.hs.blk hg
  exact h.he.ne hB (by decide) hv
 have hn2:Sl W' w0.heap.size 264 3 vn c.snt.length (ses c.snt):=h.hn.upd hu fun g hg hv => by
  obtain ⟨cs,hB⟩:=h.hn.blk hg
  exact h.he.ne hB (by decide) hv
 have hu2:Upd (fun k => k = p) W' (W'.setCell ⟨p,17,none⟩ ve2):=Upd.set1 (Upd.refl _ _) _ _
 have hU:Upd No w0 W':=h.upd.trans hu fun k hk hv => by have:=(h.he.lt k hv).1; omega
 refine ⟨?_,hs.upd hu2 fun g hg e => hs.ne hb (by decide) (e ▸ hg),h1.upd hu2 fun g hg e => h1.ne hb (by decide) (e ▸ hg),hn2.upd hu2 fun g hg e => hn2.ne hb (by decide) (e ▸ hg),h.lo,hU.trans hu2 fun k hk e => ?_⟩
 · have:=hb.put 17 ve2
   exact this
 · have:=h.lo
   omega
theorem Mx.sents {vn2:Value} {ss:List Se} (h:Mx w0 W p v c vs ve vn) (hu:Upd (fun k => vn.ownBlock = some k) W W') (h1:Sl W' w0.heap.size 264 3 vn2 ss.length (ses ss)) :
 Mx w0 (W'.setCell ⟨p,18,none⟩ vn2) p v { c with snt:=ss } vs ve vn2:=by
 have hn:=h.vp
 have hb:Blk W' p 347 (mcs v c vs ve vn):=h.blk.upd hu fun e => hn.2.2 e
 have hs:Sl W' w0.heap.size 2 1 vs c.st.length (nums .i64 c.st):=h.hs.upd hu fun g hg hv => by
  obtain ⟨cs,hB⟩:=h.hs.blk hg
  exact h.hn.ne hB (by decide) hv
 have he:Sl W' w0.heap.size 160 2 ve c.evs.length (Jn.ecs c.evs):=h.he.upd hu fun g hg hv => by
  obtain ⟨cs,hB⟩:=h.he.blk hg
  exact h.hn.ne hB (by decide) hv
 have hu2:Upd (fun k => k = p) W' (W'.setCell ⟨p,18,none⟩ vn2):=Upd.set1 (Upd.refl _ _) _ _
 have hU:Upd No w0 W':=h.upd.trans hu fun k hk hv => by have:=(h.hn.lt k hv).1; omega
 refine ⟨?_,hs.upd hu2 fun g hg e => hs.ne hb (by decide) (e ▸ hg),he.upd hu2 fun g hg e => he.ne hb (by decide) (e ▸ hg),h1.upd hu2 fun g hg e => h1.ne hb (by decide) (e ▸ hg),h.lo,hU.trans hu2 fun k hk e => ?_⟩
 · have:=hb.put 18 vn2
   exact this
 · have:=h.lo
   omega
theorem Sl.cut {base e size n k cap:Nat} {A:Option Addr} {xs:List Value} (h:Sl W base e size (.slice A n cap) n xs) (hk:k ≤ n):Sl W base e size (.slice A k cap) k (xs.take (k * size)):=by
 have hm:k * size ≤ n * size:=Nat.mul_le_mul_right _ hk
 refine ⟨by rw [List.length_take,h.1]; omega,?_⟩
 rcases h.2 with ⟨e1,e2⟩ | ⟨g,off,cap',cur,e1,h1,h2,h3,h4,h5,h6⟩
 · injection e1 with e1 _ e3
   subst e1 e3
   obtain rfl:k = 0:=by omega
   exact .inl ⟨rfl,rfl⟩
 · injection e1 with e1 _ e3
   subst e1 e3
   refine .inr ⟨g,off,cap,cur,rfl,h1,h2,by omega,h4,h5,fun j u hj => h6 j u ?_⟩
   rw [List.getElem?_take] at hj
   split at hj
   · exact hj
   · cases hj
end
theorem Sl.rn {W:World} {base e c:Nat} {k:IntKind} {A:Option Addr} {l:List Int} (h:Sl W base e 1 (.slice A l.length c) l.length (nums k l)):Rn W k A l:=h.rd
def PuOut (w0:World) (p:Nat) (v:Env) (c:Mst) (e:Ending) (w':World):Prop:=e = .returned (.tuple #[]) ∧ Mo w0 w' p v c
theorem PuOut.of {w0:World} {p:Nat} {v:Env} {c:Mst} {e:Ending} {w':World} (h:e = .returned (.tuple #[]) ∧ Mo w0 w' p v c):PuOut w0 p v c e w':=h
set_option maxRecDepth 100000 in
theorem push_ {w0 W:World} {p:Nat} {v:Env} {c:Mst} (h:Mo w0 W p v c) {A:Option Addr} {cap:Nat} {ys:List Int} (hr:Rn W .i64 A ys) (hl:c.st.length + ys.length ≤ 16) :
 Calls Tryz.prog 244 #[.pointer (some ⟨p,0,none⟩),.slice A ys.length cap] W fun e w' => PuOut w0 p v { c with st:=c.st ++ ys } e w':=by
 obtain ⟨vs,ve,vn,h⟩:=h
 obtain ⟨A1,c1,rfl,hc1,hm1⟩:=h.hs.shape
 have c8:=(mcells h.blk).2.1.2.1
 have c21:=(mcells h.blk).2.1.2.2.2.2.2.2.1
 have HH:=hid h
 have HR:=hid hr
 have HZ:=hid h.upd.size
 have hle:¬ (16:Int) < (c.st.length:Int) + (ys.length:Int):=by omega
 clear h hr hm1
 go_enter Tryz.func244,Tryz.ntmps244
 go_wp2_with (at_builtin; go_must (refine ap_sl w0.heap.size rfl (.tmp 25) (.tmp 26) 40 2 (.int .i64 0) 1 8 rfl Tryz.underlying40 i64_info rfl (by omega) (.slice A1 c.st.length c1) c.st.length (nums .i64 c.st) A ys.length cap (nums .i64 ys) rfl rfl HH.out.hs HR.out (nums_one _ _) (by omega) (by omega) HZ.out ?_); intro A2 c2 w2 ho2 hu2 hat2; have b2:=HH.out.blk.upd hu2 (fun e => HH.out.vp.1 e); have e8:=(mcells b2).2.1.2.1; have f8:=b2.free 8; have HE:=hid (show Mo w0 (w2.setCell ⟨p,8,none⟩ (.slice A2 (c.st.length + ys.length) c2)) p v { c with st:=c.st ++ ys } from ⟨_,_,_,HH.out.stack hu2 (by rw [List.length_append,nums_append]; exact ho2)⟩); clear ho2 hu2 hat2 b2)
 go_end0
 exact .of ⟨rfl,HE.out⟩
theorem push1_ {w0 W W':World} {p:Nat} {v:Env} {c:Mst} (h:Mo w0 W p v c) (hl:c.st.length < 16) (x:Int) {g:Nat} (hg:g = W.heap.size) (hW:W' = W.alloc (.cells #[.int .i64 x] 2)) :
 Calls Tryz.prog 244 #[.pointer (some ⟨p,0,none⟩),.slice (some ⟨g,0,none⟩) 1 1] W' fun e w' => PuOut w0 p v { c with st:=c.st ++ [x] } e w':=by
 subst hW hg
 exact push_ (ys:=[x]) (h.quiet ((Upd.refl _ _).alloc _)) (Rn.lit W .i64 2 [x]) (by simp only [List.length_singleton]; omega)
def PoOut (w0 W:World) (p:Nat) (v:Env) (c:Mst) (x:Int) (e:Ending) (w':World):Prop:=e = .returned (.int .i64 x) ∧ Mo w0 w' p v c ∧ Upd (fun k => k = p) W w'
theorem PoOut.of {w0 W:World} {p:Nat} {v:Env} {c:Mst} {x:Int} {e:Ending} {w':World} (h:e = .returned (.int .i64 x) ∧ Mo w0 w' p v c ∧ Upd (fun k => k = p) W w'):PoOut w0 W p v c x e w':=h
set_option maxRecDepth 100000 in
theorem pop_ {w0 W:World} {p:Nat} {v:Env} {c:Mst} (h:Mo w0 W p v c) {st:List Int} {x:Int} (hst:c.st = st ++ [x]) (hl:st.length < 16) :
 Calls Tryz.prog 245 #[.pointer (some ⟨p,0,none⟩)] W fun e w' => PoOut w0 W p v { c with st:=st } x e w':=by
 obtain ⟨vs,ve,vn,h⟩:=h
 obtain ⟨A1,c1,rfl,hc1,hm1⟩:=h.hs.shape
 have c8:=(mcells h.blk).2.1.2.1
 have c21:=(mcells h.blk).2.1.2.2.2.2.2.2.1
 have hlen:c.st.length = st.length + 1:=by rw [hst]; simp
 have hcut:=h.hs
 rw [hlen] at c8 hc1 hcut
 obtain ⟨ad,e,hcx⟩:=(Sl.rn h.hs).at_ (i:=st.length) (by omega)
 have hgx:gi c.st st.length = x:=by rw [hst]; simp [gi]
 rw [hgx] at hcx
 subst e
 have HH:=hid h
 have HK:=hid (Sl.cut hcut (show st.length ≤ st.length + 1 by omega))
 have HT:Hid ((nums .i64 c.st).take (st.length * 1) = nums .i64 st):=hid (by rw [hst,nums_append,Nat.mul_one,← nums_length .i64 st,List.take_left])
 have HW:Hid (IntKind.i64.wrap (st.length:Int) = (st.length:Int)):=hid (IntWalk.i64_in _ (by omega))
 have HC:=hid (Jn.cut_upto (P:=Tryz.prog) 40 2 1 Tryz.underlying40 (by kernel_rfl) (some ad) (st.length + 1) c1 st.length (by omega))
 have hp0:(0:Int) ≤ (st.length:Int):=by omega
 have hp1:(st.length:Int) < (st.length:Int) + 1:=by omega
 have hne:¬ (st.length:Int) + 1 = 0:=by omega
 have f8:=h.blk.free 8
 have HE:Hid (∀ W',Upd No W W' → Mo w0 (W'.setCell ⟨p,8,none⟩ (.slice (some ad) st.length c1)) p v { c with st:=st } ∧ Upd (fun k => k = p) W (W'.setCell ⟨p,8,none⟩ (.slice (some ad) st.length c1))):=hid fun W' hu => ⟨⟨_,_,_,(HH.out.quiet hu).stack ((Upd.refl _ _)) (by rw [← HT.out]; exact HK.out.upd hu fun _ _ => no_ _)⟩,(hu.mono fun _ _ h => h.elim).next ((Upd.refl _ _).set1 _ _)⟩
 clear h hcut hst hlen hgx hm1
 go_enter Tryz.func245,Tryz.ntmps245
 go_wp2_with (fail)
 refine wp_region_held_drew (S:=fun W => W.cell? ⟨p,8,none⟩ = some (.slice (some ad) (st.length + 1) c1) ∧ W.cell? (ad.add st.length) = some (.int .i64 x)) (by kernel_rfl) ⟨c8,hcx⟩ (fun hS => ?_)
 refine zt 0 hS ?_
 refine zt 1 hS ?_
 refine zt 2 hS ?_
 refine zh 3 hS (fun w hw => hw.1) ?_
 refine zt 4 hS ?_
 refine zt 5 hS ?_
 refine zt 6 hS ?_
 refine zh 7 hS (fun w hw => hw.1) ?_
 refine zt 8 hS ?_
 refine zh 9 hS (fun w hw => HW.out) ?_
 refine zt 10 hS ?_
 refine zh 11 hS (fun w hw => hw.2) ?_
 refine zt 12 hS ?_
 refine wpAnyH_done (by kernel_rfl) ?_ _
 go_wp2_with (fail)
 refine wp_region_held_drew (S:=fun _ => True) (by kernel_rfl) trivial (fun hS => ?_)
 refine zt 0 hS ?_
 refine zt 1 hS ?_
 refine zt 2 hS ?_
 refine zt 3 hS ?_
 refine zt 5 hS ?_
 refine zt 6 hS ?_
 refine zt 7 hS ?_
 refine rg_two 4 8 (by kernel_rfl) ?_ ?_
 focus
  refine zs 4 (fun K hK => ?_)
  go_simp
  refine hK.out _ _ (trivial) (fun hS => ?_)
  clear hK K
  try simp only [Act.put,zA,zB,zC]
  refine zk 8 (fun K hK => ?_)
  go_simp
  refine hK.out _ _ (trivial) (fun hS => ?_)
  clear hK K
  try simp only [Act.put,zA,zB,zC]
  refine zt 9 hS ?_
  refine zh 10 hS (fun w hw => HW.out) ?_
  refine zh 11 hS (fun w hw => HC.out w) ?_
  refine zt 12 hS ?_
  refine zt 13 hS ?_
  refine zk 14 (fun K hK => ?_)
  go_simp
  refine hK.out _ _ (trivial) (fun hS => ?_)
  clear hK K
  try simp only [Act.put,zA,zB,zC]
  refine wpAnyH_done (by kernel_rfl) ?_ _
 rotate_left 1
 focus
  refine zs 8 (fun K hK => ?_)
  go_simp
  refine hK.out _ _ (trivial) (fun hS => ?_)
  clear hK K
  try simp only [Act.put,zA,zB,zC]
  refine zt 9 hS ?_
  refine zh 10 hS (fun w hw => HW.out) ?_
  refine zk 4 (fun K hK => ?_)
  go_simp
  refine hK.out _ _ (trivial) (fun hS => ?_)
  clear hK K
  try simp only [Act.put,zA,zB,zC]
  refine zh 11 hS (fun w hw => HC.out w) ?_
  refine zt 12 hS ?_
  refine zt 13 hS ?_
  refine zk 14 (fun K hK => ?_)
  go_simp
  refine hK.out _ _ (trivial) (fun hS => ?_)
  clear hK K
  try simp only [Act.put,zA,zB,zC]
  refine wpAnyH_done (by kernel_rfl) ?_ _
 all_goals
  go_wp2
  go_ret
  exact .of ⟨rfl,(HE.out W (Upd.refl _ _)).1.quiet (Upd.refl _ _).drew.drew,(HE.out W (Upd.refl _ _)).2.drew.drew⟩
def TwOut (w0 W:World) (p:Nat) (v:Env) (c:Mst) (x y:Int) (e:Ending) (w':World):Prop:=e = .returned (.tuple #[.int .i64 x,.int .i64 y]) ∧ Mo w0 w' p v c ∧ Upd (fun k => k = p) W w'
theorem TwOut.of {w0 W:World} {p:Nat} {v:Env} {c:Mst} {x y:Int} {e:Ending} {w':World} (h:e = .returned (.tuple #[.int .i64 x,.int .i64 y]) ∧ Mo w0 w' p v c ∧ Upd (fun k => k = p) W w'):TwOut w0 W p v c x y e w':=h
theorem two_ {w0 W:World} {p:Nat} {v:Env} {c:Mst} (h:Mo w0 W p v c) {st:List Int} {x y:Int} (hst:c.st = st ++ [x,y]) (hl:st.length < 14) :
 Calls Tryz.prog 248 #[.pointer (some ⟨p,0,none⟩)] W fun e w' => TwOut w0 W p v { c with st:=st } x y e w':=by
 have HP:=hid (pop_ h (st:=st ++ [x]) (x:=y) (by rw [hst]; simp) (by simp; omega))
 have HL:=hid hl
 clear h hst hl
 go_enter Tryz.func248,Tryz.ntmps248
 go_wp2_with (fail)
 refine HP.out.mono ?_
 rintro e w1 ⟨rfl,h1,hu1⟩
 have HQ:=hid (pop_ h1 (st:=st) (x:=x) rfl (by have:=HL.out; omega))
 have HU:=hid hu1
 clear h1 hu1 HP
 go_wp2_with (fail)
 refine HQ.out.mono ?_
 rintro e w2 ⟨rfl,h2,hu2⟩
 have H2:=hid (And.intro h2 (HU.out.next hu2))
 clear h2 hu2 HQ
 go_wp2
 go_ret2
 exact .of ⟨rfl,H2.out⟩
theorem refuse_ {w0 W:World} {p:Nat} {v:Env} {c:Mst} (h:Mo w0 W p v c) :
 Calls Tryz.prog 249 #[.pointer (some ⟨p,0,none⟩),.bool false] W fun e w' => e = .returned (.bool false) ∧ W = w':=by
 obtain ⟨vs,ve,vn,h⟩:=h
 have c8:=(mcells h.blk).2.1.2.1
 have c21:=(mcells h.blk).2.1.2.2.2.2.2.2.1
 clear h
 go_enter Tryz.func249,Tryz.ntmps249
 go_wp2
 go_ret
 exact ⟨rfl,rfl⟩
end Mc
end
