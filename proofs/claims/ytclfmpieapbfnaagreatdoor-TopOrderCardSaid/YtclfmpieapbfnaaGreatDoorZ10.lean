/- Part 10: lemmas, no conditions. -/
import Derived.Test.YtclfmpieapbfnaaGreatDoorZ09
import Derived.Test.YtclfmpieapbfnaaGreatDoorProg
set_option maxHeartbeats 1000000
namespace Go.Proofs.YtclfmpieapbfnaaGreatDoor
set_option linter.unusedVariables false
set_option linter.unusedSimpArgs false
section
namespace Sw
open Go.RowKit B Cm Sm
theorem u8_info:(Tryz.prog.info? 5).map (fun i => (i.zero,i.size,i.bytes)) = some (some (.int .u8 0),1,1):=by kernel_rfl
theorem u8_size:(Tryz.prog.info? 5).map (·.size) = some 1:=by kernel_rfl
theorem sum (A:Option Addr) (c:Nat) (l:List Int) (w:World) (hr:Rn w .u8 A l) (hl:l.length ≤ 9223372036854775807) (hb:Byte l) :
 Calls Tryz.prog 232 #[.slice A l.length c] w fun e w' => e = .returned (.int .u64 (fnv l)) ∧ w = w':=by
 go_enter Tryz.func232,Tryz.ntmps232
 go_wp2
 go_loop [3,8] (fun v3 v8 => ∃ j:Nat,j ≤ l.length ∧ v8 = .int .i64 j ∧ v3 = .int .u64 (fnv (l.take j))) (fun _ v8 => l.length - (intOf v8).toNat)
 case atStart => exact ⟨0,by omega,rfl,rfl⟩
 case round =>
  obtain ⟨j,hj,rfl,rfl⟩:=hrel
  by_cases hlt:j < l.length
  · obtain ⟨ad,rfl,hx⟩:=hr.at_ hlt
    have hby:=hb _ (gi_mem l j hlt)
    have hf:=hid (fnv_step l j hlt)
    go_wp2
    go_round
    case rel => exact ⟨j + 1,by omega,by go_num,by rw [hf.out]; rfl⟩
    case measure => simp [intOf]; omega
  · go_wp2
    go_ret
    exact ⟨by rw [List.take_of_length_le (by omega)]; rfl,rfl⟩
theorem seal_long (A:Option Addr) (c:Nat) (l:List Int) (kind place:Int) (w:World) (hl:242 < l.length) :
 Calls Tryz.prog 176 #[.int .u8 kind,.int .u32 place,.slice A l.length c] w fun e w' => e = .returned (.tuple #[.slice none 0 0,.int .i64 4]) ∧ w = w':=by
 go_enter Tryz.func176,Tryz.ntmps176
 go_wp2
 go_ret2
 exact ⟨rfl,rfl⟩
set_option maxRecDepth 100000 in
theorem seal_ (A:Option Addr) (c:Nat) (l:List Int) (kind place:Int) (w:World) (hr:Rn w .u8 A l) (hl:l.length ≤ 242) (hb:Byte l) (hk:0 ≤ kind ∧ kind ≤ 255) (hp:0 ≤ place ∧ place ≤ 4294967295) :
 Calls Tryz.prog 176 #[.int .u8 kind,.int .u32 place,.slice A l.length c] w fun e w' => ∃ g,e = .returned (.tuple #[.slice (some ⟨g,0,none⟩) 256 256,.int .i64 0]) ∧ Nb w' 5 g (sealed kind place l) ∧ w.heap.size ≤ g ∧ Upd No w w':=by
 go_enter Tryz.func176,Tryz.ntmps176
 go_wp2_with (at_make; go_must (refine mk_nb rfl _ _ 22 5 rfl Tryz.underlying22 u8_info 256 256 rfl rfl rfl (by omega) ?_); intro w1 g hg1 hn1 hu1; have hg:=Nat.le_of_eq hg1.symm; clear hg1; have hc8:=hn1.cell (i:=8) (by simp); have hf8:=Blk.free hn1 8)
 have hn2:=hn1.put 8 kind
 rw [st1_zero kind place] at hn2
 have hb2:=(hu1.old (Nat.le_refl _)).setCell (p:=⟨g,8,none⟩) hg (.int .u8 kind)
 generalize w1.setCell ⟨g,8,none⟩ (.int .u8 kind) = w2 at *
 clear hc8 hf8 hn1 hu1
 go_loopw [19] (fun v19 wr => ∃ j:Nat,j ≤ 4 ∧ v19 = .int .i64 j ∧ Nb wr 5 g (st1 kind place j) ∧ Below w.heap.size w wr) (fun v19 _ => 4 - (intOf v19).toNat)
 case atStart => exact ⟨0,by omega,rfl,hn2,hb2⟩
 case round =>
  obtain ⟨j,hj,rfl,hn3,hb3⟩:=hrel
  clear hn2 hb2
  by_cases hlt:j < 4
  · have hlen:(st1 kind place j).length = 256:=by simp [st1,be_length]; omega
    have hcj:=hn3.cell (i:=9 + j) (by omega)
    have hfj:=Blk.free hn3 (9 + j)
    clear hlen
    go_wp2
    go_roundw
    case rel =>
     refine ⟨j + 1,by omega,by go_num,?_,hb3.setCell (p:=⟨g,9 + j,none⟩) hg _⟩
     have:=hn3.put (9 + j) (place / 256 ^ (4 - 1 - j) % 256)
     rw [st1_succ kind place j hlt] at this
     rw [pow4 j hlt]
     exact this
    case measure => simp [intOf]; omega
  · obtain rfl:j = 4:=by omega
    have hc13:=hn3.cell (i:=13) (by simp [st1,be_length])
    have hf13:=Blk.free hn3 13
    have hl0:0 ≤ (l.length:Int):=by omega
    have hn4:=hn3.put 13 l.length
    have hb4:=hb3.setCell (p:=⟨g,13,none⟩) hg (.int .u8 l.length)
    have hr4:=Rd.below hr (by omega) hb4
    have hlen4:(nums .u8 ((st1 kind place 4).set 13 l.length)).length = 256:=by simp [nums,st1,be_length]
    have hmin:(nums .u8 l).length = Nat.min l.length 242:=by rw [nums_length]; show _ = min l.length 242; omega
    have hfit:14 + (nums .u8 l).length ≤ (nums .u8 ((st1 kind place 4).set 13 l.length)).length:=by rw [hlen4,nums_length]; omega
    have hpos:0 < (nums .u8 l).length → ∃ ad,A = some ad ∧ ∀ j v,(nums .u8 l)[j]? = some v → (wr.setCell ⟨g,13,none⟩ (.int .u8 l.length)).cell? (ad.add j) = some v:=fun h0 => hr4.2 (by rw [nums_length] at h0; exact h0)
    have HN:=hid (show (wr.setCell ⟨g,13,none⟩ (.int .u8 l.length)).heap[g]? = some (.cells (nums .u8 ((st1 kind place 4).set 13 l.length)).toArray 5 (0,0)) from hn4)
    have HM:=hid hmin
    have HF:=hid hfit
    have HP:=hid hpos
    clear hlen4 hmin hfit hpos hr4 hn3
    go_wp2_with (with_reducible refine wpList_copy_splice rfl (.tmp 39) (.tmp 40) 22 22 rfl 5 Tryz.underlying22 u8_size (some ⟨g,14,none⟩) A 242 242 l.length c rfl rfl g 14 (nums .u8 ((st1 kind place 4).set 13 l.length)) 5 HN.out (nums .u8 l) HM.out (fun h0 => ⟨rfl,HP.out h0⟩) HF.out (nums_one _ _) w.heap.size w hb4 hg ?_; intro w5 hh5 hb5; have hn5:=Nb.spliced hh5; clear hh5)
    rw [st1_len kind place l hl] at hn5
    have hrl:=rest_length kind place l hl
    have hs:=sum (some ⟨g,8,none⟩) 248 (rest kind place l) w5 (by have:=hn5.tail 8; simpa [stage] using this) (by omega) (rest_bytes kind place l hk hl hb)
    have hsr:=fnv_range (rest kind place l)
    rw [hrl] at hs
    unfold stage at hn5
    have hfin:sealed kind place l = st2 (fnv (rest kind place l)) (rest kind place l) 8:=(st2_end _ _).symm
    have HFIN:=hid hfin
    clear hfin
    rw [st2_zero (fnv (rest kind place l))] at hn5
    generalize fnv (rest kind place l) = s at *
    generalize rest kind place l = r at *
    have HS:=hid hs
    clear hs HM HF HP HN hn4 hb4 hb3 hc13 hf13
    refine Calls.mono HS.out ?_
    rintro e w6 ⟨rfl,rfl⟩
    clear HS
    go_wp2
    go_loopw [45] (fun v45 wr => ∃ j:Nat,j ≤ 8 ∧ v45 = .int .i64 j ∧ Nb wr 5 g (st2 s r j) ∧ Below w.heap.size w wr) (fun v45 _ => 8 - (intOf v45).toNat)
    case atStart => exact ⟨0,by omega,rfl,hn5,hb5⟩
    case round =>
     obtain ⟨j,hj,rfl,hn6,hb6⟩:=hrel
     clear hn5 hb5
     by_cases hlt:j < 8
     · have hcj:=hn6.cell (i:=j) (by simp [st2,be_length]; omega)
       have hfj:=Blk.free hn6 j
       go_wp2
       go_roundw
       case rel =>
        refine ⟨j + 1,by omega,by go_num,?_,hb6.setCell (p:=⟨g,j,none⟩) hg _⟩
        have:=hn6.put j (s / 256 ^ (8 - 1 - j) % 256)
        rw [st2_succ s r j hlt] at this
        rw [pow8 j hlt]
        exact this
       case measure => simp [intOf]; omega
     · obtain rfl:j = 8:=by omega
       go_wp2
       go_ret2
       exact ⟨g,rfl,HFIN.out ▸ hn6,hg,Upd.of_below No hb6⟩
end Sw
end
section
namespace Sw
open Go.RowKit B Cm Sm
theorem equal (A1 A2:Option Addr) (c1 c2:Nat) (l1 l2:List Int) (w:World) (h1:Rn w .u8 A1 l1) (h2:Rn w .u8 A2 l2) (b1:Byte l1) (b2:Byte l2) (r:Bool) (hr:decide (l1 = l2) = r) :
 Calls Tryz.prog 219 #[.slice A1 l1.length c1,.slice A2 l2.length c2] w fun e w' => e = .returned (.bool r) ∧ w = w':=by
 have hc1:=conv_str (P:=Tryz.prog) h1 22 9 5 c1 Tryz.underlying22 Tryz.underlying5 Tryz.underlying9
 have hc2:=conv_str (P:=Tryz.prog) h2 22 9 5 c2 Tryz.underlying22 Tryz.underlying5 Tryz.underlying9
 have hE:=str_eq l1 l2 b1 b2
 rw [hr] at hE
 clear hr
 go_enter Tryz.func219,Tryz.ntmps219
 go_wp2
 go_ret
 exact ⟨rfl,rfl⟩
theorem clone_some (ad:Addr) (c:Nat) (l:List Int) (w:World) (hr:Rn w .u8 (some ad) l) (hl:l.length ≤ 140737488355328) :
 Calls Tryz.prog 90 #[.slice (some ad) l.length c] w fun e w' => ∃ A' c',e = .returned (.slice A' l.length c') ∧ w'.ownsRow w.heap.size 5 1 (.slice A' l.length c') l.length (nums .u8 l) ∧ Upd No w w':=by
 have hnn:=fun W => Lib.run_eql_slice_nil (P:=Tryz.prog) W 22 5 (some ad) l.length c 0 0 Tryz.underlying22
 go_enter Tryz.func90,Tryz.ntmps90
 go_wp2_with (at_builtin; go_must (refine ap_row w.heap.size rfl (.tmp 5) (.tmp 6) 22 5 (.int .u8 0) 1 1 rfl Tryz.underlying22 u8_info rfl (by omega) (.slice (some ⟨w.heap.size,0,none⟩) 0 0) 0 [] (some ad) l.length c (nums .u8 l) rfl rfl (World.ownsRow_made w #[] 0 (Nat.le_refl _) (Nat.zero_le _) rfl) (Rd.alloc hr (by omega) _) (nums_one _ _) (by omega) (by omega) (by simp) ?_); intro A1 c1 w1 ho1 hg1 hat1)
 have hw1:Below w.heap.size w w1:=((Below.refl _ _).alloc (Nat.le_refl _) _).grown hg1 (by simp) fun k hk => by
  have:w.heap.size = k:=by simpa [Value.ownBlock] using hk
  omega
 rw [Nat.zero_add] at ho1
 go_ret
 exact ⟨A1,c1,rfl,ho1,Upd.of_below No hw1⟩
theorem clone_none (n c:Nat) (w:World):Calls Tryz.prog 90 #[.slice none n c] w fun e w' => e = .returned (.slice none 0 0) ∧ w = w':=by
 have hnn:=fun W => Lib.run_eql_slice_nil (P:=Tryz.prog) W 22 5 none n c 0 0 Tryz.underlying22
 go_enter Tryz.func90,Tryz.ntmps90
 go_wp2
 go_ret
 exact ⟨rfl,rfl⟩
theorem clone (A:Option Addr) (c:Nat) (l:List Int) (w:World) (hr:Rn w .u8 A l) (hl:l.length ≤ 140737488355328) :
 Calls Tryz.prog 90 #[.slice A l.length c] w fun e w' => ∃ A' c',e = .returned (.slice A' l.length c') ∧ w'.ownsRow w.heap.size 5 1 (.slice A' l.length c') l.length (nums .u8 l) ∧ Upd No w w':=by
 rcases A with _ | ad
 · have h0:l = []:=by
    rcases Nat.eq_zero_or_pos l.length with h0 | h0
    · exact List.eq_nil_of_length_eq_zero h0
    · obtain ⟨ad,h',_⟩:=hr.2 h0
      cases h'
   subst h0
   refine (clone_none _ c w).mono ?_
   rintro e w' ⟨rfl,rfl⟩
   exact ⟨none,0,rfl,World.ownsRow_nil _ _ _ _,Upd.refl _ _⟩
 · exact clone_some ad c l w hr hl
def OpenPost (ok:Bool) (q:List Int) (w:World) (e:Ending) (w':World):Prop:=
 ∃ A c,e = .returned (.tuple #[.slice A q.length c,.bool ok]) ∧ w'.ownsRow w.heap.size 5 1 (.slice A q.length c) q.length (nums .u8 q) ∧ Upd No w w'
theorem OpenPost.no (w w':World) (hu:Upd No w w'):OpenPost false [] w (.returned (.tuple #[.slice none 0 0,.bool false])) w':=⟨none,0,rfl,World.ownsRow_nil _ _ _ _,hu⟩
theorem open_short (A:Option Addr) (c:Nat) (l:List Int) (kind place:Int) (w:World) (hl:l.length ≠ 256) (hm:l.length ≤ 9223372036854775807) :
 Calls Tryz.prog 145 #[.int .u8 kind,.int .u32 place,.slice A l.length c] w (OpenPost false [] w):=by
 have hne:((l.length:Int) != 256) = true:=by rw [bne_iff_ne]; omega
 go_enter Tryz.func145,Tryz.ntmps145
 go_wp2
 go_ret2
 exact OpenPost.no _ _ (Upd.refl _ _)
theorem open_wide (A:Option Addr) (c:Nat) (l:List Int) (kind place:Int) (w:World) (hr:Rn w .u8 A l) (hl:l.length = 256) (hb:Byte l) (hg:242 < gi l 13) :
 Calls Tryz.prog 145 #[.int .u8 kind,.int .u32 place,.slice A 256 c] w (OpenPost false [] w):=by
 obtain ⟨ad,rfl,hx⟩:=hr.at_ (i:=13) (by omega)
 have hx13:w.cell? ⟨ad.block,ad.off + 13,none⟩ = some (.int .u8 (gi l 13)):=hx
 have hby:=hb _ (gi_mem l 13 (by omega))
 clear hl hx
 go_enter Tryz.func145,Tryz.ntmps145
 go_wp2
 go_ret2
 exact OpenPost.no _ _ (Upd.refl _ _)
set_option maxRecDepth 100000 in
theorem open_of (ok:Bool) (l q:List Int) (hq:q = if ok then pay l else []) (A:Option Addr) (c:Nat) (kind place:Int) (w:World) (hr:Rn w .u8 A l) (hl:l.length = 256) (hc:256 ≤ c) (hb:Byte l) (hg:gi l 13 ≤ 242) (hk:0 ≤ kind ∧ kind ≤ 255) (hp:0 ≤ place ∧ place ≤ 4294967295)
 (hok:decide (sealed kind place (pay l) = l) = ok) :
 Calls Tryz.prog 145 #[.int .u8 kind,.int .u32 place,.slice A 256 c] w (OpenPost ok q w):=by
 obtain ⟨ad,rfl,hx⟩:=hr.at_ (i:=13) (by omega)
 have hx13:w.cell? ⟨ad.block,ad.off + 13,none⟩ = some (.int .u8 (gi l 13)):=hx
 have hby:=hb _ (gi_mem l 13 (by omega))
 have hpl:=pay_length l hl hg
 have hpb:=pay_bytes l hb
 have hrp:Rn w .u8 (some ⟨ad.block,ad.off + 14,none⟩) (pay l):=by
  have h1:=(hr.drop (i:=14) (c:=100000) (by omega) (by omega)).take (i:=(gi l 13).toNat) (by rw [List.length_drop]; omega)
  exact h1
 obtain ⟨m,hm⟩:∃ m:Nat,gi l 13 = m:=⟨(gi l 13).toNat,by omega⟩
 have hmp:(pay l).length = m:=by omega
 obtain ⟨A',hA',hcut⟩:=cut_mid (P:=Tryz.prog) 22 5 .i64 .i64 Tryz.underlying22 u8_size (some ad) 256 c 14 (14 + m) m 14 (14 + (m:Int)) rfl (by omega) (by omega) (by omega) (by omega)
 rw [if_neg (by omega)] at hA'
 have hA2:A' = some ⟨ad.block,ad.off + 14,none⟩:=hA'
 subst hA2
 clear hA'
 have hs:=seal_ (some ⟨ad.block,ad.off + 14,none⟩) (c - 14) (pay l) kind place w hrp (by omega) hpb hk hp
 rw [hmp] at hs
 have HS:=hid hs
 have hcl:=fun W (hu:Upd No w W) => clone (some ⟨ad.block,ad.off + 14,none⟩) (c - 14) (pay l) W (Rd.upd hrp (by omega) hu fun _ _ => no_ _) (by omega)
 rw [hmp] at hcl
 have HC:=hid hcl
 have hx13m:w.cell? ⟨ad.block,ad.off + 13,none⟩ = some (.int .u8 (m:Int)):=by rw [← hm]; exact hx13
 have hbnd:m ≤ 242:=by omega
 have hsl:=sealed_length kind place (pay l) (by omega)
 have hsb:=sealed_bytes kind place (pay l) hk (by omega) hpb
 have HQ:=hid (show ∀ (w':World) (A':Option Addr) (c':Nat),w'.ownsRow w.heap.size 5 1 (.slice A' m c') m (nums .u8 (pay l)) → Upd No w w' → OpenPost true (pay l) w (.returned (.tuple #[.slice A' m c',.bool true])) w' from fun w' A' c' h1 h2 => ⟨A',c',by rw [hmp],by rw [hmp]; exact h1,h2⟩)
 have HL:=hid hl
 have H9:=hid hq
 clear hq
 clear hs hcl hm hx hx13 hmp hpl hby hrp hg hl
 go_enter Tryz.func145,Tryz.ntmps145
 go_wp2_with (fail)
 refine Calls.mono HS.out ?_
 rintro e w1 ⟨g,rfl,hn1,hg1,hu1⟩
 have he:=equal (some ⟨g,0,none⟩) (some ad) 256 c (sealed kind place (pay l)) l w1 hn1.rn (Rd.upd hr (by omega) hu1 fun _ _ => no_ _) hsb hb ok hok
 rw [hsl,HL.out] at he
 have HE:=hid he
 clear he HS
 go_wp2_with (fail)
 refine Calls.mono HE.out ?_
 rintro e w2 ⟨rfl,rfl⟩
 clear HE hsl hok
 cases ok
 · obtain rfl:q = []:=by simpa using H9.out
   go_wp2
   go_ret2
   exact OpenPost.no _ _ hu1
 · obtain rfl:q = pay l:=by simpa using H9.out
   go_wp2_with (fail)
   refine Calls.mono (HC.out _ hu1) ?_
   rintro e w3 ⟨A3,c3,rfl,ho3,hu3⟩
   go_wp2
   go_ret2
   exact HQ.out _ _ _ (own_base ho3 hu1.size) (hu1.next hu3)
theorem open_ (A:Option Addr) (c:Nat) (l:List Int) (kind place:Int) (w:World) (hr:Rn w .u8 A l) (hc:l.length ≤ c) (hm:c ≤ 9223372036854775807) (hb:Byte l) (hk:0 ≤ kind ∧ kind ≤ 255) (hp:0 ≤ place ∧ place ≤ 4294967295) :
 Calls Tryz.prog 145 #[.int .u8 kind,.int .u32 place,.slice A l.length c] w (OpenPost (okOf kind place l) (outOf kind place l) w):=by
 by_cases hl:l.length = 256
 · by_cases hg:gi l 13 ≤ 242
   · have h:=open_of (okOf kind place l) l (outOf kind place l) rfl A c kind place w hr hl (by omega) hb hg hk hp (by simp [okOf,hl,hg])
     rwa [← hl] at h
   · have h:=open_wide A c l kind place w hr hl hb (by omega)
     have e:okOf kind place l = false:=by simp [okOf,hg]
     rw [← hl] at h
     simpa [outOf,e] using h
 · have e:okOf kind place l = false:=by simp [okOf,hl]
   simpa [outOf,e] using open_short A c l kind place w hl (by omega)
end Sw
end
