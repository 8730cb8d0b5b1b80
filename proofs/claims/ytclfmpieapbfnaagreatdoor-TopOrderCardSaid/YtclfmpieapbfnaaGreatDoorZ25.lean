/- Part 25: lemmas, no conditions. -/
import Derived.Test.YtclfmpieapbfnaaGreatDoorZ07
import Derived.Test.YtclfmpieapbfnaaGreatDoorZ01
import Derived.Test.YtclfmpieapbfnaaGreatDoorZ05
import Derived.Test.YtclfmpieapbfnaaGreatDoorProg
import Derived.Deep.RegionHeld3
import Derived.Deep.RegionLaw
import Derived.Deep.DrawnRows
set_option maxHeartbeats 2000000
namespace Go.Proofs.YtclfmpieapbfnaaGreatDoor
set_option linter.unusedVariables false
set_option linter.unusedSimpArgs false
section
namespace Cw
open Go.RowKit B Cm Len
theorem u8_info:(Tryz.prog.info? 5).map (fun i => (i.zero,i.size,i.bytes)) = some (some (.int .u8 0),1,1):=by kernel_rfl
def Wr (w:World) (F:Nat → Prop) (p:Nat) (bs:List Int):Prop:=
 ∃ v,Blk w p 276 #[v] ∧ w.ownsRow 0 5 1 v bs.length (nums .u8 bs) ∧ ∀ k,F k ↔ k = p ∨ v.ownBlock = some k
theorem Wr.keep {w w':World} {F:Nat → Prop} {p:Nat} {bs:List Int} (h:Wr w F p bs) {G:Nat → Prop} (hu:Upd G w w') (hn:∀ k,F k → ¬ G k):Wr w' F p bs:=by
 obtain ⟨v,hb,ho,hF⟩:=h
 exact ⟨v,hb.upd hu (hn p ((hF p).2 (.inl rfl))),own_upd ho hu fun g hg => hn g ((hF g).2 (.inr hg)),hF⟩
theorem Wr.lt {w:World} {F:Nat → Prop} {p:Nat} {bs:List Int} (h:Wr w F p bs):∀ k,F k → k < w.heap.size:=by
 obtain ⟨v,hb,ho,hF⟩:=h
 intro k hk
 rcases (hF k).1 hk with rfl | hk
 · exact hb.lt
 · exact (ho.lt k hk).2
theorem Wr.pushed' {w w1:World} {F:Nat → Prop} {p c:Nat} {A:Option Addr} {v:Value} {bs cs:List Int} (hb:Blk w p 276 #[v]) (ho:w.ownsRow 0 5 1 v bs.length (nums .u8 bs)) (hF:∀ k,F k ↔ k = p ∨ v.ownBlock = some k)
 (ho1:w1.ownsRow 0 5 1 (.slice A (bs.length + cs.length) c) (bs.length + cs.length) (nums .u8 bs ++ nums .u8 cs)) {W:World} (hW:Upd No w W) (hg1:W.grownBy w1 v.ownBlock)
 (hat:∀ g,(Value.slice A (bs.length + cs.length) c).ownBlock = some g → v.ownBlock = some g ∨ W.heap.size ≤ g) (hb1:Blk w1 p 276 #[v]) :
 ∃ F',Wr (w1.setCell ⟨p,0,none⟩ (.slice A (bs.length + cs.length) c)) F' p (bs ++ cs) ∧ Mv F F' w (w1.setCell ⟨p,0,none⟩ (.slice A (bs.length + cs.length) c)):=by
 have hne:=own_blk_ne ho1 hb1 (by decide)
 refine ⟨fun k => k = p ∨ (Value.slice A (bs.length + cs.length) c).ownBlock = some k,⟨_,hb1.put 0 _,?_,fun k => Iff.rfl⟩,⟨?_,?_⟩⟩
 · rw [nums_append,List.length_append]
   exact own_keep ho1 fun k hk => Below.heap_setCell _ _ _ _ (by rintro rfl; exact hne hk)
 · exact ((hW.mono fun _ _ h => h.elim).grown hg1 fun k hk => .inl ((hF k).2 (.inr hk))).set (.inl ((hF p).2 (.inl rfl))) _
 · rintro k (rfl | hk)
   · exact .inl ((hF _).2 (.inl rfl))
   · rcases hat k hk with h | h
     · exact .inl ((hF _).2 (.inr h))
     · exact .inr (Nat.le_trans hW.size h)
theorem Wr.pushed {w w1:World} {F:Nat → Prop} {p g c:Nat} {v:Value} {bs cs:List Int} (hb:Blk w p 276 #[v]) (ho:w.ownsRow 0 5 1 v bs.length (nums .u8 bs)) (hF:∀ k,F k ↔ k = p ∨ v.ownBlock = some k)
 (ho1:w1.ownsRow 0 5 1 (.slice (some ⟨g,0,none⟩) (bs.length + cs.length) c) (bs.length + cs.length) (nums .u8 bs ++ nums .u8 cs)) {W:World} (hW:Upd No w W) (hg1:W.grownBy w1 v.ownBlock) (hat:v.ownBlock = some g ∨ W.heap.size ≤ g) (hb1:Blk w1 p 276 #[v]) :
 ∃ F',Wr (w1.setCell ⟨p,0,none⟩ (.slice (some ⟨g,0,none⟩) (bs.length + cs.length) c)) F' p (bs ++ cs) ∧ Mv F F' w (w1.setCell ⟨p,0,none⟩ (.slice (some ⟨g,0,none⟩) (bs.length + cs.length) c)):=
 Wr.pushed' hb ho hF ho1 hW hg1 (fun k hk => by
  have:g = k:=by simpa [Value.ownBlock] using hk
  subst this
  exact hat) hb1
theorem newWriter (w:World):Calls Tryz.prog 66 #[] w fun e w' => e = .returned (.pointer (some ⟨w.heap.size,0,none⟩)) ∧ w.alloc (.cells #[.slice none 0 0] 276) = w':=by
 go_enter Tryz.func66,Tryz.ntmps66
 go_wp2
 go_ret
 exact ⟨rfl,rfl⟩
theorem Wr.new (w:World):Wr (w.alloc (.cells #[.slice none 0 0] 276)) (fun k => k = w.heap.size) w.heap.size []:=
 ⟨_,Blk.fresh w _ _,World.ownsRow_nil _ _ _ _,fun k => by simp [Value.ownBlock]⟩
theorem number_small (p:Nat) (bs:List Int) (n:Int) (F:Nat → Prop) (w:World) (hw:Wr w F p bs) (h0:0 ≤ n) (h1:n < 248) (hl:bs.length ≤ 140737488355327) :
 Calls Tryz.prog 105 #[.pointer (some ⟨p,0,none⟩),.int .u64 n] w fun e w' => e = .returned (.tuple #[]) ∧ ∃ F',Wr w' F' p (bs ++ [n]) ∧ Mv F F' w w':=by
 obtain ⟨v,hb,ho,hF⟩:=hw
 have hc:=hb.cell 0
 have hf:=hb.free 0
 simp at hc
 go_enter Tryz.func105,Tryz.ntmps105
 go_wp2_with (at_builtin; go_must (refine ap_one rfl (.tmp 14) (.tmp 17) 22 5 (.int .u8 0) 1 rfl Tryz.underlying22 u8_info rfl v bs.length (nums .u8 bs) _ rfl rfl (Blk.fresh _ _ _) rfl (ho.alloc _) (by omega) (by omega) ?_); intro g1 c1 w1 ho1 hg1 hat1; have hb1:=(hb.alloc _).grown hg1 (own_blk_ne ho hb (by decide)).symm; have hc1:=hb1.cell 0; have hf1:=hb1.free 0; simp at hc1)
 exact bodyPost_ret (results_none rfl _ _ _) rfl ⟨rfl,Wr.pushed (cs:=[n]) hb ho hF ho1 ((Upd.refl _ _).alloc _) hg1 hat1 hb1⟩
theorem shift_byte (n:Int) (k j:Nat) (hj:j < k) (hk:k ≤ 8):Op.shift .shr .u64 n .i64 (IntKind.i64.wrap (8 * ((k:Int) - 1 - j))) = pure (.int .u64 (n / 256 ^ (k - 1 - j))):=by
 have e:IntKind.i64.wrap (8 * ((k:Int) - 1 - j)) = 8 * ((k:Int) - 1 - j):=IntWalk.i64_in _ (by omega)
 have e2:(8 * ((k:Int) - 1 - j)).toNat = 8 * (k - 1 - j):=by omega
 rw [e,shift_shr_u64 _ _ _ (by omega) (by omega),e2,Int.pow_mul]
 rfl
set_option maxRecDepth 100000 in
theorem number_big (p:Nat) (bs:List Int) (n:Int) (F:Nat → Prop) (w:World) (hw:Wr w F p bs) (h0:248 ≤ n) (h1:n ≤ 18446744073709551615) (hl:bs.length ≤ 140737488355000) :
 Calls Tryz.prog 105 #[.pointer (some ⟨p,0,none⟩),.int .u64 n] w fun e w' => e = .returned (.tuple #[]) ∧ ∃ F',Wr w' F' p (bs ++ (247 + nb n:Int) :: be n (nb n) (nb n)) ∧ Mv F F' w w':=by
 obtain ⟨v,hb,ho,hF⟩:=hw
 have hc:=hb.cell 0
 have hf:=hb.free 0
 simp at hc
 have hnb:=nb_pos n
 go_enter Tryz.func105,Tryz.ntmps105
 go_wp2_with (fail)
 refine (len64 n w (by omega) h1).mono ?_
 rintro e w' ⟨L,rfl,⟨hL0,hL1,hL⟩,rfl⟩
 have hk:=hL h0
 clear hL
 go_wp2_with (at_builtin; go_must (refine ap_one rfl (.tmp 29) (.tmp 33) 22 5 (.int .u8 0) 1 rfl Tryz.underlying22 u8_info rfl v bs.length (nums .u8 bs) _ rfl rfl (Blk.fresh _ _ _) rfl (ho.alloc _) (by omega) (by omega) ?_); intro g1 c1 w1 ho1 hg1 hat1; have hb1:=(hb.alloc _).grown hg1 (own_blk_ne ho hb (by decide)).symm; have hc1:=hb1.cell 0; have hf1:=hb1.free 0; simp at hc1)
 obtain ⟨F1,hw1,hm1⟩:=Wr.pushed (cs:=[247 + (nb n:Int)]) hb ho hF ho1 ((Upd.refl _ _).alloc _) hg1 hat1 hb1
 generalize hg:(w1.setCell ⟨p,0,none⟩ (.slice (some ⟨g1,0,none⟩) (bs.length + 1) c1)) = w2 at *
 clear hg ho1 hg1 hat1 hb1 hc1 hf1 hb ho hF hc hf hk hL0 hL1
 have h0':=h0
 go_loopw [5] (fun v5 wr => ∃ (j:Nat) (F':Nat → Prop) (cs:List Int),j ≤ nb n ∧ v5 = .int .i64 ((nb n:Int) - 1 - j) ∧ Hid (cs = bs ++ (247 + nb n:Int) :: be n (nb n) j) ∧ Wr wr F' p cs ∧ Mv F F' w wr) (fun v5 _ => (intOf v5 + 1).toNat)
 case atStart => exact ⟨0,F1,_,by omega,by simp,hid (by simp [be]),hw1,hm1⟩
 case round =>
  obtain ⟨j,F2,cs,hj,rfl,hcs,hw2,hm2⟩:=hrel
  have hlen:cs.length ≤ 140737488355100:=by rw [hcs.out]; simp [be_length]; omega
  obtain ⟨v2,hb,ho,hF⟩:=hw2
  have hc:=hb.cell 0
  have hf:=hb.free 0
  simp at hc
  by_cases hlt:j < nb n
  · have hg1:(0:Int) ≤ (nb n:Int) - 1 - j:=by omega
    have k1:cs.length + 1 ≤ 9223372036854775807:=by omega
    have k2:(cs.length + 1) * 1 ≤ 140737488355328:=by omega
    have hca:∀ o,(wr.alloc o).cell? ⟨p,0,none⟩ = some v2:=fun o => by simpa using (hb.alloc o).cell 0
    have hsh:=shift_byte n (nb n) j hlt (by omega)
    go_wp2
    go_region_law ((refine step_ap_one (by rfl) (.tmp 47) (.tmp 53) 22 5 (.int .u8 0) 1 (by rfl) Tryz.underlying22 u8_info rfl v2 _ _ (.int .u8 (IntKind.u8.wrap (n / 256 ^ (nb n - 1 - j)))) (by rfl) (b:=wr.heap.size) (by rfl) (Blk.fresh wr _ _).drew rfl (own_drew (ho.alloc _)) k1 k2 ?_; intro g1 c1 w1 ho1 hg1 hat1; have hb1:=((hb.alloc _).drew).grown hg1 (own_blk_ne ho hb (by decide)).symm; have hf1:=hb1.free 0; have hc1:=hb1.cell 0; simp at hc1))
    all_goals
     obtain ⟨F3,hw3,hm3⟩:=Wr.pushed (cs:=[n / 256 ^ (nb n - 1 - j) % 256]) hb ho hF (by simpa [nums,IntKind.wrap_u8] using ho1) ((Upd.refl _ _).alloc _).drew hg1 hat1 hb1
     go_wp2
     go_roundw
     case rel => exact ⟨j + 1,F3,_,by omega,by go_num,hid (by rw [hcs.out,be_succ]; simp),hw3,hm2.trans hm3⟩
     case measure => simp [intOf]; omega
  · have hg1:¬ (0:Int) ≤ (nb n:Int) - 1 - j:=by omega
    go_wp2
    obtain rfl:j = nb n:=by omega
    go_end0
    exact ⟨rfl,F2,hcs.out ▸ ⟨v2,hb,ho,hF⟩,hm2⟩
theorem number (p:Nat) (bs:List Int) (n:Int) (F:Nat → Prop) (w:World) (hw:Wr w F p bs) (h0:0 ≤ n) (h1:n ≤ 18446744073709551615) (hl:bs.length ≤ 140737488355000) :
 Calls Tryz.prog 105 #[.pointer (some ⟨p,0,none⟩),.int .u64 n] w fun e w' => e = .returned (.tuple #[]) ∧ ∃ F',Wr w' F' p (bs ++ num n) ∧ Mv F F' w w':=by
 unfold num
 by_cases h:n < 248
 · rw [if_pos h]
   exact number_small p bs n F w hw h0 h (by omega)
 · rw [if_neg h]
   exact number_big p bs n F w hw (by omega) h1 hl
end Cw
end
section
namespace Cw
open Go.RowKit B Cm
def zz (n:Int):Int:=if 0 ≤ n then 2 * n else -2 * n - 1
theorem zz_range (n:Int) (h0:-9223372036854775808 ≤ n) (h1:n ≤ 9223372036854775807):0 ≤ zz n ∧ zz n ≤ 18446744073709551615:=by unfold zz; split <;> omega
theorem xor_zero (a:Int) (h0:0 ≤ a) (h1:a < 18446744073709551616):bits .xor .u64 a 0 = a:=by
 show IntKind.u64.wrap ((BitVec.ofInt 64 a ^^^ BitVec.ofInt 64 0).toNat:Int) = _
 have e:BitVec.ofInt 64 0 = 0#64:=rfl
 rw [e,BitVec.xor_zero,BitVec.toNat_ofInt,IntKind.wrap_u64]
 omega
theorem xor_ones (a:Int) (h0:0 ≤ a) (h1:a < 18446744073709551616):bits .xor .u64 a 18446744073709551615 = 18446744073709551615 - a:=by
 show IntKind.u64.wrap ((BitVec.ofInt 64 a ^^^ BitVec.ofInt 64 18446744073709551615).toNat:Int) = _
 have e:BitVec.ofInt 64 18446744073709551615 = BitVec.allOnes 64:=by decide
 rw [e,BitVec.xor_allOnes,BitVec.toNat_not,BitVec.toNat_ofInt,IntKind.wrap_u64]
 omega
theorem zz_eq (n:Int) (h0:-9223372036854775808 ≤ n) (h1:n ≤ 9223372036854775807) :
 bits .xor .u64 (IntKind.u64.wrap (IntKind.u64.wrap n * 2)) (IntKind.u64.wrap (n / 9223372036854775808)) = zz n:=by
 unfold zz
 simp only [IntKind.wrap_u64]
 by_cases h:0 ≤ n
 · rw [if_pos h,show n / 9223372036854775808 % 18446744073709551616 = 0 from by omega,xor_zero _ (by omega) (by omega)]
   omega
 · rw [if_neg h,show n / 9223372036854775808 % 18446744073709551616 = 18446744073709551615 from by omega,xor_ones _ (by omega) (by omega)]
   omega
theorem int_ (p:Nat) (bs:List Int) (n:Int) (F:Nat → Prop) (w:World) (hw:Wr w F p bs) (h0:-9223372036854775808 ≤ n) (h1:n ≤ 9223372036854775807) (hl:bs.length ≤ 140737488355000) :
 Calls Tryz.prog 67 #[.pointer (some ⟨p,0,none⟩),.int .i64 n] w fun e w' => e = .returned (.tuple #[]) ∧ ∃ F',Wr w' F' p (bs ++ num (zz n)) ∧ Mv F F' w w':=by
 have hz:=zz_eq n h0 h1
 have hr:=zz_range n h0 h1
 go_enter Tryz.func67,Tryz.ntmps67
 go_wp2_with (fail)
 refine (number p bs (zz n) F w hw hr.1 hr.2 hl).mono ?_
 rintro e w' ⟨rfl,F1,hw1,hm1⟩
 go_wp2
 go_end0
 exact ⟨rfl,F1,hw1,hm1⟩
theorem bytes_ (p:Nat) (bs:List Int) (F:Nat → Prop) (w:World) (hw:Wr w F p bs) (hl:bs.length ≤ 140737488355328) :
 Calls Tryz.prog 68 #[.pointer (some ⟨p,0,none⟩)] w fun e w' => ∃ v,e = .returned v ∧ w'.ownsRow w.heap.size 5 1 v bs.length (nums .u8 bs) ∧ Below w.heap.size w w':=by
 obtain ⟨v,hb,ho,hF⟩:=hw
 have hc:=hb.cell 0
 obtain ⟨A,c,rfl,hc1,hc2⟩:=own_shape ho
 have hca:∀ o,(w.alloc o).cell? ⟨p,0,none⟩ = some (.slice A bs.length c):=fun o => by simpa using (hb.alloc o).cell 0
 simp at hc
 go_enter Tryz.func68,Tryz.ntmps68
 go_wp2_with (at_builtin; go_must (refine ap_row w.heap.size rfl (.tmp 5) (.tmp 9) 22 5 (.int .u8 0) 1 1 rfl Tryz.underlying22 u8_info rfl (by omega) (.slice (some ⟨w.heap.size,0,none⟩) 0 0) 0 [] A bs.length c (nums .u8 bs) rfl rfl (World.ownsRow_made w #[] 0 (Nat.le_refl _) (Nat.zero_le _) rfl) ((Rd.of_own ho).alloc (by omega) _) (nums_one _ _) (by omega) (by omega) (by simp) ?_); intro A1 c1 w1 ho1 hg1 hat1)
 go_ret
 refine ⟨_,rfl,by simpa using ho1,((Below.refl _ _).alloc (Nat.le_refl _) _).grown hg1 (by simp) ?_⟩
 intro k hk
 have:w.heap.size = k:=by simpa [Value.ownBlock] using hk
 omega
theorem text_ (p:Nat) (bs:List Int) (s:ByteArray) (F:Nat → Prop) (w:World) (hw:Wr w F p bs) (hl:bs.length + s.size ≤ 140737488355000) :
 Calls Tryz.prog 106 #[.pointer (some ⟨p,0,none⟩),.string s] w fun e w' => e = .returned (.tuple #[]) ∧ ∃ F',Wr w' F' p (bs ++ num s.size ++ sb s) ∧ Mv F F' w w':=by
 have hnl:=num_length s.size
 go_enter Tryz.func106,Tryz.ntmps106
 go_wp2_with (fail)
 refine (number p bs s.size F w hw (by omega) (by omega) (by omega)).mono ?_
 rintro e w' ⟨rfl,F1,hw1,hm1⟩
 obtain ⟨ds,hds,hdl⟩:∃ ds,Hid (ds = bs ++ num s.size) ∧ ds.length + s.size ≤ 140737488355328:=⟨_,hid rfl,by simp; omega⟩
 rw [← hds.out] at hw1
 obtain ⟨v,hb,ho,hF⟩:=hw1
 have hc:=hb.cell 0
 have hf:=hb.free 0
 simp at hc
 go_wp2_with (at_builtin; go_must (refine ap_str 0 rfl (.tmp 15) (.tmp 16) 22 9 5 rfl Tryz.underlying22 Tryz.underlying9 u8_info v ds.length (nums .u8 ds) s rfl rfl ho hdl (Nat.zero_le _) ?_); intro A1 c1 w1 ho1 hg1 hat1; have hb1:=hb.grown hg1 (own_blk_ne ho hb (by decide)).symm; have hc1:=hb1.cell 0; have hf1:=hb1.free 0; simp at hc1)
 go_end0
 obtain ⟨F2,hw2,hm2⟩:=Wr.pushed' (cs:=sb s) hb ho hF (by rw [sb_length,← sb_cells]; exact ho1) (Upd.refl _ _) hg1 (by rw [sb_length]; exact hat1) hb1
 rw [sb_length] at hw2 hm2
 exact ⟨rfl,F2,hds.out ▸ hw2,hm1.trans hm2⟩
end Cw
end
section
namespace Cr
open Go.RowKit B Cm Cw
def Byte (l:List Int):Prop:=∀ c ∈ l,0 ≤ c ∧ c ≤ 255
structure Rr (T:TypeId) (w:World) (F:Nat → Prop) (p:Nat) (A:Option Addr) (c:Nat) (l:List Int) (bad:Bool):Prop where
 blk:Blk w p T #[.slice A l.length c,.bool bad]
 rd:Rn w .u8 A l
 cap:l.length ≤ c
 top:c ≤ 9223372036854775807
 byte:Byte l
 nil:bad = true → l = []
 here:F p
 row:l ≠ [] → ∀ ad,A = some ad → F ad.block ∧ ad.block ≠ p
 lt:∀ k,F k → k < w.heap.size
theorem Rd.upd0 {w w':World} {A:Option Addr} {n size:Nat} {xs:List Value} {F:Nat → Prop} (h:Rd w size A n xs) (hs:0 < size) (hu:Upd F w w') (hn:0 < n → ∀ ad,A = some ad → ¬ F ad.block):Rd w' size A n xs:=by
 by_cases h0:0 < n
 · exact Rd.upd h hs hu (hn h0)
 · exact ⟨h.1,fun h1 => absurd h1 h0⟩
theorem Rr.keep {T:TypeId} {w w':World} {F G:Nat → Prop} {p c:Nat} {A:Option Addr} {l:List Int} {bad:Bool} (h:Rr T w F p A c l bad) (hu:Upd G w w') (hn:∀ k,F k → ¬ G k):Rr T w' F p A c l bad:=
 { h with blk:=h.blk.upd hu (hn p h.here),rd:=Rd.upd0 h.rd (by omega) hu fun h0 ad e => hn _ (h.row (List.length_pos_iff.1 h0) ad e).1,lt:=fun k hk => Nat.lt_of_lt_of_le (h.lt k hk) hu.size }
theorem Rr.cut {T:TypeId} {w:World} {F:Nat → Prop} {p c:Nat} {A:Option Addr} {l:List Int} {bad:Bool} (h:Rr T w F p A c l bad) {m:Nat} (hm:m ≤ l.length) {A':Option Addr} (hA:A' = (if c = m then A else A.map (·.add m))) :
 Rr T (w.setCell ⟨p,0,none⟩ (.slice A' (l.length - m) (c - m))) F p A' (c - m) (l.drop m) bad:=by
 subst hA
 have hu:Upd (fun k => k = p) w (w.setCell ⟨p,0,none⟩ (.slice (if c = m then A else A.map (·.add m)) (l.length - m) (c - m))):=Upd.set (F:=fun k => k = p) (Upd.refl _ _) (.inl rfl) _
 have hr:l.drop m ≠ [] → ∀ ad,(if c = m then A else A.map (·.add m)) = some ad → F ad.block ∧ ad.block ≠ p:=fun hne ad e => by
  obtain ⟨ad0,e0,hb⟩:=cut_block e
  rw [hb]
  exact h.row (fun hl => hne (by rw [hl]; simp)) ad0 e0
 refine ⟨?_,Rd.upd0 (h.rd.drop hm h.cap) (by omega) hu fun h0 ad e => (hr (fun hl => by rw [hl] at h0; simp at h0) ad e).2,?_,by have:=h.top; omega,fun x hx => h.byte x (List.mem_of_mem_drop hx),fun hb => by rw [h.nil hb]; simp,h.here,hr,fun k hk => Nat.lt_of_lt_of_le (h.lt k hk) hu.size⟩
 · rw [List.length_drop]
   exact h.blk.put 0 _
 · rw [List.length_drop]
   have:=h.cap
   omega
theorem Rr.failed {T:TypeId} {w:World} {F:Nat → Prop} {p c:Nat} {A:Option Addr} {l:List Int} {bad:Bool} (h:Rr T w F p A c l bad) :
 Rr T ((w.setCell ⟨p,0,none⟩ (.slice none 0 0)).setCell ⟨p,1,none⟩ (.bool true)) F p none 0 [] true:=
 ⟨(h.blk.put 0 _).put 1 _,Rd.nil_ _ _ _,by simp,by omega,fun x hx => by simp at hx,fun _ => rfl,h.here,fun _ ad e => by simp at e,fun k hk => by have:=h.lt k hk; simpa [World.setCell] using this⟩
theorem or_byte (a c:Int) (h0:0 ≤ a) (h1:a < 72057594037927936) (h2:0 ≤ c) (h3:c ≤ 255):bits .or .u64 (IntKind.u64.wrap (a * 256)) c = a * 256 + c:=by
 obtain ⟨m,rfl⟩:=Int.eq_ofNat_of_zero_le h0
 obtain ⟨d,rfl⟩:=Int.eq_ofNat_of_zero_le h2
 have e1:IntKind.u64.wrap ((m:Int) * 256) = ((m * 256:Nat):Int):=by rw [IntKind.wrap_u64]; omega
 rw [e1]
 show IntKind.u64.wrap ((BitVec.ofInt 64 ((m * 256:Nat):Int) ||| BitVec.ofInt 64 (d:Int)).toNat:Int) = _
 have e2:∀ x:Nat,x < 18446744073709551616 → (BitVec.ofInt 64 (x:Int)).toNat = x:=fun x hx => by
  rw [BitVec.ofInt_natCast,BitVec.toNat_ofNat]; exact Nat.mod_eq_of_lt (by omega)
 rw [BitVec.toNat_or,e2 _ (by omega),e2 _ (by omega),IntKind.wrap_u64]
 have e3:m * 256 ||| d = m * 256 + d:=by
  have:=Nat.shiftLeft_add_eq_or_of_lt (i:=8) (b:=d) (by omega) m
  rw [Nat.shiftLeft_eq,show (2:Nat) ^ 8 = 256 from rfl] at this
  omega
 rw [e3]
 omega
theorem newReader (A:Option Addr) (c:Nat) (l:List Int) (w:World) (hr:Rn w .u8 A l) (hl:l.length ≤ 140737488355328) (hb:Byte l) :
 Calls Tryz.prog 31 #[.slice A l.length c] w fun e w' => ∃ F p A' c',e = .returned (.pointer (some ⟨p,0,none⟩)) ∧ Rr 223 w' F p A' c' l false ∧ (∀ k,F k → w.heap.size ≤ k) ∧ Below w.heap.size w w':=by
 go_enter Tryz.func31,Tryz.ntmps31
 go_wp2_with (at_builtin; go_must (refine ap_row w.heap.size rfl (.tmp 3) (.tmp 4) 22 5 (.int .u8 0) 1 1 rfl Tryz.underlying22 u8_info rfl (by omega) (.slice (some ⟨w.heap.size,0,none⟩) 0 0) 0 [] A l.length c (nums .u8 l) rfl rfl (World.ownsRow_made w #[] 0 (Nat.le_refl _) (Nat.zero_le _) rfl) (Rd.alloc hr (by omega) _) (nums_one _ _) (by omega) (by omega) (by simp) ?_); intro A1 c1 w1 ho1 hg1 hat1)
 go_ret
 have hlt:∀ k,(Value.slice A1 (0 + l.length) c1).ownBlock = some k → w.heap.size ≤ k ∧ k < w1.heap.size:=fun k hk => ho1.lt k hk
 have hup:Below w.heap.size w w1:=((Below.refl _ _).alloc (Nat.le_refl _) _).grown hg1 (by simp) fun k hk => by
  have:w.heap.size = k:=by simpa [Value.ownBlock] using hk
  omega
 obtain ⟨A2,c2,hv,hc1,hc2⟩:=own_shape ho1
 have hrd:Rn (w1.alloc (.cells #[.slice A1 l.length c1,.bool false] 223)) .u8 A1 l:=by
  have:=(Rd.of_own ho1).alloc (by omega) (.cells #[.slice A1 l.length c1,.bool false] 223)
  simpa [Rn] using this
 have hAg:∀ ad,A1 = some ad → w.heap.size ≤ ad.block ∧ ad.block < w1.heap.size:=fun ad e => hlt ad.block (by simp [Value.ownBlock,e])
 injection hv with hv1 hv2 hv3
 subst hv1 hv3
 refine ⟨fun k => k = w1.heap.size ∨ (Value.slice A1 (0 + l.length) c1).ownBlock = some k,w1.heap.size,A1,c1,rfl,⟨Blk.fresh _ _ _,hrd,by omega,hc2,hb,(fun h => by cases h),.inl rfl,?_,?_⟩,?_,hup.alloc hup.size _⟩
 · intro _ ad e
   refine ⟨.inr (by simp [Value.ownBlock,e]),?_⟩
   have:=hAg ad e
   omega
 · rintro k (rfl | hk)
   · simp
   · have:=hlt k hk
     simp; omega
 · rintro k (rfl | hk)
   · exact hup.size
   · exact (hlt k hk).1
theorem fail_ (p:Nat) (v b:Value) (w:World) (hb:Blk w p 223 #[v,b]) :
 Calls Tryz.prog 147 #[.pointer (some ⟨p,0,none⟩)] w fun e w' => e = .returned (.tuple #[]) ∧ (w.setCell ⟨p,0,none⟩ (.slice none 0 0)).setCell ⟨p,1,none⟩ (.bool true) = w':=by
 have hc:=hb.cell 0
 have hf:=hb.free 0
 have hc1:=hb.cell 1
 have hf1:=hb.free 1
 simp at hc hc1
 go_enter Tryz.func147,Tryz.ntmps147
 go_wp2
 go_end0
 exact ⟨rfl,rfl⟩
theorem left (p n c:Nat) (A:Option Addr) (b:Value) (w:World) (hb:Blk w p 223 #[.slice A n c,b]) :
 Calls Tryz.prog 146 #[.pointer (some ⟨p,0,none⟩)] w fun e w' => e = .returned (.int .i64 n) ∧ w = w':=by
 have hc:=hb.cell 0
 simp at hc
 go_enter Tryz.func146,Tryz.ntmps146
 go_wp2
 go_ret
 exact ⟨rfl,rfl⟩
theorem bad (p:Nat) (b:Bool) (v:Value) (w:World) (hb:Blk w p 223 #[v,.bool b]) :
 Calls Tryz.prog 93 #[.pointer (some ⟨p,0,none⟩)] w fun e w' => e = .returned (.bool b) ∧ w = w':=by
 have hc:=hb.cell 1
 simp at hc
 go_enter Tryz.func93,Tryz.ntmps93
 go_wp2
 go_ret
 exact ⟨rfl,rfl⟩
theorem end_ (p n c:Nat) (A:Option Addr) (b:Bool) (w:World) (hb:Blk w p 223 #[.slice A n c,.bool b]) :
 Calls Tryz.prog 33 #[.pointer (some ⟨p,0,none⟩)] w fun e w' => e = .returned (.bool (!b && decide (n = 0))) ∧ w = w':=by
 have hc:=hb.cell 0
 have hc1:=hb.cell 1
 simp at hc hc1
 go_enter Tryz.func33,Tryz.ntmps33
 cases b
 all_goals
  go_wp2
  go_ret
  refine ⟨congrArg Ending.returned (congrArg Value.bool ?_),rfl⟩
 · show ((n:Int) == 0) = _
   by_cases h:n = 0 <;> simp [h]
 · rfl
def NumPost (T:TypeId) (F:Nat → Prop) (p:Nat) (l:List Int) (bad:Bool) (w:World) (e:Ending) (w':World):Prop:=
 e = .returned (.int .u64 (stN l bad).1) ∧ ∃ A' c',Rr T w' F p A' c' (stN l bad).2.1 (stN l bad).2.2 ∧ Upd (fun k => k = p) w w'
theorem NumPost.failed {T:TypeId} {F:Nat → Prop} {p c:Nat} {A:Option Addr} {l:List Int} {bad:Bool} {w:World} (h:Rr T w F p A c l bad) (hn:rdNum l = none) :
 NumPost T F p l bad w (.returned (.int .u64 0)) ((w.setCell ⟨p,0,none⟩ (.slice none 0 0)).setCell ⟨p,1,none⟩ (.bool true)):=by
 have e:stN l bad = (0,[],true):=by simp [stN,hn]
 unfold NumPost
 rw [e]
 exact ⟨rfl,_,_,h.failed,(Upd.set (F:=fun k => k = p) (Upd.refl _ _) (.inl rfl) _).set (.inl rfl) _⟩
theorem NumPost.done {T:TypeId} {F:Nat → Prop} {p c m:Nat} {A A':Option Addr} {l:List Int} {bad:Bool} {n:Int} {w:World} (h:Rr T w F p A c l bad) (hm:m ≤ l.length) (hA:A' = (if c = m then A else A.map (·.add m))) (hn:rdNum l = some (n,l.drop m)) :
 NumPost T F p l bad w (.returned (.int .u64 n)) (w.setCell ⟨p,0,none⟩ (.slice A' (l.length - m) (c - m))):=by
 have e:stN l bad = (n,l.drop m,bad):=by simp [stN,hn]
 unfold NumPost
 rw [e]
 exact ⟨rfl,_,_,h.cut hm hA,Upd.set (F:=fun k => k = p) (Upd.refl _ _) (.inl rfl) _⟩
theorem u8_size:(Tryz.prog.info? 5).map (·.size) = some 1:=by kernel_rfl
set_option maxRecDepth 100000 in
theorem rnumber_bad (F:Nat → Prop) (p c:Nat) (A:Option Addr) (l:List Int) (w:World) (h:Rr 223 w F p A c l true) :
 Calls Tryz.prog 79 #[.pointer (some ⟨p,0,none⟩)] w (NumPost 223 F p l true w):=by
 have hl:=h.nil rfl
 subst hl
 have hc:=h.blk.cell 0
 have hc1:=h.blk.cell 1
 simp at hc hc1
 go_enter Tryz.func79,Tryz.ntmps79
 go_wp2
 go_ret
 exact ⟨rfl,A,c,h,Upd.refl _ _⟩
set_option maxRecDepth 100000 in
theorem rnumber_empty (F:Nat → Prop) (p c:Nat) (A:Option Addr) (w:World) (h:Rr 223 w F p A c [] false) :
 Calls Tryz.prog 79 #[.pointer (some ⟨p,0,none⟩)] w (NumPost 223 F p [] false w):=by
 have hc:=h.blk.cell 0
 have hc1:=h.blk.cell 1
 simp at hc hc1
 go_enter Tryz.func79,Tryz.ntmps79
 go_wp2_with (fail)
 refine (fail_ _ _ _ _ h.blk).mono ?_
 rintro e w' ⟨rfl,rfl⟩
 go_wp2
 go_ret
 exact NumPost.failed h rfl
set_option maxRecDepth 100000 in
theorem rnumber_small (F:Nat → Prop) (p c:Nat) (A:Option Addr) (l:List Int) (w:World) (h:Rr 223 w F p A c l false) (hl:0 < l.length) (hf:gi l 0 < 248) (hn:rdNum l = some (gi l 0,l.drop 1)) :
 Calls Tryz.prog 79 #[.pointer (some ⟨p,0,none⟩)] w (NumPost 223 F p l false w):=by
 have hc:=h.blk.cell 0
 have hc1:=h.blk.cell 1
 have hfr:=h.blk.free 0
 simp at hc hc1
 obtain ⟨ad,rfl,hx⟩:=h.rd.at_ hl
 rw [add_none] at hx
 have hby:=h.byte _ (gi_mem l 0 hl)
 have hcap:=h.cap
 have htop:=h.top
 obtain ⟨A',hA',hcut⟩:=cut_from (P:=Tryz.prog) 22 5 .i64 Tryz.underlying22 u8_size (some ad) l.length c 1 1 rfl (by omega)
 have hfin:=hid (NumPost.done h (by omega) hA' hn)
 clear hA' hn h
 have hne:((l.length:Int) == 0) = false:=beq_eq_false_iff_ne.2 (by omega)
 have hil:(0:Int) < l.length:=by omega
 go_enter Tryz.func79,Tryz.ntmps79
 go_wp2
 go_ret
 exact hfin.out
set_option maxRecDepth 100000 in
theorem rnumber_short (F:Nat → Prop) (p c:Nat) (A:Option Addr) (l:List Int) (w:World) (h:Rr 223 w F p A c l false) (hl:0 < l.length) (hf:248 ≤ gi l 0) (hs:(l.length:Int) - 1 < gi l 0 - 247) (hn:rdNum l = none) :
 Calls Tryz.prog 79 #[.pointer (some ⟨p,0,none⟩)] w (NumPost 223 F p l false w):=by
 have hc:=h.blk.cell 0
 have hc1:=h.blk.cell 1
 have hfr:=h.blk.free 0
 simp at hc hc1
 obtain ⟨ad,rfl,hx⟩:=h.rd.at_ hl
 rw [add_none] at hx
 have hby:=h.byte _ (gi_mem l 0 hl)
 have hcap:=h.cap
 have htop:=h.top
 have hfin:=hid (NumPost.failed h hn)
 have hblk:=hid h.blk
 clear hn h
 have hne:((l.length:Int) == 0) = false:=beq_eq_false_iff_ne.2 (by omega)
 have hil:(0:Int) < l.length:=by omega
 go_enter Tryz.func79,Tryz.ntmps79
 go_wp2_with (fail)
 refine (fail_ _ _ _ _ hblk.out).mono ?_
 rintro e w' ⟨rfl,rfl⟩
 go_wp2
 go_ret
 exact hfin.out
theorem val_step (l:List Int) (j:Nat) (hj:j < l.length):val (l.take (j + 1)) = val (l.take j) * 256 + gi l j:=by
 rw [List.take_succ_eq_append_getElem hj,val_snoc]
 simp [gi,List.getD_eq_getElem?_getD,List.getElem?_eq_getElem hj]
theorem val_small (l:List Int) (j:Nat) (hj:j < 8) (hb:Byte l):0 ≤ val (l.take j) ∧ val (l.take j) < 72057594037927936:=by
 have h:=val_range (l.take j) fun x hx => hb x (List.mem_of_mem_take hx)
 refine ⟨h.1,Int.lt_of_lt_of_le h.2 ?_⟩
 have:(l.take j).length ≤ 7:=by rw [List.length_take]; omega
 have e:∀ m:Nat,m ≤ 7 → (256:Int) ^ m ≤ 72057594037927936:=by decide
 exact e _ this
theorem rdNum_long (f:Int) (r:List Int) (k:Nat) (hf:f = 247 + (k:Int)) (hk0:1 ≤ k) (hs:k ≤ r.length) :
 rdNum (f :: r) = if val (r.take k) < 248 ∨ gi r 0 = 0 then none else some (val (r.take k),r.drop k):=by
 have e1:(f - 247).toNat = k:=by omega
 have e2:r.headD 0 = gi r 0:=by cases r <;> simp [gi]
 simp only [rdNum]
 rw [if_neg (by omega),if_neg (by omega),e1,e2]
set_option maxRecDepth 100000 in
theorem rnumber_big (F:Nat → Prop) (p c k:Nat) (f:Int) (A:Option Addr) (l r:List Int) (w:World) (h:Rr 223 w F p A c l false) (hlr:l = f :: r) (hk:f = 247 + (k:Int)) (hk0:1 ≤ k) (hk8:k ≤ 8) (hs:k ≤ r.length) :
 Calls Tryz.prog 79 #[.pointer (some ⟨p,0,none⟩)] w (NumPost 223 F p l false w):=by
 have hc:=h.blk.cell 0
 have hc1:=h.blk.cell 1
 have hfr:=h.blk.free 0
 simp at hc hc1
 have hll:l.length = r.length + 1:=by rw [hlr]; simp
 obtain ⟨ad,rfl,hx⟩:=h.rd.at_ (i:=0) (by omega)
 have hf:gi l 0 = f:=by rw [hlr]; rfl
 rw [add_none,hf] at hx
 have hcap:=h.cap
 have htop:=h.top
 have hx1:w.cell? ⟨ad.block,ad.off + 1,none⟩ = some (.int .u8 (gi r 0)):=by
  have:=h.rd.cell (i:=1) (by omega)
  rw [hlr] at this
  exact this
 obtain ⟨A',hA',hcut⟩:=cut_mid (P:=Tryz.prog) 22 5 .i64 .i64 Tryz.underlying22 u8_size (some ad) l.length c 1 (1 + k) k 1 (1 + (f - 247)) rfl (by omega) (by omega) (by omega) (by omega)
 obtain ⟨A2,hA2,hcut2⟩:=cut_from (P:=Tryz.prog) 22 5 .i64 Tryz.underlying22 u8_size (some ad) l.length c (1 + k) (1 + (f - 247)) (by omega) (by omega)
 have hrd:Rn w .u8 A' r:=by
  rw [hA']
  have:=h.rd.drop (i:=1) (c:=c) (by omega) hcap
  rw [hlr] at this
  simpa using this
 have hbyr:Byte r:=fun x hx => h.byte x (by rw [hlr]; simp [hx])
 have hrn:=rdNum_long f r k hk hk0 hs
 rw [← hlr] at hrn
 have hblk:=hid h.blk
 have hfail:Hid (val (r.take k) < 248 ∨ gi r 0 = 0 → NumPost 223 F p l false w (.returned (.int .u64 0)) ((w.setCell ⟨p,0,none⟩ (.slice none 0 0)).setCell ⟨p,1,none⟩ (.bool true))):=
  hid fun hv => NumPost.failed h (by rw [hrn,if_pos hv])
 have hdone:Hid (¬ (val (r.take k) < 248 ∨ gi r 0 = 0) → NumPost 223 F p l false w (.returned (.int .u64 (val (r.take k)))) (w.setCell ⟨p,0,none⟩ (.slice A2 (l.length - (1 + k)) (c - (1 + k))))):=
  hid fun hv => NumPost.done h (by omega) hA2 (by rw [hrn,if_neg hv,hlr,Nat.add_comm,List.drop_succ_cons])
 obtain ⟨ad',rfl,_⟩:=hrd.at_ (i:=0) (by omega)
 have hll1:r.length + 1 ≤ l.length:=by omega
 have hll2:l.length ≤ r.length + 1:=by omega
 have hf1:f - 247 ≤ k:=by omega
 have hf2:k ≤ f - 247:=by omega
 clear hA' h hlr hll hA2 hrn hf hk
 have hne:((l.length:Int) == 0) = false:=beq_eq_false_iff_ne.2 (by omega)
 have hil:(0:Int) < l.length:=by omega
 have hil1:(1:Int) < l.length:=by omega
 go_enter Tryz.func79,Tryz.ntmps79
 go_wp2
 go_loop [5,63] (fun v5 v63 => ∃ j:Nat,j ≤ k ∧ v63 = .int .i64 j ∧ v5 = .int .u64 (val (r.take j))) (fun _ v63 => k - (intOf v63).toNat)
 case atStart => exact ⟨0,by omega,rfl,rfl⟩
 case round =>
  obtain ⟨j,hj,rfl,rfl⟩:=hrel
  by_cases hlt:j < k
  · have hxj:=hrd.cell (i:=j) (by omega)
    have hvs:=val_small r j (by omega) hbyr
    have hby:=hbyr _ (gi_mem r j (by omega))
    have hor:bits .or .u64 (val (r.take j) * 256) (gi r j) = val (r.take (j + 1)):=by
     have e:IntKind.u64.wrap (val (r.take j) * 256) = val (r.take j) * 256:=by rw [IntKind.wrap_u64]; omega
     rw [← e,or_byte _ _ hvs.1 hvs.2 hby.1 hby.2,val_step r j (by omega)]
    go_wp2
    go_round
    case rel => exact ⟨j + 1,by omega,by go_num,rfl⟩
    case measure => simp [intOf]; omega
  · obtain rfl:j = k:=by omega
    have hv0:=val_small
    by_cases hv:val (r.take j) < 248
    · go_wp2_with (fail)
      refine (fail_ _ _ _ _ hblk.out).mono ?_
      rintro e w' ⟨rfl,rfl⟩
      go_wp2
      go_ret
      exact hfail.out (.inl hv)
    · by_cases hz:gi r 0 = 0
      · have hzb:(gi r 0 == 0) = true:=by simp [hz]
        have HZ:=hid hz
        clear hz
        go_wp2_with (fail)
        refine (fail_ _ _ _ _ hblk.out).mono ?_
        rintro e w' ⟨rfl,rfl⟩
        go_wp2
        go_ret
        exact hfail.out (.inr HZ.out)
      · have hzb:(gi r 0 == 0) = false:=by simp [hz]
        have HZ:=hid hz
        clear hz
        go_wp2
        go_ret
        exact hdone.out fun h => h.elim (fun h' => by omega) HZ.out
theorem rnumber (F:Nat → Prop) (p c:Nat) (A:Option Addr) (l:List Int) (bad:Bool) (w:World) (h:Rr 223 w F p A c l bad) :
 Calls Tryz.prog 79 #[.pointer (some ⟨p,0,none⟩)] w (NumPost 223 F p l bad w):=by
 cases bad with
 | true => exact rnumber_bad F p c A l w h
 | false =>
  match l,h with
  | [],h => exact rnumber_empty F p c A w h
  | f :: r,h =>
   have hb:=h.byte f (by simp)
   by_cases hf:f < 248
   · exact rnumber_small F p c A _ w h (by simp) (by simpa [gi] using hf) (by simp [rdNum,hf,gi])
   · by_cases hs:(r.length:Int) < f - 247
     · exact rnumber_short F p c A _ w h (by simp) (by simp [gi]; omega) (by simp [gi]; omega) (by simp [rdNum,hf,hs])
     · exact rnumber_big F p c (f - 247).toNat f A _ r w h rfl (by omega) (by omega) (by omega) (by omega)
end Cr
end
section
namespace Cr
open Go.RowKit B Cm Cw
def uz (n:Int):Int:=if n % 2 = 0 then n / 2 else -(n / 2) - 1
theorem stN_range (l:List Int) (bad:Bool) (hb:Byte l):0 ≤ (stN l bad).1 ∧ (stN l bad).1 ≤ 18446744073709551615:=by
 unfold stN
 match l with
 | [] => simp [rdNum]
 | f :: r =>
  have h1:=hb f (by simp)
  have h2:=val_range (r.take (f - 247).toNat) fun x hx => hb x (by simp [List.mem_of_mem_take hx])
  have h3:((r.take (f - 247).toNat).length) ≤ 8:=by rw [List.length_take]; omega
  have e:∀ m:Nat,m ≤ 8 → (256:Int) ^ m ≤ 18446744073709551616:=by decide
  have h4:=e _ h3
  simp only [rdNum]
  by_cases c1:f < 248
  · rw [if_pos c1]; simp; omega
  · rw [if_neg c1]
    by_cases c2:(r.length:Int) < f - 247
    · rw [if_pos c2]; simp
    · rw [if_neg c2]
      by_cases c3:val (r.take (f - 247).toNat) < 248 ∨ r.headD 0 = 0
      · rw [if_pos c3]; simp
      · rw [if_neg c3]; simp only; omega
theorem xor_zero_i (a:Int) (h0:0 ≤ a) (h1:a < 9223372036854775808):bits .xor .i64 a 0 = a:=by
 show IntKind.i64.wrap ((BitVec.ofInt 64 a ^^^ BitVec.ofInt 64 0).toNat:Int) = _
 have e:BitVec.ofInt 64 0 = 0#64:=rfl
 rw [e,BitVec.xor_zero,BitVec.toNat_ofInt,IntKind.wrap_i64]
 omega
theorem xor_ones_i (a:Int) (h0:0 ≤ a) (h1:a < 9223372036854775808):bits .xor .i64 a (-1) = -a - 1:=by
 show IntKind.i64.wrap ((BitVec.ofInt 64 a ^^^ BitVec.ofInt 64 (-1)).toNat:Int) = _
 have e:BitVec.ofInt 64 (-1) = BitVec.allOnes 64:=by decide
 rw [e,BitVec.xor_allOnes,BitVec.toNat_not,BitVec.toNat_ofInt,IntKind.wrap_i64]
 omega
theorem and_one (n:Int) (h0:0 ≤ n) (h1:n ≤ 18446744073709551615):bits .and .u64 n 1 = n % 2:=by
 obtain ⟨m,rfl⟩:=Int.eq_ofNat_of_zero_le h0
 show IntKind.u64.wrap ((BitVec.ofInt 64 (m:Int) &&& BitVec.ofInt 64 1).toNat:Int) = _
 have e2:(BitVec.ofInt 64 (m:Int)).toNat = m:=by rw [BitVec.ofInt_natCast,BitVec.toNat_ofNat]; exact Nat.mod_eq_of_lt (by omega)
 have e1:(BitVec.ofInt 64 1).toNat = 1:=rfl
 rw [BitVec.toNat_and,e2,e1,Nat.and_one_is_mod,IntKind.wrap_u64]
 omega
theorem uz_eq (n:Int) (h0:0 ≤ n) (h1:n ≤ 18446744073709551615):bits .xor .i64 (n / 2) (wrap64 (-wrap64 (bits .and .u64 n 1))) = uz n:=by
 rw [and_one n h0 h1]
 unfold uz
 by_cases h:n % 2 = 0
 · rw [if_pos h,h,show wrap64 (-wrap64 0) = 0 from by unfold wrap64; omega,xor_zero_i _ (by omega) (by omega)]
 · rw [if_neg h,show n % 2 = 1 from by omega,show wrap64 (-wrap64 1) = -1 from by unfold wrap64; omega,xor_ones_i _ (by omega) (by omega)]
theorem rint (F:Nat → Prop) (p c:Nat) (A:Option Addr) (l:List Int) (bad:Bool) (w:World) (h:Rr 223 w F p A c l bad) :
 Calls Tryz.prog 32 #[.pointer (some ⟨p,0,none⟩)] w fun e w' => e = .returned (.int .i64 (uz (stN l bad).1)) ∧ ∃ A' c',Rr 223 w' F p A' c' (stN l bad).2.1 (stN l bad).2.2 ∧ Upd (fun k => k = p) w w':=by
 have hr:=stN_range l bad h.byte
 go_enter Tryz.func32,Tryz.ntmps32
 go_wp2_with (fail)
 refine (rnumber F p c A l bad w h).mono ?_
 rintro e w' ⟨rfl,A',c',h',hu⟩
 go_wp2
 go_ret
 exact ⟨congrArg Ending.returned (congrArg (Value.int .i64) (uz_eq _ hr.1 hr.2)),A',c',h',hu⟩
def stT (l:List Int) (bad:Bool):List Int × List Int × Bool:=
 if (stN l bad).2.2 then ([],(stN l bad).2.1,true)
 else if ((stN l bad).2.1.length:Int) < (stN l bad).1 then ([],[],true)
 else ((stN l bad).2.1.take (stN l bad).1.toNat,(stN l bad).2.1.drop (stN l bad).1.toNat,false)
def TextPost (T:TypeId) (F:Nat → Prop) (p:Nat) (q:List Int × List Int × Bool) (w:World) (e:Ending) (w':World):Prop:=
 e = .returned (.string (strOfNums q.1)) ∧ ∃ A' c',Rr T w' F p A' c' q.2.1 q.2.2 ∧ Upd (fun k => k = p) w w'
theorem rnumber_eq {F:Nat → Prop} {p c:Nat} {A:Option Addr} {l r:List Int} {n:Int} {bad bd:Bool} {w:World} (h:Rr 223 w F p A c l bad) (hs:stN l bad = (n,r,bd)) :
 Calls Tryz.prog 79 #[.pointer (some ⟨p,0,none⟩)] w fun e w' => e = .returned (.int .u64 n) ∧ ∃ A' c',Rr 223 w' F p A' c' r bd ∧ Upd (fun k => k = p) w w':=
 (rnumber F p c A l bad w h).mono fun e w' hp => by
  unfold NumPost at hp
  rw [hs] at hp
  exact hp
set_option maxRecDepth 100000 in
theorem rtext (F:Nat → Prop) (p c:Nat) (A:Option Addr) (l:List Int) (bad:Bool) (w:World) (h:Rr 223 w F p A c l bad) :
 Calls Tryz.prog 91 #[.pointer (some ⟨p,0,none⟩)] w (TextPost 223 F p (stT l bad) w):=by
 have hr:=stN_range l bad h.byte
 unfold stT
 obtain ⟨n,r,bd,hs⟩:∃ n r bd,stN l bad = (n,r,bd):=⟨_,_,_,rfl⟩
 have hnum:=hid (rnumber_eq h hs)
 rw [hs] at hr ⊢
 clear hs h
 cases bd
 · rw [if_neg (by simp)]
   by_cases hn:(r.length:Int) < n
   · rw [if_pos hn]
     go_enter Tryz.func91,Tryz.ntmps91
     go_wp2_with (fail)
     refine Calls.mono hnum.out ?_
     rintro e w' ⟨rfl,A',c',h',hu⟩
     have hc:=h'.blk.cell 0
     have hc1:=h'.blk.cell 1
     have hcap:=h'.cap
     have htop:=h'.top
     simp at hc hc1
     have hblk:=hid h'.blk
     have hfin:=hid h'.failed
     have hu2:=hid (hu.trans (Upd.set (F:=fun k => k = p) (p:=⟨p,1,none⟩) (Upd.set (F:=fun k => k = p) (p:=⟨p,0,none⟩) (Upd.refl _ _) (.inl rfl) (.slice none 0 0)) (.inl rfl) (.bool true)) fun i _ hi => hi)
     clear h' hu
     go_wp2_with (fail)
     refine (fail_ _ _ _ _ hblk.out).mono ?_
     rintro e w' ⟨rfl,rfl⟩
     go_wp2
     go_ret
     exact ⟨rfl,_,_,hfin.out,hu2.out⟩
   · rw [if_neg hn]
     obtain ⟨m,rfl⟩:=Int.eq_ofNat_of_zero_le hr.1
     have hm:m ≤ r.length:=by omega
     go_enter Tryz.func91,Tryz.ntmps91
     go_wp2_with (fail)
     refine Calls.mono hnum.out ?_
     rintro e w' ⟨rfl,A',c',h',hu⟩
     have hc:=h'.blk.cell 0
     have hc1:=h'.blk.cell 1
     have hfr:=h'.blk.free 0
     have hcap:=h'.cap
     have htop:=h'.top
     simp at hc hc1
     have ht:=cut_to (P:=Tryz.prog) 22 5 .u64 Tryz.underlying22 u8_size A' r.length c' m m rfl (by omega)
     obtain ⟨A2,hA2,hcut⟩:=cut_from (P:=Tryz.prog) 22 5 .u64 Tryz.underlying22 u8_size A' r.length c' m m rfl hm
     have hcv:=conv_str (P:=Tryz.prog) (h'.rd.take hm) 22 9 5 c' Tryz.underlying22 Tryz.underlying5 Tryz.underlying9
     rw [List.length_take,Nat.min_eq_left hm] at hcv
     have hfin:=hid (h'.cut hm hA2)
     have hu2:=hid (hu.trans (Upd.set (F:=fun k => k = p) (p:=⟨p,0,none⟩) (Upd.refl _ _) (.inl rfl) (.slice A2 (r.length - m) (c' - m))) fun i _ hi => hi)
     clear h' hu hA2
     go_wp2
     go_ret
     exact ⟨rfl,_,_,hfin.out,hu2.out⟩
 · rw [if_pos rfl]
   go_enter Tryz.func91,Tryz.ntmps91
   go_wp2_with (fail)
   refine Calls.mono hnum.out ?_
   rintro e w' ⟨rfl,A',c',h',hu⟩
   have hc1:=h'.blk.cell 1
   simp at hc1
   go_wp2
   go_ret
   exact ⟨rfl,_,_,h',hu⟩
end Cr
end
section
namespace Ce
open Go.RowKit B Cm Cw Cr
theorem stN_bad (l:List Int) (bad:Bool) (hb:bad = true → l = []) (h:(stN l bad).2.2 = true):(stN l bad).1 = 0 ∧ (stN l bad).2.1 = []:=by
 cases bad with
 | true => rw [hb rfl]; exact ⟨rfl,rfl⟩
 | false =>
  revert h
  unfold stN
  cases rdNum l with
  | none => intro _; exact ⟨rfl,rfl⟩
  | some x => intro h; simp at h
end Ce
end
section
namespace Cd
open Go.RowKit B Cm Cw Cr
theorem rint_eq {F:Nat → Prop} {p c:Nat} {A:Option Addr} {l r:List Int} {n z:Int} {bad bd:Bool} {w:World} (h:Rr 223 w F p A c l bad) (hs:stN l bad = (n,r,bd)) (hz:uz n = z) :
 Calls Tryz.prog 32 #[.pointer (some ⟨p,0,none⟩)] w fun e w' => e = .returned (.int .i64 z) ∧ ∃ A' c',Rr 223 w' F p A' c' r bd ∧ Upd (fun k => k = p) w w':=
 (rint F p c A l bad w h).mono fun e w' hp => by
  rw [hs] at hp
  simp only [hz] at hp
  exact hp
theorem rtext_eq {F:Nat → Prop} {p c:Nat} {A:Option Addr} {l r s:List Int} {bad bd:Bool} {w:World} (h:Rr 223 w F p A c l bad) (hs:stT l bad = (s,r,bd)) :
 Calls Tryz.prog 91 #[.pointer (some ⟨p,0,none⟩)] w fun e w' => e = .returned (.string (strOfNums s)) ∧ ∃ A' c',Rr 223 w' F p A' c' r bd ∧ Upd (fun k => k = p) w w':=
 (rtext F p c A l bad w h).mono fun e w' hp => by
  unfold TextPost at hp
  rw [hs] at hp
  exact hp
end Cd
end
