/- Part 51: lemmas, no conditions. -/
import Derived.Test.YtclfmpieapbfnaaGreatDoorZ50
import Derived.Test.YtclfmpieapbfnaaGreatDoorZ45
import Derived.Test.YtclfmpieapbfnaaGreatDoorZ46
set_option maxHeartbeats 8000000
namespace Go.Proofs.YtclfmpieapbfnaaGreatDoor
set_option linter.unusedVariables false
set_option linter.unusedSimpArgs false
section
namespace Sh
open Go.RowKit Go.Proofs B
set_option maxRecDepth 100000 in
theorem fmtu0 (w:World):Calls Tryz.prog 293 #[.int .u64 1,.int .i64 10] w fun e w' => e = .returned (.string ⟨#[49]⟩) ∧ w = w':=by
 have HS:=hid (show Calls Tryz.prog 297 #[.int .i64 1] w fun e w' => e = .returned (.string ⟨#[49]⟩) ∧ w' = w by
  refine Calls.mono (show Calls Tryz.prog 297 #[.int .i64 1] w _ from Sh.internal_strconv_small 1 (by omega) w) ?_
  rintro e w' ⟨rfl,rfl⟩
  refine ⟨?_,rfl⟩
  rw [Lib.decDigits_one (by omega)]
  rfl)
 go_enter Tryz.func293,Tryz.ntmps293
 go_wp2_with (fail)
 refine Calls.mono HS.out ?_
 rintro e w' ⟨rfl,rfl⟩
 go_wp2
 go_ret
 exact ⟨rfl,rfl⟩
set_option maxRecDepth 100000 in
theorem fmtu (w:World):Calls Tryz.prog 259 #[.int .u64 1,.int .i64 10] w fun e w' => e = .returned (.string ⟨#[49]⟩) ∧ w = w':=by
 have HS:=hid (fmtu0 w)
 go_enter Tryz.func259,Tryz.ntmps259
 go_wp2_with (fail)
 refine Calls.mono HS.out ?_
 rintro e w' ⟨rfl,rfl⟩
 go_wp2
 go_ret
 exact ⟨rfl,rfl⟩
set_option maxRecDepth 100000 in
theorem number (w:World):Calls Tryz.prog 205 #[.string ⟨#[49]⟩] w fun e w' => e = .returned (.tuple #[.int .u64 1,.bool true]) ∧ Upd No w w':=by
 have HP:Hid (Calls Tryz.prog 258 #[.string ⟨#[49]⟩,.int .i64 10,.int .i64 64] w fun e w' => e = .returned (.tuple #[.int .u64 1,.nilIface]) ∧ Upd No w w'):=hid (by
  refine (Sh.strconv_ParseUint_10_at64_ok ⟨#[49]⟩ (by decide) 1 (by rfl) w).mono ?_
  rintro e w' ⟨rfl,h⟩
  refine ⟨rfl,?_⟩
  rcases h with rfl | rfl
  · exact Upd.refl _ _
  · exact Upd.of_below No (Lib.bytesWorld_below _ _ _))
 have HF:=hid fmtu
 go_enter Tryz.func205,Tryz.ntmps205
 go_wp2_with (fail)
 refine Calls.mono HP.out ?_
 rintro e w1 ⟨rfl,hu1⟩
 have HU:=hid hu1
 clear hu1
 go_wp2_with (fail)
 refine Calls.mono (HF.out w1) ?_
 rintro e w2 ⟨rfl,rfl⟩
 go_wp2
 go_ret2
 exact ⟨rfl,HU.out⟩
theorem fmti (d:Nat) (hd:d < 10) (w:World):Calls Tryz.prog 261 #[.int .i64 d,.int .i64 10] w fun e w' => e = .returned (.string ⟨#[UInt8.ofNat (48 + d)]⟩) ∧ w = w':=by
 refine (Sh.strconv_FormatInt_10_small d (by omega) w).mono ?_
 rintro e w' ⟨rfl,rfl⟩
 refine ⟨?_,rfl⟩
 rw [Lib.decDigits_one hd]
set_option maxRecDepth 100000 in
theorem int_of (d:Nat) (c:UInt8) (n:Int) (hn:(d:Int) = n) (hc:UInt8.ofNat (48 + d) = c) (hd:d < 10) (w:World) (hp:Lib.parseIntB 64 [c] = .ok n):Calls Tryz.prog 206 #[.string ⟨#[c]⟩] w fun e w' => e = .returned (.tuple #[.int .i64 n,.bool true]) ∧ Upd No w w':=by
 have HP:Hid (Calls Tryz.prog 260 #[.string ⟨#[c]⟩,.int .i64 10,.int .i64 64] w fun e w' => e = .returned (.tuple #[.int .i64 n,.nilIface]) ∧ Upd No w w'):=hid (by
  refine (Sh.strconv_ParseInt_10_at64_ok ⟨#[c]⟩ (by show 1 ≤ 9223372036854775806; omega) n hp w).mono ?_
  rintro e w' ⟨rfl,h⟩
  refine ⟨rfl,?_⟩
  rcases h with rfl | ⟨t,rfl⟩
  · exact Upd.refl _ _
  · exact Upd.of_below No (Lib.bytesWorld_below _ _ _))
 have hf:=fun W => fmti d hd W
 rw [hc,hn] at hf
 have HF:=hid hf
 clear hf hn hc hd hp
 go_enter Tryz.func206,Tryz.ntmps206
 go_wp2_with (fail)
 refine Calls.mono HP.out ?_
 rintro e w1 ⟨rfl,hu1⟩
 have HU:=hid hu1
 clear hu1
 go_wp2_with (fail)
 refine Calls.mono (HF.out w1) ?_
 rintro e w2 ⟨rfl,rfl⟩
 go_wp2
 go_ret2
 exact ⟨rfl,HU.out⟩
theorem int0 (w:World):Calls Tryz.prog 206 #[.string ⟨#[48]⟩] w fun e w' => e = .returned (.tuple #[.int .i64 0,.bool true]) ∧ Upd No w w':=int_of 0 48 0 rfl rfl (by omega) w (by rfl)
theorem int5 (w:World):Calls Tryz.prog 206 #[.string ⟨#[53]⟩] w fun e w' => e = .returned (.tuple #[.int .i64 5,.bool true]) ∧ Upd No w w':=int_of 5 53 5 rfl rfl (by omega) w (by rfl)
set_option maxRecDepth 100000 in
theorem shape (w:World):Calls Tryz.prog 204 #[.string ⟨#[111,102,102,101,114]⟩,.int .i64 5] w fun e w' => e = .returned (.tuple #[.string ⟨#[99,115,107,105,105]⟩,.bool true]) ∧ Upd No w w':=by
 have HR:Hid (Calls Tryz.prog 257 #[.string ⟨#[105]⟩,.int .i64 1] w fun e w' => e = .returned (.string ⟨#[105]⟩) ∧ Upd No w w'):=hid (by
  refine (Sh.strings_Repeat ⟨#[105]⟩ 1 w (by omega) (by decide)).mono ?_
  rintro e w' ⟨rfl,h⟩
  exact ⟨rfl,Upd.of_below No h⟩)
 have hcat:∀ W,(Op.stringOp .add ⟨#[99,115,107,105]⟩ ⟨#[105]⟩).run Tryz.prog W = .ok (.string ⟨#[99,115,107,105,105]⟩) W:=fun W => run_string_add_sum W ⟨#[99,115,107,105]⟩ ⟨#[105]⟩ (by decide)
 go_enter Tryz.func204,Tryz.ntmps204
 go_wp2_with (fail)
 refine Calls.mono HR.out ?_
 rintro e w1 ⟨rfl,hu1⟩
 have HU:=hid hu1
 clear hu1
 go_wp2
 go_ret2
 exact ⟨rfl,HU.out⟩
end Sh
end
section
namespace Sh
open Go.RowKit Go.Proofs B
def digs:ByteArray:=⟨#[48,49,50,51,52,53,54,55,56,57,97,98,99,100,101,102]⟩
theorem ix (c r:Int) (h:Lib.indexByte digs.data.toList c.toNat.toUInt8 = r) (w:World):Calls Tryz.prog 262 #[.string ⟨#[48,49,50,51,52,53,54,55,56,57,97,98,99,100,101,102]⟩,.int .u8 c] w fun e w' => e = .returned (.int .i64 r) ∧ w = w':=by
 refine (Sh.strings_IndexByte digs c w).mono ?_
 rintro e w' ⟨rfl,rfl⟩
 exact ⟨by rw [h],rfl⟩
structure Bd (w W:World) (b:Nat) (l:List UInt8):Prop where
 is:Lib.IsBuilderF 418 5 w.heap.size b (Lib.byteCells l) W
 upd:Upd No w W
theorem below_upd {B:Nat} {w w':World} (h:Below B w w'):Upd (fun k => B ≤ k) w w':=⟨h.os,h.tape,h.output,h.size,fun k _ hk => h.block k (by omega)⟩
set_option maxRecDepth 100000 in
theorem check (b:Nat) (w:World) (h:Blk w b 418 #[.pointer none,.slice none 0 0]):Calls Tryz.prog 296 #[.pointer (some ⟨b,0,none⟩)] w fun e w' => e = .returned (.tuple #[]) ∧ w' = w.setCell ⟨b,0,none⟩ (.pointer (some ⟨b,0,none⟩)):=by
 obtain ⟨j,hj,hjs⟩:=Option.map_eq_some_iff.1 (show (Tryz.prog.info? 418).map (fun i => i.size) = some 2 by kernel_rfl)
 have hsh:w.shape? b = some (418,2):=by
  have h2:w.heap[b]? = some (.cells #[.pointer none,.slice none 0 0] 418):=h
  simp [World.shape?,h2]
 have c0:w.cell? ⟨b,0,none⟩ = some (.pointer none):=by simpa using h.cell 0
 have f0:=h.free 0
 go_enter Tryz.func296,Tryz.ntmps296
 go_wp2
 rw [Lib.run_to_unsafe w ⟨b,0,none⟩ Tryz.underlying416 Tryz.underlying478 hj (by rw [hjs]; decide) hsh (Nat.zero_lt_succ 1)]
 simp only [Result.andThen]
 rw [Oper.upon_value]
 go_wp2
 rw [run_callFunc_extern Tryz.func342 (by kernel_rfl) (by kernel_rfl) (by kernel_rfl) (e:=Extern.AbiNoEscape.same) (by kernel_rfl)]
 rw [Lib.run_noEscape]
 simp only [Result.andThen]
 rw [Oper.upon_value]
 go_wp2
 rw [Lib.run_from_unsafe w ⟨b,0,none⟩ Tryz.underlying478 Tryz.underlying416 hj hsh (by kernel_rfl)]
 simp only [Result.andThen]
 rw [Oper.upon_value]
 go_wp2
 go_end0
 exact ⟨rfl,rfl⟩
theorem Bd.string {w W:World} {b:Nat} {l:List UInt8} (h:Bd w W b l):Calls Tryz.prog 264 #[.pointer (some ⟨b,0,none⟩)] W fun e w' => e = .returned (.string ⟨l.toArray⟩) ∧ Bd w w' b l:=by
 refine (Sh.Builder_String_any_f w.heap.size b l W h.is h.upd.size).mono ?_
 rintro e w' ⟨rfl,h1,h2⟩
 exact ⟨rfl,h1,h.upd.trans (below_upd h2) fun i hi hk => by omega⟩
theorem bd_of {w w1 w4:World} {b c:Nat} {A:Option Addr} {o:Obj} (hb1:Blk w1 b 418 #[.pointer (some ⟨b,0,none⟩),.slice none 0 0]) (hu:Upd No w w1) (hb:w.heap.size ≤ b) (ho:w4.ownsRow w.heap.size 5 1 (.slice A (0 + 1) c) (0 + 1) ([] ++ [.int .u8 97]))
 (hg:(w1.alloc o).grownBy w4 (Value.slice none 0 0).ownBlock) (hat:∀ g,(Value.slice A (0 + 1) c).ownBlock = some g → (Value.slice none 0 0).ownBlock = some g ∨ (w1.alloc o).heap.size ≤ g) :
 (w4.cell? ⟨b,1,none⟩ = some (.slice none 0 0) ∧ w4.frozen? ⟨b,1,none⟩ = false) ∧ Hid (Bd w (w4.setCell ⟨b,1,none⟩ (.slice A 1 c)) b [97]):=by
 have hu4:Upd No w1 w4:=((Upd.refl No w1).alloc o).next ((Upd.refl No _).grown hg fun k hk => by cases hk)
 have hb4:=hb1.upd hu4 (no_ _)
 have hlt:=hb1.lt
 have hne:∀ g,(Value.slice A (0 + 1) c).ownBlock = some g → g ≠ b:=fun g hg' => by
  rcases hat g hg' with h | h
  · cases h
  · simp at h
    omega
 have hs1:Upd (fun k => k = b) w4 (w4.setCell ⟨b,1,none⟩ (.slice A 1 c)):=Upd.set1 (g:=b) (Upd.refl _ _) 1 _
 refine ⟨⟨by simpa using hb4.cell 1,hb4.free 1⟩,hid ⟨Lib.IsBuilderF.of (.inr ⟨hb,.slice A 1 c,hb4.put 1 _,?_,fun h => hne b h rfl⟩),(hu.next hu4).trans hs1 fun i hi e => by omega⟩⟩
 exact own_keep ho fun g hg' => hs1.block g (ho.lt g hg').2 (hne g hg')
set_option maxRecDepth 100000 in
theorem write {w W:World} {b:Nat} (h:Blk W b 418 #[.pointer none,.slice none 0 0]) (hb:w.heap.size ≤ b) (hu:Upd No w W):Calls Tryz.prog 263 #[.pointer (some ⟨b,0,none⟩),.int .u8 97] W fun e w' => e = .returned .nilIface ∧ Bd w w' b [97]:=by
 have HC:=hid (check b W h)
 have HU:=hid (And.intro hb hu)
 have HW:Hid (∃ w1,w1 = W.setCell ⟨b,0,none⟩ (.pointer (some ⟨b,0,none⟩)) ∧ Blk w1 b 418 #[.pointer (some ⟨b,0,none⟩),.slice none 0 0] ∧ Upd No w w1):=hid ⟨_,rfl,h.put 0 _,hu.trans (Upd.set1 (g:=b) (Upd.refl _ _) 0 _) fun i hi e => by omega⟩
 clear h hb hu
 go_enter Tryz.func263,Tryz.ntmps263
 go_wp2_with (fail)
 refine Calls.mono HC.out ?_
 rintro e w0 ⟨rfl,rfl⟩
 obtain ⟨w1,hw1,hb1,hu1⟩:=HW.out
 rw [← hw1]
 have c1:w1.cell? ⟨b,1,none⟩ = some (.slice none 0 0):=by simpa using hb1.cell 1
 have HX:=hid (And.intro hb1 hu1)
 clear hw1 hb1 hu1 HW HC
 go_wp2_with (at_builtin; go_must (refine ap_row w.heap.size rfl (.tmp 11) (.tmp 13) 22 5 (.int .u8 0) 1 1 rfl Tryz.underlying22 Sw.u8_info rfl (by omega) (.slice none 0 0) 0 [] (some ⟨w1.heap.size,0,none⟩) 1 1 [.int .u8 97] rfl rfl (World.ownsRow_nil _ _ _ _) (Rd_lit w1 _ 1 1 _ rfl) (by intro z hz; obtain rfl:=List.mem_singleton.1 hz; rfl) (by omega) (by omega) (Nat.le_trans HX.out.2.size (by simp)) ?_); intro A4 c4 w4 ho4 hg4 hat4; obtain ⟨⟨d1,f1⟩,HD⟩:=bd_of HX.out.1 HX.out.2 HU.out.1 ho4 hg4 hat4; clear ho4 hg4 hat4)
 go_ret
 exact ⟨rfl,HD.out⟩
set_option maxRecDepth 100000 in
theorem unhex (w:World):Calls Tryz.prog 207 #[.string ⟨#[54,49]⟩] w fun e w' => e = .returned (.tuple #[.string ⟨#[97]⟩,.bool true]) ∧ Upd No w w':=by
 have HB:Hid (∃ w1 b,w1 = w.alloc (.cells #[.pointer none,.slice none 0 0] 418) ∧ b = w.heap.size ∧ (Blk w1 b 418 #[.pointer none,.slice none 0 0] ∧ w.heap.size ≤ b ∧ Upd No w w1)):=hid ⟨_,_,rfl,rfl,Blk.fresh _ _ _,Nat.le_refl _,(Upd.refl _ _).alloc _⟩
 have H6:=hid (fun W => ix 54 6 (by rfl) W)
 have H1:=hid (fun W => ix 49 1 (by rfl) W)
 have hk:=fun W => Nd.key_ ⟨#[97]⟩ W
 rw [show Nd.keyB ⟨#[97]⟩ = true from by decide] at hk
 have HK:=hid hk
 clear hk
 go_enter Tryz.func207,Tryz.ntmps207
 go_wp2_with (fail)
 obtain ⟨w1,b,hw1,hb,hB⟩:=HB.out
 rw [← hw1,← hb]
 have HB1:=hid hB
 clear hw1 hb hB HB
 go_loopw [5] (fun v5 W => (v5 = .int .i64 0 ∧ Hid (Blk W b 418 #[.pointer none,.slice none 0 0] ∧ w.heap.size ≤ b ∧ Upd No w W)) ∨ (v5 = .int .i64 2 ∧ Hid (Bd w W b [97]))) (fun v5 _ => 2 - (intOf v5).toNat)
 case atStart => exact .inl ⟨rfl,HB1⟩
 case round =>
  clear HB1
  rcases hrel with ⟨rfl,HB⟩ | ⟨rfl,HB⟩
  · go_wp2_with (fail)
    have HW1:Hid (IntKind.i64.wrap 1 = 1):=hid (by decide)
    refine wp_region_held_drew (S:=fun _ => True) (by kernel_rfl) trivial (fun hS => ?_)
    refine zt 0 hS ?_
    refine zt 1 hS ?_
    refine zt 2 hS ?_
    refine zt 4 hS ?_
    refine zt 5 hS ?_
    refine zt 6 hS ?_
    refine zh 7 hS (fun w hw => HW1.out) ?_
    refine zk 3 (fun K hK => ?_)
    go_simp
    refine Calls.mono (H6.out _) ?_
    rintro e2 w2 ⟨rfl,rfl⟩
    go_wp2_with (fail)
    refine hK.out _ _ (trivial) (fun hS => ?_)
    clear hK K
    try simp only [Act.put,zA,zB,zC]
    refine zk 8 (fun K hK => ?_)
    go_simp
    refine Calls.mono (H1.out _) ?_
    rintro e3 w3 ⟨rfl,rfl⟩
    go_wp2_with (fail)
    refine hK.out _ _ (trivial) (fun hS => ?_)
    clear hK K
    try simp only [Act.put,zA,zB,zC]
    refine zt 9 hS ?_
    refine zt 10 hS ?_
    refine wpAnyH_done (by kernel_rfl) ?_ _
    have HWr:=hid (write (HB.out.1.drew) HB.out.2.1 (HB.out.2.2.drew))
    clear HB
    go_wp2_with (fail)
    refine Calls.mono HWr.out ?_
    rintro e4 w4 ⟨rfl,hb4⟩
    have HB4:=hid hb4
    clear hb4 HWr
    go_wp2
    go_roundw
    case rel => exact .inr ⟨rfl,HB4⟩
    case measure => simp [intOf]
  · go_wp2_with (fail)
    refine Calls.mono HB.out.string ?_
    rintro e4 w4 ⟨rfl,hb4⟩
    have HB4:=hid hb4
    clear hb4
    go_wp2_with (fail)
    refine Calls.mono HB4.out.string ?_
    rintro e5 w5 ⟨rfl,hb5⟩
    have HB5:=hid hb5
    clear hb5
    go_wp2_with (fail)
    refine Calls.mono (HK.out w5) ?_
    rintro e6 w6 ⟨rfl,rfl⟩
    go_wp2
    go_ret2
    exact ⟨rfl,HB5.out.upd⟩
end Sh
end
section
namespace Sh
open Go.RowKit Go.Proofs B
def line:ByteArray:=⟨#[111,102,102,101,114,32,49,32,49,32,54,49,32,48,32,53]⟩
theorem split (w:World) {mx:Int} (hm:w.cell? ⟨0,0,none⟩ = some (.int .i64 mx)):Calls Tryz.prog 203 #[.string ⟨#[111,102,102,101,114,32,49,32,49,32,54,49,32,48,32,53]⟩,.string ⟨#[32]⟩] w fun e w' => e = .returned (.slice (some ⟨w.heap.size,0,none⟩) 6 6) ∧
 w' = w.alloc (.cells #[.string ⟨#[111,102,102,101,114]⟩,.string ⟨#[49]⟩,.string ⟨#[49]⟩,.string ⟨#[54,49]⟩,.string ⟨#[48]⟩,.string ⟨#[53]⟩] 9):=by
 have h:=Sh.strings_Split line ⟨#[32]⟩ mx w (by decide) hm (by decide)
 rw [show Lib.countB line ⟨#[32]⟩ = 5 from by decide] at h
 rw [show Lib.splitB ⟨#[32]⟩ 0 5 line = [⟨#[111,102,102,101,114]⟩,⟨#[49]⟩,⟨#[49]⟩,⟨#[54,49]⟩,⟨#[48]⟩,⟨#[53]⟩] from by decide] at h
 exact h
structure Pc (w W:World) (pr pc pw:Nat) (nk:List Value) (c s:Int) (ni:List Value) (vk vi:Value):Prop where
 bw:Blk W pw 9 #[.string ⟨#[111,102,102,101,114]⟩,.string ⟨#[49]⟩,.string ⟨#[49]⟩,.string ⟨#[54,49]⟩,.string ⟨#[48]⟩,.string ⟨#[53]⟩]
 br:Blk W pr 279 #[.string ⟨#[]⟩,.slice none 0 0,.int .u64 0,.int .u64 0,.slice none 0 0]
 bc:Blk W pc 279 #[.string ⟨#[111,102,102,101,114]⟩,vk,.int .u64 c,.int .u64 s,vi]
 sk:Sl W 0 9 1 vk nk.length nk
 si:Sl W 0 2 1 vi ni.length ni
 lo:w.heap.size ≤ pr ∧ w.heap.size ≤ pc ∧ w.heap.size ≤ pw ∧ pr ≠ pc ∧ pw ≠ pc ∧ pw ≠ pr
 fk:∀ k,vk.ownBlock = some k → w.heap.size ≤ k ∧ k ≠ pr ∧ k ≠ pc ∧ k ≠ pw
 fi:∀ k,vi.ownBlock = some k → w.heap.size ≤ k ∧ k ≠ pr ∧ k ≠ pc ∧ k ≠ pw
 upd:Upd No w W
section
variable {w W W':World} {pr pc pw:Nat} {nk ni:List Value} {c s:Int} {vk vi:Value}
theorem Pc.quiet (h:Pc w W pr pc pw nk c s ni vk vi) (hu:Upd No W W'):Pc w W' pr pc pw nk c s ni vk vi:=
 ⟨h.bw.upd hu (no_ _),h.br.upd hu (no_ _),h.bc.upd hu (no_ _),h.sk.upd hu fun _ _ => no_ _,h.si.upd hu fun _ _ => no_ _,h.lo,h.fk,h.fi,h.upd.next hu⟩
theorem Pc.cells (h:Pc w W pr pc pw nk c s ni vk vi):W.cell? ⟨pc,0,none⟩ = some (.string ⟨#[111,102,102,101,114]⟩) ∧ W.cell? ⟨pc,1,none⟩ = some vk ∧ W.cell? ⟨pc,2,none⟩ = some (.int .u64 c) ∧ W.cell? ⟨pc,3,none⟩ = some (.int .u64 s) ∧ W.cell? ⟨pc,4,none⟩ = some vi:=
 ⟨by simpa using h.bc.cell 0,by simpa using h.bc.cell 1,by simpa using h.bc.cell 2,by simpa using h.bc.cell 3,by simpa using h.bc.cell 4⟩
theorem Pc.words (h:Pc w W pr pc pw nk c s ni vk vi):W.cell? ⟨pw,1,none⟩ = some (.string ⟨#[49]⟩) ∧ W.cell? ⟨pw,2,none⟩ = some (.string ⟨#[49]⟩) ∧ W.cell? ⟨pw,3,none⟩ = some (.string ⟨#[54,49]⟩) ∧ W.cell? ⟨pw,4,none⟩ = some (.string ⟨#[48]⟩) ∧ W.cell? ⟨pw,5,none⟩ = some (.string ⟨#[53]⟩):=
 ⟨by simpa using h.bw.cell 1,by simpa using h.bw.cell 2,by simpa using h.bw.cell 3,by simpa using h.bw.cell 4,by simpa using h.bw.cell 5⟩
theorem Pc.put (h:Pc w W pr pc pw nk c s ni vk vi) (i:Nat) (u:Value) {vk' vi':Value} {c' s':Int} {nk' ni':List Value} (hb:Blk (W.setCell ⟨pc,i,none⟩ u) pc 279 #[.string ⟨#[111,102,102,101,114]⟩,vk',.int .u64 c',.int .u64 s',vi'])
 (hk:Sl W 0 9 1 vk' nk'.length nk') (hi:Sl W 0 2 1 vi' ni'.length ni') (fk:∀ k,vk'.ownBlock = some k → w.heap.size ≤ k ∧ k ≠ pr ∧ k ≠ pc ∧ k ≠ pw) (fi:∀ k,vi'.ownBlock = some k → w.heap.size ≤ k ∧ k ≠ pr ∧ k ≠ pc ∧ k ≠ pw) :
 Pc w (W.setCell ⟨pc,i,none⟩ u) pr pc pw nk' c' s' ni' vk' vi':=by
 have hu:Upd (fun k => k = pc) W (W.setCell ⟨pc,i,none⟩ u):=Upd.set1 (g:=pc) (Upd.refl _ _) i u
 exact ⟨h.bw.upd hu h.lo.2.2.2.2.1,h.br.upd hu h.lo.2.2.2.1,hb,hk.upd hu fun g hg e => (fk g hg).2.2.1 e,hi.upd hu fun g hg e => (fi g hg).2.2.1 e,h.lo,fk,fi,h.upd.trans hu fun i hi e => by have:=h.lo.2.1; omega⟩
theorem Pc.client (h:Pc w W pr pc pw nk c s ni vk vi) (x:Int):Pc w (W.setCell ⟨pc,2,none⟩ (.int .u64 x)) pr pc pw nk x s ni vk vi:=h.put 2 _ (h.bc.put 2 _) h.sk h.si h.fk h.fi
theorem Pc.serial (h:Pc w W pr pc pw nk c s ni vk vi) (x:Int):Pc w (W.setCell ⟨pc,3,none⟩ (.int .u64 x)) pr pc pw nk c x ni vk vi:=h.put 3 _ (h.bc.put 3 _) h.sk h.si h.fk h.fi
theorem Pc.key {W1:World} {A:Option Addr} {k n:Nat} {x:Value} {o:Obj} (h:Pc w W pr pc pw nk c s ni vk vi) (hn:nk.length = n) (ho:Sl W1 0 9 1 (.slice A (n + 1) k) (n + 1) (nk ++ [x])) (hu:Upd (fun k => vk.ownBlock = some k) (W.alloc o) W1) (hat:∀ g,(Value.slice A (n + 1) k).ownBlock = some g → vk.ownBlock = some g ∨ (W.alloc o).heap.size ≤ g) :
 (W1.cell? ⟨pc,1,none⟩ = some vk ∧ W1.frozen? ⟨pc,1,none⟩ = false) ∧ Hid (Pc w (W1.setCell ⟨pc,1,none⟩ (.slice A (n + 1) k)) pr pc pw (nk ++ [x]) c s ni (.slice A (n + 1) k) vi):=by
 subst hn
 have ha:=h.quiet ((Upd.refl No W).alloc o)
 have hb:=ha.bc.upd hu fun e => (h.fk _ e).2.2.1 rfl
 have hp:=ha.bc.lt
 have hr:=ha.br.lt
 have hw:=ha.bw.lt
 have fk:∀ g,(Value.slice A (nk.length + 1) k).ownBlock = some g → w.heap.size ≤ g ∧ g ≠ pr ∧ g ≠ pc ∧ g ≠ pw:=fun g hg => by
  rcases hat g hg with h9 | h9
  · exact h.fk g h9
  · have:=ha.upd.size; exact ⟨by omega,by omega,by omega,by omega⟩
 have si1:Sl W1 0 2 1 vi ni.length ni:=ha.si.upd hu fun g hg hk => by
  have e1:∃ cs,Blk (W.alloc o) g 2 cs:=ha.si.blk hg
  have e2:∃ cs,Blk (W.alloc o) g 9 cs:=ha.sk.blk hk
  obtain ⟨c1,e1⟩:=e1
  obtain ⟨c2,e2⟩:=e2
  exact e1.ne_type e2 (by decide) rfl
 have h1:Pc w W1 pr pc pw nk c s ni vk vi → True:=fun _ => trivial
 have hu1:Upd (fun k => k = pc) W1 (W1.setCell ⟨pc,1,none⟩ (.slice A (nk.length + 1) k)):=Upd.set1 (g:=pc) (Upd.refl _ _) 1 _
 have hl:(nk ++ [x]).length = nk.length + 1:=by simp
 refine ⟨⟨by simpa using hb.cell 1,hb.free 1⟩,hid ⟨(ha.bw.upd hu fun e => (h.fk _ e).2.2.2 rfl).upd hu1 h.lo.2.2.2.2.1,(ha.br.upd hu fun e => (h.fk _ e).2.1 rfl).upd hu1 h.lo.2.2.2.1,hb.put 1 _,by rw [hl]; exact ho.upd hu1 fun g hg e => (fk g hg).2.2.1 e,si1.upd hu1 fun g hg e => (h.fi g hg).2.2.1 e,h.lo,fk,h.fi,?_⟩⟩
 exact (ha.upd.trans hu fun i hi e => by have:=(h.fk i e).1; omega).trans hu1 fun i hi e => by have:=h.lo.2.1; omega
theorem Pc.int {W1:World} {A:Option Addr} {k n:Nat} {x:Value} {o:Obj} (h:Pc w W pr pc pw nk c s ni vk vi) (hn:ni.length = n) (ho:Sl W1 0 2 1 (.slice A (n + 1) k) (n + 1) (ni ++ [x])) (hu:Upd (fun k => vi.ownBlock = some k) (W.alloc o) W1) (hat:∀ g,(Value.slice A (n + 1) k).ownBlock = some g → vi.ownBlock = some g ∨ (W.alloc o).heap.size ≤ g) :
 (W1.cell? ⟨pc,4,none⟩ = some vi ∧ W1.frozen? ⟨pc,4,none⟩ = false) ∧ Hid (Pc w (W1.setCell ⟨pc,4,none⟩ (.slice A (n + 1) k)) pr pc pw nk c s (ni ++ [x]) vk (.slice A (n + 1) k)):=by
 subst hn
 have ha:=h.quiet ((Upd.refl No W).alloc o)
 have hb:=ha.bc.upd hu fun e => (h.fi _ e).2.2.1 rfl
 have hp:=ha.bc.lt
 have hr:=ha.br.lt
 have hw:=ha.bw.lt
 have fi:∀ g,(Value.slice A (ni.length + 1) k).ownBlock = some g → w.heap.size ≤ g ∧ g ≠ pr ∧ g ≠ pc ∧ g ≠ pw:=fun g hg => by
  rcases hat g hg with h9 | h9
  · exact h.fi g h9
  · have:=ha.upd.size; exact ⟨by omega,by omega,by omega,by omega⟩
 have sk1:Sl W1 0 9 1 vk nk.length nk:=ha.sk.upd hu fun g hg hk => by
  have e1:∃ cs,Blk (W.alloc o) g 2 cs:=ha.si.blk hk
  have e2:∃ cs,Blk (W.alloc o) g 9 cs:=ha.sk.blk hg
  obtain ⟨c1,e1⟩:=e1
  obtain ⟨c2,e2⟩:=e2
  exact e1.ne_type e2 (by decide) rfl
 have hu1:Upd (fun k => k = pc) W1 (W1.setCell ⟨pc,4,none⟩ (.slice A (ni.length + 1) k)):=Upd.set1 (g:=pc) (Upd.refl _ _) 4 _
 have hl:(ni ++ [x]).length = ni.length + 1:=by simp
 refine ⟨⟨by simpa using hb.cell 4,hb.free 4⟩,hid ⟨(ha.bw.upd hu fun e => (h.fi _ e).2.2.2 rfl).upd hu1 h.lo.2.2.2.2.1,(ha.br.upd hu fun e => (h.fi _ e).2.1 rfl).upd hu1 h.lo.2.2.2.1,hb.put 4 _,sk1.upd hu1 fun g hg e => (h.fk g hg).2.2.1 e,by rw [hl]; exact ho.upd hu1 fun g hg e => (fi g hg).2.2.1 e,h.lo,h.fk,fi,?_⟩⟩
 exact (ha.upd.trans hu fun i hi e => by have:=(h.fi i e).1; omega).trans hu1 fun i hi e => by have:=h.lo.2.1; omega
end
theorem st_info:(Tryz.prog.info? 9).map (fun i => (i.zero,i.size,i.bytes)) = some (some (.string ⟨#[]⟩),1,16):=by kernel_rfl
def PaOut (w:World) (e:Ending) (w':World):Prop:=∃ Ak ck Ai ci,e = .returned (.tuple #[.agg #[.string ⟨#[111,102,102,101,114]⟩,.slice Ak 1 ck,.int .u64 1,.int .u64 1,.slice Ai 2 ci],.int .i64 0]) ∧ Sl w' 0 9 1 (.slice Ak 1 ck) 1 [.string ⟨#[97]⟩] ∧ Sl w' 0 2 1 (.slice Ai 2 ci) 2 [.int .i64 0,.int .i64 5] ∧ Upd No w w' ∧ (∀ k,(Value.slice Ak 1 ck).ownBlock = some k → w.heap.size ≤ k) ∧ ∀ k,(Value.slice Ai 2 ci).ownBlock = some k → w.heap.size ≤ k
theorem PaOut.of {w:World} {e:Ending} {w':World} (h:∃ Ak ck Ai ci,e = .returned (.tuple #[.agg #[.string ⟨#[111,102,102,101,114]⟩,.slice Ak 1 ck,.int .u64 1,.int .u64 1,.slice Ai 2 ci],.int .i64 0]) ∧ Sl w' 0 9 1 (.slice Ak 1 ck) 1 [.string ⟨#[97]⟩] ∧ Sl w' 0 2 1 (.slice Ai 2 ci) 2 [.int .i64 0,.int .i64 5] ∧ Upd No w w' ∧ (∀ k,(Value.slice Ak 1 ck).ownBlock = some k → w.heap.size ≤ k) ∧ ∀ k,(Value.slice Ai 2 ci).ownBlock = some k → w.heap.size ≤ k):PaOut w e w':=h
def put5 (w:World) (p:Nat) (v0 v1 v2 v3 v4:Value):World:=((((w.setCell ⟨p,0,none⟩ v0).setCell ⟨p,1,none⟩ v1).setCell ⟨p,2,none⟩ v2).setCell ⟨p,3,none⟩ v3).setCell ⟨p,4,none⟩ v4
theorem put5_blk {w:World} {p:Nat} {t:TypeId} {a0 a1 a2 a3 a4:Value} (h:Blk w p t #[a0,a1,a2,a3,a4]) (v0 v1 v2 v3 v4:Value):Blk (put5 w p v0 v1 v2 v3 v4) p t #[v0,v1,v2,v3,v4]:=by
 have:=((((h.put 0 v0).put 1 v1).put 2 v2).put 3 v3).put 4 v4
 simpa [put5] using this
theorem put5_upd (w:World) (p:Nat) (v0 v1 v2 v3 v4:Value):Upd (fun k => k = p) w (put5 w p v0 v1 v2 v3 v4):=((((Upd.set1 (Upd.refl _ _) _ _).set1 _ _).set1 _ _).set1 _ _).set1 _ _
set_option maxRecDepth 100000 in
theorem parse (w:World) {mx:Int} (hm:w.cell? ⟨0,0,none⟩ = some (.int .i64 mx)):Calls Tryz.prog 140 #[.string ⟨#[111,102,102,101,114,32,49,32,49,32,54,49,32,48,32,53]⟩] w fun e w' => PaOut w e w':=by
 have HW1:Hid (∃ w1 pr,w1 = w.alloc (.cells #[.string ⟨#[]⟩,.slice none 0 0,.int .u64 0,.int .u64 0,.slice none 0 0] 279) ∧ pr = w.heap.size ∧ Blk w1 pr 279 #[.string ⟨#[]⟩,.slice none 0 0,.int .u64 0,.int .u64 0,.slice none 0 0] ∧ Upd No w w1):=hid ⟨_,_,rfl,rfl,Blk.fresh _ _ _,(Upd.refl _ _).alloc _⟩
 have HM:=hid hm
 clear hm
 go_enter Tryz.func140,Tryz.ntmps140
 go_wp2_with (fail)
 obtain ⟨w1,pr,hw1,hpr,hb1,hu1⟩:=HW1.out
 rw [← hw1,← hpr]
 have hm1:w1.cell? ⟨0,0,none⟩ = some (.int .i64 mx):=by
  have h0:(0:Nat) < w.heap.size:=by
   rcases Nat.lt_or_ge 0 w.heap.size with h | h
   · exact h
   · have:=HM.out
     unfold World.cell? at this
     rw [Array.getElem?_eq_none (show w.heap.size ≤ 0 from h)] at this
     cases this
  have:=hu1.cell (p:=⟨0,0,none⟩) h0 (no_ _)
  rw [this]
  exact HM.out
 have HS:=hid (split w1 hm1)
 have HX1:=hid (And.intro hb1 (And.intro hu1 hpr))
 clear hw1 hb1 hu1 hpr hm1 HW1
 refine Calls.mono HS.out ?_
 rintro e w2 ⟨rfl,hw2⟩
 obtain ⟨pw,hpw⟩:∃ pw,pw = w1.heap.size:=⟨_,rfl⟩
 rw [← hpw]
 have hb2:Blk w2 pw 9 #[.string ⟨#[111,102,102,101,114]⟩,.string ⟨#[49]⟩,.string ⟨#[49]⟩,.string ⟨#[54,49]⟩,.string ⟨#[48]⟩,.string ⟨#[53]⟩]:=by rw [hw2,hpw]; exact Blk.fresh _ _ _
 have c20:w2.cell? ⟨pw,0,none⟩ = some (.string ⟨#[111,102,102,101,114]⟩):=by simpa using hb2.cell 0
 have HP3:Hid (∃ w3 pc,w3 = w2.alloc (.cells #[.string ⟨#[111,102,102,101,114]⟩,.slice none 0 0,.int .u64 0,.int .u64 0,.slice none 0 0] 279) ∧ pc = w2.heap.size ∧ Pc w w3 pr pc pw [] 0 0 [] (.slice none 0 0) (.slice none 0 0)):=hid (by
  obtain ⟨hb1,hu1,hpr⟩:=HX1.out
  have u2:Upd No w1 w2:=by rw [hw2]; exact (Upd.refl _ _).alloc _
  have l1:=hb1.lt
  have l2:=hb2.lt
  have s1:=hu1.size
  have s2:w2.heap.size = w1.heap.size + 1:=by rw [hw2]; simp
  exact ⟨_,_,rfl,rfl,hb2.alloc _,(hb1.upd u2 (no_ _)).alloc _,Blk.fresh _ _ _,Sl.nil _ _ _ _,Sl.nil _ _ _ _,⟨by omega,by omega,by omega,by omega,by omega,by omega⟩,fun k hk => by simp [Value.ownBlock] at hk,fun k hk => by simp [Value.ownBlock] at hk,(hu1.next u2).alloc _⟩)
 clear hw2 hpw hb2 HS HX1
 go_wp2_with (fail)
 obtain ⟨w3,pc,hw3,hpc,hp3⟩:=HP3.out
 rw [← hw3,← hpc]
 have HP:=hid hp3
 clear hw3 hpc hp3 c20 HP3
 refine Calls.mono (shape w3) ?_
 rintro e w4 ⟨rfl,hu4⟩
 have HP4:=hid (HP.out.quiet hu4)
 clear hu4 HP
 go_wp2_with (fail)
 go_loopw [44] (fun v44 W => (v44 = .int .i64 0 ∧ Hid (Pc w W pr pc pw [] 0 0 [] (.slice none 0 0) (.slice none 0 0))) ∨ (v44 = .int .i64 1 ∧ Hid (Pc w W pr pc pw [] 1 0 [] (.slice none 0 0) (.slice none 0 0))) ∨ (v44 = .int .i64 2 ∧ Hid (Pc w W pr pc pw [] 1 1 [] (.slice none 0 0) (.slice none 0 0))) ∨
  (v44 = .int .i64 3 ∧ ∃ Ak ck,Hid (Pc w W pr pc pw [.string ⟨#[97]⟩] 1 1 [] (.slice Ak 1 ck) (.slice none 0 0))) ∨ (v44 = .int .i64 4 ∧ ∃ Ak ck Ai ci,Hid (Pc w W pr pc pw [.string ⟨#[97]⟩] 1 1 [.int .i64 0] (.slice Ak 1 ck) (.slice Ai 1 ci))) ∨ (v44 = .int .i64 5 ∧ ∃ Ak ck Ai ci,Hid (Pc w W pr pc pw [.string ⟨#[97]⟩] 1 1 [.int .i64 0,.int .i64 5] (.slice Ak 1 ck) (.slice Ai 2 ci)))) (fun v44 _ => 5 - (intOf v44).toNat)
 case atStart => exact .inl ⟨rfl,HP4⟩
 case round =>
  clear HP4
  rcases hrel with ⟨rfl,HP⟩ | ⟨rfl,HP⟩ | ⟨rfl,HP⟩ | ⟨rfl,Ak,ck,HP⟩ | ⟨rfl,Ak,ck,Ai,ci,HP⟩ | ⟨rfl,Ak,ck,Ai,ci,HP⟩
  · obtain ⟨y1,y2,y3,y4,y5⟩:=HP.out.words
    go_wp2_with (fail)
    refine Calls.mono (number wr) ?_
    rintro e w5 ⟨rfl,hu5⟩
    have hp5:=HP.out.quiet hu5
    obtain ⟨_,_,c2,_,_⟩:=hp5.cells
    have f2:=hp5.bc.free 2
    have HN:=hid (hp5.client 1)
    clear hu5 hp5 y1 y2 y3 y4 y5
    go_wp2
    go_roundw
    case rel => exact .inr (.inl ⟨rfl,HN⟩)
    case measure => simp [intOf]
  · obtain ⟨y1,y2,y3,y4,y5⟩:=HP.out.words
    go_wp2_with (fail)
    refine Calls.mono (number wr) ?_
    rintro e w5 ⟨rfl,hu5⟩
    have hp5:=HP.out.quiet hu5
    obtain ⟨_,_,_,c3,_⟩:=hp5.cells
    have f3:=hp5.bc.free 3
    have HN:=hid (hp5.serial 1)
    clear hu5 hp5 y1 y2 y3 y4 y5
    go_wp2
    go_roundw
    case rel => exact .inr (.inr (.inl ⟨rfl,HN⟩))
    case measure => simp [intOf]
  · obtain ⟨y1,y2,y3,y4,y5⟩:=HP.out.words
    go_wp2_with (fail)
    refine Calls.mono (unhex wr) ?_
    rintro e w5 ⟨rfl,hu5⟩
    have HP5:=hid (HP.out.quiet hu5)
    obtain ⟨_,c1,_⟩:=HP5.out.cells
    clear hu5 HP y1 y2 y3 y4 y5
    go_wp2_with (at_builtin; go_must (refine ap_sl 0 rfl (.tmp 68) (.tmp 70) 31 9 (.string ⟨#[]⟩) 1 16 rfl Tryz.underlying31 st_info rfl (by omega) (.slice none 0 0) 0 [] (some ⟨w5.heap.size,0,none⟩) 1 1 [.string ⟨#[97]⟩] rfl rfl (HP5.out.sk.alloc _) (Rd_lit w5 _ 1 1 _ rfl) (by intro z hz; obtain rfl:=List.mem_singleton.1 hz; rfl) (by omega) (by omega) (Nat.zero_le _) ?_); intro A9 c9 w9 ho9 hu9 hat9; obtain ⟨⟨d1,f1⟩,HN⟩:=HP5.out.key rfl ho9 hu9 hat9; clear ho9 hu9 hat9)
    go_roundw
    case rel => exact .inr (.inr (.inr (.inl ⟨rfl,A9,c9,HN⟩)))
    case measure => simp [intOf]
  · obtain ⟨y1,y2,y3,y4,y5⟩:=HP.out.words
    go_wp2_with (fail)
    refine Calls.mono (int0 wr) ?_
    rintro e w5 ⟨rfl,hu5⟩
    have HP5:=hid (HP.out.quiet hu5)
    obtain ⟨_,_,_,_,c4⟩:=HP5.out.cells
    clear hu5 HP y1 y2 y3 y4 y5
    go_wp2_with (at_builtin; go_must (refine ap_sl 0 rfl (.tmp 97) (.tmp 99) 40 2 (.int .i64 0) 1 8 rfl Tryz.underlying40 Lt.i64_info rfl (by omega) (.slice none 0 0) 0 [] (some ⟨w5.heap.size,0,none⟩) 1 1 [.int .i64 0] rfl rfl (HP5.out.si.alloc _) (Rd_lit w5 _ 1 1 _ rfl) (by intro z hz; obtain rfl:=List.mem_singleton.1 hz; rfl) (by omega) (by omega) (Nat.zero_le _) ?_); intro A9 c9 w9 ho9 hu9 hat9; obtain ⟨⟨d1,f1⟩,HN⟩:=HP5.out.int rfl ho9 hu9 hat9; clear ho9 hu9 hat9)
    go_roundw
    case rel => exact .inr (.inr (.inr (.inr (.inl ⟨rfl,Ak,ck,A9,c9,HN⟩))))
    case measure => simp [intOf]
  · obtain ⟨y1,y2,y3,y4,y5⟩:=HP.out.words
    go_wp2_with (fail)
    refine Calls.mono (int5 wr) ?_
    rintro e w5 ⟨rfl,hu5⟩
    have HP5:=hid (HP.out.quiet hu5)
    obtain ⟨_,_,_,_,c4⟩:=HP5.out.cells
    clear hu5 HP y1 y2 y3 y4 y5
    go_wp2_with (at_builtin; go_must (refine ap_sl 0 rfl (.tmp 97) (.tmp 99) 40 2 (.int .i64 0) 1 8 rfl Tryz.underlying40 Lt.i64_info rfl (by omega) (.slice Ai 1 ci) 1 [.int .i64 0] (some ⟨w5.heap.size,0,none⟩) 1 1 [.int .i64 5] rfl rfl (HP5.out.si.alloc _) (Rd_lit w5 _ 1 1 _ rfl) (by intro z hz; obtain rfl:=List.mem_singleton.1 hz; rfl) (by omega) (by omega) (Nat.zero_le _) ?_); intro A9 c9 w9 ho9 hu9 hat9; obtain ⟨⟨d1,f1⟩,HN⟩:=HP5.out.int rfl ho9 hu9 hat9; clear ho9 hu9 hat9)
    go_roundw
    case rel => exact .inr (.inr (.inr (.inr (.inr ⟨rfl,Ak,ck,A9,c9,HN⟩))))
    case measure => simp [intOf]
  · obtain ⟨c0,c1,c2,c3,c4⟩:=HP.out.cells
    have hbr:=HP.out.br
    have r0:wr.cell? ⟨pr,0,none⟩ = some (.string ⟨#[]⟩):=by simpa using hbr.cell 0
    have r1:wr.cell? ⟨pr,1,none⟩ = some (.slice none 0 0):=by simpa using hbr.cell 1
    have r2:wr.cell? ⟨pr,2,none⟩ = some (.int .u64 0):=by simpa using hbr.cell 2
    have r3:wr.cell? ⟨pr,3,none⟩ = some (.int .u64 0):=by simpa using hbr.cell 3
    have r4:wr.cell? ⟨pr,4,none⟩ = some (.slice none 0 0):=by simpa using hbr.cell 4
    have f0:=hbr.free 0
    have f1:=hbr.free 1
    have f2:=hbr.free 2
    have f3:=hbr.free 3
    have f4:=hbr.free 4
    have HZ:=hid hbr
    clear hbr
    go_wp2
    have hq:=put5_blk HZ.out (.string ⟨#[111,102,102,101,114]⟩) (.slice Ak 1 ck) (.int .u64 1) (.int .u64 1) (.slice Ai 2 ci)
    have hp5:=put5_upd wr pr (.string ⟨#[111,102,102,101,114]⟩) (.slice Ak 1 ck) (.int .u64 1) (.int .u64 1) (.slice Ai 2 ci)
    have q0:=hq.cell 0
    have q1:=hq.cell 1
    have q2:=hq.cell 2
    have q3:=hq.cell 3
    have q4:=hq.cell 4
    simp only [List.getElem?_toArray,List.getElem?_cons_zero,List.getElem?_cons_succ] at q0 q1 q2 q3 q4
    unfold put5 at q0 q1 q2 q3 q4 hp5
    refine bodyPost_ret (v:=.tuple #[.agg #[.string ⟨#[111,102,102,101,114]⟩,.slice Ak 1 ck,.int .u64 1,.int .u64 1,.slice Ai 2 ci],.int .i64 0]) (by simp [results,go_sem,q0,q1,q2,q3,q4]) rfl ?_
    have h:=HP.out
    exact .of ⟨Ak,ck,Ai,ci,rfl,h.sk.upd hp5 fun g hg e => (h.fk g hg).2.1 e,h.si.upd hp5 fun g hg e => (h.fi g hg).2.1 e,h.upd.trans hp5 fun i hi e => by have:=h.lo.1; omega,fun k hk => (h.fk k hk).1,fun k hk => (h.fi k hk).1⟩
end Sh
end
section
namespace Eg
open Go.RowKit Go.Proofs B Cm Cr Ou Lt Lc
open Ac (Am fresh fresh_ok encA encA_le encA_byte freshB Fit)
def l1:Lt.L:=(⟨#[]⟩,1,0,[5])
theorem l1_ok:formed l1 = true ∧ Wf l1:=by
 refine ⟨rfl,⟨⟨by simp [l1],by simp [l1]⟩,?_,fun i hi => ?_⟩⟩
 · show -9223372036854775808 ≤ (0:Int) ∧ (0:Int) ≤ 9223372036854775807
   omega
 · have:i = 0:=by simp [l1] at hi; exact hi
   subst this
   show -9223372036854775808 ≤ (5:Int) ∧ (5:Int) ≤ 9223372036854775807
   omega
def k1:ByteArray:=⟨#[97]⟩
theorem k1_ok:Kk k1:=⟨by decide,by decide⟩
def em1 (p:Nat):Em:=((em0 p 200 2).loaded k1).commit [(0,got (fresh k1) l1)] none (some (0,(Wp.addX [] 1 1).2))
theorem offered1 (p:Nat):(em0 p 200 2).offered 1 1 k1 l1 = (true,0,em1 p):=by
 unfold Em.offered
 rw [if_neg (by simp [em0,Wp.sr]),if_pos (by show (fresh k1).inb.length < 8; decide)]
 rfl
theorem room1 (p:Nat):Gp.nbl (Bo.encL (chs [(0,got ((em0 p 200 2).act k1) l1)] none (some (0,(Wp.addX (em0 p 200 2).win 1 1).2)))) ≤ (em0 p 200 2).bk.lg.count - (em0 p 200 2).bk.lg.used:=by
 have hx:Wp.Ok (Wp.addX [] 1 1).2:=Wp.Ok.add Wp.Ok.nil ⟨by omega,by omega⟩ ⟨by omega,by omega⟩
 have h1:=Bo.encL_le (chs [(0,got (fresh k1) l1)] none (some (0,(Wp.addX [] 1 1).2)))
 have h2:=encX_le hx
 have h3:=only_enc k1_ok (show Only k1 (got (fresh k1) l1) from ⟨[l1],⟨by decide,fun x hx => by rw [List.mem_singleton.1 hx]; exact l1_ok⟩,rfl⟩)
 have e:chs [(0,got (fresh k1) l1)] none (some (0,(Wp.addX [] 1 1).2)) = [(akey k1,encA (got (fresh k1) l1),freshB (got (fresh k1) l1)),(kw,We.encX (Wp.addX [] 1 1).2,false)]:=rfl
 have e1:Bo.sizeC (chs [(0,got (fresh k1) l1)] none (some (0,(Wp.addX [] 1 1).2))) = (akey k1).size + (encA (got (fresh k1) l1)).length + (kw.size + (We.encX (Wp.addX [] 1 1).2).length):=by rw [e]; simp [Bo.sizeC]
 have e2:kw.size = 1:=rfl
 have e3:(chs [(0,got (fresh k1) l1)] none (some (0,(Wp.addX [] 1 1).2))).length = 2:=rfl
 have e4:=akey_size k1
 have e5:=k1_ok.2
 show Gp.nbl (Bo.encL (chs [(0,got (fresh k1) l1)] none (some (0,(Wp.addX [] 1 1).2)))) ≤ 50 - 0
 unfold Gp.nbl
 omega
theorem en_down {W:World} {F:Nat → Prop} {pe p:Nat} {m:Em} (h:En W F pe m) (hR:m.R = fun b => Ob.and (b.pd = p) (Ob.star [])):Calls Tryz.prog 74 #[.pointer (some ⟨p,0,none⟩)] W fun e w' => e = .returned (.bool false) ∧ W = w':=by
 obtain ⟨e,hs⟩:=h.ex
 obtain ⟨B,⟨n1,n2,_,_,hb⟩,_⟩:=Star.own hs 1 (o:=bkO e.b m.bk m.n (m.R e.b)) rfl
 obtain ⟨_,hr,_⟩:=Star.own hb 5 (o:=m.R e.b) rfl
 obtain ⟨D,hd,_⟩:=Star.own hb 3 (o:=Bo.dkO e.b.pd m.bk.d) rfl
 rw [hR] at hr
 have hp:e.b.pd = p:=hr.1
 rw [hp] at hd
 have:=Dk.down p m.bk.d D W hd h.ok.bok.snd.dok
 rw [h.ok.bok.down] at this
 exact this
theorem en_offer {W:World} {F:Nat → Prop} {pe p:Nat} (h:En W F pe (em0 p 200 2)) {u:Value} (hin:In W l1 u):Calls Tryz.prog 9 #[.pointer (some ⟨pe,0,none⟩),.int .u64 1,.int .u64 1,.string ⟨#[97]⟩,.int .i64 0,u] W fun e w' => e = .returned (.tuple #[.bool true,.int .i64 0]) ∧ Kept W F pe (em1 p) w':=by
 have:=offer_ (c:=1) (s:=1) (k:=0) (l:=[5]) h ⟨rfl,fun s h => by cases h⟩ We.SerNd.nil ⟨by show 301 ≤ 1000; omega,by show 1000 + 210 ≤ 400000; omega⟩ k1_ok l1_ok hin ⟨by omega,by omega⟩ ⟨by omega,by omega⟩ (fun _ => room1 p)
 refine this.mono ?_
 rintro e w' ⟨h1,h2⟩
 have ho:=offered1 p
 unfold l1 at ho
 rw [ho] at h1 h2
 exact ⟨h1,h2⟩
end Eg
end
section
namespace Eg
open Go.RowKit Go.Proofs B Cm Cr Ou Lt Lc
def TaOut (W:World) (F:Nat → Prop) (pe p:Nat) (v:Value) (e:Ending) (w':World):Prop:=e = .returned v ∧ Kept W F pe (em1 p) w'
set_option maxRecDepth 100000 in
theorem answer {W:World} {F:Nat → Prop} {pe p:Nat} (h:En W F pe (em0 p 200 2)) {Ak Ai:Option Addr} {ck ci:Nat} (hk:Sl W 0 9 1 (.slice Ak 1 ck) 1 [.string ⟨#[97]⟩]) (hi:Sl W 0 2 1 (.slice Ai 2 ci) 2 [.int .i64 0,.int .i64 5]) (hfk:∀ k,(Value.slice Ak 1 ck).ownBlock = some k → ¬ F k) (hfi:∀ k,(Value.slice Ai 2 ci).ownBlock = some k → ¬ F k) :
 Calls Tryz.prog 141 #[.pointer (some ⟨pe,0,none⟩),.agg #[.string ⟨#[111,102,102,101,114]⟩,.slice Ak 1 ck,.int .u64 1,.int .u64 1,.slice Ai 2 ci]] W fun e w' => TaOut W F pe p (.tuple #[.string ⟨#[116,97,107,101,110]⟩,.int .i64 0]) e w':=by
 obtain ⟨_,_,ek,hck1,hck2⟩:=hk.shape
 cases ek
 obtain ⟨_,_,ei,hci1,hci2⟩:=hi.shape
 cases ei
 simp only [maxLen] at hck2 hci2
 obtain ⟨A5,hA5,hcut⟩:=cut_tail (P:=Tryz.prog) 40 2 .i64 1 Tryz.underlying40 (by kernel_rfl) Ai 2 ci 1 1 rfl (by omega)
 have hdr:=hi.drop (m:=1) (by omega)
 rw [if_neg (show ¬ ci = 1 by omega)] at hdr hA5
 subst hA5
 have HIn:=hid (fun W' (hu:Upd No W W') => show In W' l1 (.slice (Ai.map fun x => x.add (1 * 1)) 1 (ci - 1)) from ⟨_,_,rfl,(hdr.upd hu fun _ _ => no_ _).rd,by show 1 ≤ ci - 1; omega,by simp only [maxLen]; omega⟩)
 have HE:=hid (fun W' (hu:Upd No W W') => h.quiet hu)
 obtain ⟨adk,hAk,hak⟩:=hk.rd.2 (by omega)
 obtain ⟨adi,hAi,hai⟩:=hi.rd.2 (by omega)
 have ak:=hak 0 _ rfl
 have ai:=hai 0 _ rfl
 have HW:Hid (∃ w1 pb,w1 = W.alloc (.cells #[.string ⟨#[111,102,102,101,114]⟩,.slice Ak 1 ck,.int .u64 1,.int .u64 1,.slice Ai 2 ci] 279) ∧ pb = W.heap.size ∧ Blk w1 pb 279 #[.string ⟨#[111,102,102,101,114]⟩,.slice Ak 1 ck,.int .u64 1,.int .u64 1,.slice Ai 2 ci] ∧ Upd No W w1):=hid ⟨_,_,rfl,rfl,Blk.fresh _ _ _,(Upd.refl _ _).alloc _⟩
 have HA:Hid (∀ W',Upd No W W' → W'.cell? adk = some (.string ⟨#[97]⟩) ∧ W'.cell? adi = some (.int .i64 0)):=hid fun W' hu => ⟨cell_keep ak hu (no_ _),cell_keep ai hu (no_ _)⟩
 subst hAk
 subst hAi
 have HNF:Hid (¬ F adk.block ∧ ¬ F adi.block ∧ ∀ k,F k → k < W.heap.size):=hid ⟨hfk _ rfl,hfi _ rfl,h.lt⟩
 have hcut':∀ W',(Instr.slice 40 (.slice (some adi) 2 ci) (some (.int .i64 1)) none none).run Tryz.prog W' = .ok (.slice ((some adi).map fun x => x.add (1 * 1)) 1 (ci - 1)) W':=hcut
 have HCut:=hid hcut'
 clear hcut hcut' h hk hi hdr hak hai ak ai hfk hfi
 go_enter Tryz.func141,Tryz.ntmps141
 go_wp2_with (fail)
 obtain ⟨w1,pb,hw1,hpb,hb1,hu1⟩:=HW.out
 rw [← hw1,← hpb]
 have HB1:=hid (And.intro hb1 hu1)
 have HNb:Hid (¬ F pb):=hid fun hf => by have:=HNF.out.2.2 _ hf; omega
 clear hw1 hpb hb1 hu1 HW
 have HS:Hid (∀ W',Upd No w1 W' → (W'.cell? ⟨pb,1,none⟩ = some (.slice (some adk) 1 ck) ∧ W'.cell? ⟨pb,2,none⟩ = some (.int .u64 1) ∧ W'.cell? ⟨pb,3,none⟩ = some (.int .u64 1) ∧ W'.cell? ⟨pb,4,none⟩ = some (.slice (some adi) 2 ci)) ∧ W'.cell? adk = some (.string ⟨#[97]⟩) ∧ W'.cell? adi = some (.int .i64 0)):=hid fun W' hu => by
  have hb:=HB1.out.1.upd hu (no_ _)
  exact ⟨⟨by simpa using hb.cell 1,by simpa using hb.cell 2,by simpa using hb.cell 3,by simpa using hb.cell 4⟩,HA.out W' (HB1.out.2.next hu)⟩
 have HOf:=hid (en_offer (HE.out w1.drew (HB1.out.2.drew)) (HIn.out w1.drew (HB1.out.2.drew)))
 refine wp_region_held_drew (S:=fun W' => (W'.cell? ⟨pb,1,none⟩ = some (.slice (some adk) 1 ck) ∧ W'.cell? ⟨pb,2,none⟩ = some (.int .u64 1) ∧ W'.cell? ⟨pb,3,none⟩ = some (.int .u64 1) ∧ W'.cell? ⟨pb,4,none⟩ = some (.slice (some adi) 2 ci)) ∧ W'.cell? adk = some (.string ⟨#[97]⟩) ∧ W'.cell? adi = some (.int .i64 0)) (by kernel_rfl) (HS.out _ ((Upd.refl _ _).drew)) (fun hS => ?_)
 refine zt 0 hS ?_
 refine zt 1 hS ?_
 refine zh 2 hS (fun w hw => hw.1.2.1) ?_
 refine zt 3 hS ?_
 refine zh 4 hS (fun w hw => hw.1.2.2.1) ?_
 refine zt 5 hS ?_
 refine zh 6 hS (fun w hw => hw.1.1) ?_
 refine zt 7 hS ?_
 refine zh 8 hS (fun w hw => hw.2.1) ?_
 refine zt 9 hS ?_
 refine zh 10 hS (fun w hw => hw.1.2.2.2) ?_
 refine zt 11 hS ?_
 refine zh 12 hS (fun w hw => hw.2.2) ?_
 refine zt 13 hS ?_
 refine zh 14 hS (fun w hw => hw.1.2.2.2) ?_
 refine zh 15 hS (fun w hw => HCut.out w) ?_
 refine zk 16 (fun K hK => ?_)
 go_simp
 refine Calls.mono HOf.out ?_
 rintro e9 w9 ⟨rfl,hk9⟩
 obtain ⟨F9,hen9,hm9⟩:=hk9
 have hS9:=HS.out w1.drew ((Upd.refl _ _).drew)
 have hb9:=(HB1.out.1.drew).upd hm9.upd HNb.out
 have hT9:(w9.cell? ⟨pb,1,none⟩ = some (.slice (some adk) 1 ck) ∧ w9.cell? ⟨pb,2,none⟩ = some (.int .u64 1) ∧ w9.cell? ⟨pb,3,none⟩ = some (.int .u64 1) ∧ w9.cell? ⟨pb,4,none⟩ = some (.slice (some adi) 2 ci)) ∧ w9.cell? adk = some (.string ⟨#[97]⟩) ∧ w9.cell? adi = some (.int .i64 0):=⟨⟨by simpa using hb9.cell 1,by simpa using hb9.cell 2,by simpa using hb9.cell 3,by simpa using hb9.cell 4⟩,cell_keep hS9.2.1 hm9.upd HNF.out.1,cell_keep hS9.2.2 hm9.upd HNF.out.2.1⟩
 have HF:Hid (Kept W F pe (em1 p) w9):=hid ⟨F9,hen9,((HB1.out.2.drew).mono fun _ _ h => h.elim).next hm9.upd,fun k hk => (hm9.sub k hk).imp id fun h => Nat.le_trans (HB1.out.2.drew).size h⟩
 clear hen9 hm9 hS9 hb9
 go_wp2_with (fail)
 refine hK.out _ _ (hT9) (fun hS => ?_)
 clear hK K
 try simp only [Act.put,zA,zB,zC]
 refine zt 17 hS ?_
 refine zt 18 hS ?_
 refine zt 19 hS ?_
 refine zt 20 hS ?_
 refine zt 21 hS ?_
 refine wpAnyH_done (by kernel_rfl) ?_ _
 clear hT9 hS
 go_wp2
 go_ret2
 exact ⟨rfl,HF.out⟩
end Eg
end
section
namespace Eg
open Go.RowKit Go.Proofs B Cm Cr Ou Lt Lc
theorem Kept.from {w w1 w':World} {F:Nat → Prop} {pe:Nat} {m:Em} (hu:Upd No w w1) (h:Kept w1 F pe m w'):Kept w F pe m w':=by
 obtain ⟨F',h1,h2⟩:=h
 exact ⟨F',h1,(hu.mono fun _ _ h => h.elim).next h2.upd,fun k hk => (h2.sub k hk).imp id fun h9 => Nat.le_trans hu.size h9⟩
set_option maxRecDepth 100000 in
theorem do_ {W:World} {F:Nat → Prop} {pe p:Nat} (h:En W F pe (em0 p 200 2)) {mx:Int} (hm:W.cell? ⟨0,0,none⟩ = some (.int .i64 mx)) :
 Calls Tryz.prog 71 #[.pointer (some ⟨pe,0,none⟩),.string ⟨#[111,102,102,101,114,32,49,32,49,32,54,49,32,48,32,53]⟩] W fun e w' => TaOut W F pe p (.string ⟨#[116,97,107,101,110]⟩) e w':=by
 have HP:=hid (Sh.parse W hm)
 have HE:=hid h
 clear h hm
 go_enter Tryz.func71,Tryz.ntmps71
 go_wp2_with (fail)
 refine Calls.mono HP.out ?_
 rintro e w1 ⟨Ak,ck,Ai,ci,rfl,hk,hi,hu1,hfk,hfi⟩
 have HW:Hid (∃ w2,w2 = w1.alloc (.cells #[.string ⟨#[111,102,102,101,114]⟩,.slice Ak 1 ck,.int .u64 1,.int .u64 1,.slice Ai 2 ci] 279) ∧ Upd No W w2 ∧ Calls Tryz.prog 141 #[.pointer (some ⟨pe,0,none⟩),.agg #[.string ⟨#[111,102,102,101,114]⟩,.slice Ak 1 ck,.int .u64 1,.int .u64 1,.slice Ai 2 ci]] w2 fun e w' => TaOut w2 F pe p (.tuple #[.string ⟨#[116,97,107,101,110]⟩,.int .i64 0]) e w'):=hid (by
  have hl:=HE.out.lt
  have hu2:Upd No w1 (w1.alloc (.cells #[.string ⟨#[111,102,102,101,114]⟩,.slice Ak 1 ck,.int .u64 1,.int .u64 1,.slice Ai 2 ci] 279)):=(Upd.refl _ _).alloc _
  exact ⟨_,rfl,hu1.next hu2,answer (HE.out.quiet (hu1.next hu2)) (hk.upd hu2 fun _ _ => no_ _) (hi.upd hu2 fun _ _ => no_ _) (fun k hk hf => by have:=hfk k hk; have:=hl k hf; omega) (fun k hk hf => by have:=hfi k hk; have:=hl k hf; omega)⟩)
 clear hk hi hu1 hfk hfi HP
 go_wp2_with (fail)
 obtain ⟨w2,hw2,hu2,han⟩:=HW.out
 rw [← hw2]
 have HU:=hid hu2
 clear hw2 hu2 HW
 refine Calls.mono han ?_
 rintro e w3 ⟨rfl,hk3⟩
 have HK:=hid (Kept.from HU.out hk3)
 clear hk3 han
 go_wp2
 go_ret
 exact ⟨rfl,HK.out⟩
def put3 (w:World) (p:Nat) (v0 v1 v2:Value):World:=((w.setCell ⟨p,0,none⟩ v0).setCell ⟨p,1,none⟩ v1).setCell ⟨p,2,none⟩ v2
theorem put3_blk {w:World} {p:Nat} {t:TypeId} {a0 a1 a2:Value} (h:Blk w p t #[a0,a1,a2]) (v0 v1 v2:Value):Blk (put3 w p v0 v1 v2) p t #[v0,v1,v2]:=by
 have:=((h.put 0 v0).put 1 v1).put 2 v2
 simpa [put3] using this
theorem put3_upd (w:World) (p:Nat) (v0 v1 v2:Value):Upd (fun k => k = p) w (put3 w p v0 v1 v2):=((Upd.set1 (Upd.refl _ _) _ _).set1 _ _).set1 _ _
structure Wg (w W:World) (F:Nat → Prop) (q pe p pt pl:Nat) (m:Em) (v:Value):Prop where
 wl:Wl w W F q pe p m
 bt:Blk W pt 87 #[v,.int .i64 0,.bool false]
 bl:Blk W pl 90 #[.string ⟨#[111,102,102,101,114,32,49,32,49,32,54,49,32,48,32,53]⟩]
 nf:¬ F pt ∧ ¬ F pl ∧ pt ≠ q ∧ pl ≠ q ∧ pl ≠ pt ∧ w.heap.size ≤ pt
section
variable {w W W':World} {F F':Nat → Prop} {q pe p pt pl:Nat} {m m':Em} {v:Value}
theorem Wl.quiet (h:Wl w W F q pe p m) (hu:Upd No W W'):Wl w W' F q pe p m:=⟨h.blk.upd hu (no_ _),h.en.quiet hu,h.own,h.upd.next hu⟩
theorem Wg.quiet (h:Wg w W F q pe p pt pl m v) (hu:Upd No W W'):Wg w W' F q pe p pt pl m v:=⟨h.wl.quiet hu,h.bt.upd hu (no_ _),h.bl.upd hu (no_ _),h.nf⟩
theorem Wg.cells (h:Wg w W F q pe p pt pl m v):W.cell? ⟨q,1,none⟩ = some (.pointer (some ⟨pe,0,none⟩)) ∧ W.cell? ⟨pl,0,none⟩ = some (.string ⟨#[111,102,102,101,114,32,49,32,49,32,54,49,32,48,32,53]⟩):=
 ⟨by simpa using h.wl.blk.cell 1,by simpa using h.bl.cell 0⟩
theorem Wg.kept (h:Wg w W F q pe p pt pl m v) (hk:Kept W F pe m' W'):∃ F',Wg w W' F' q pe p pt pl m' v:=by
 obtain ⟨F',hen,hm⟩:=hk
 have l1:=h.wl.blk.lt
 have l2:=h.bt.lt
 have l3:=h.bl.lt
 have nf:∀ k,¬ F k → k < W.heap.size → ¬ F' k:=fun k h1 h2 hf => (hm.sub k hf).elim h1 fun h9 => by omega
 have hs:=h.wl.upd.size
 exact ⟨F',⟨h.wl.blk.upd hm.upd h.wl.own.1,hen,⟨nf _ h.wl.own.1 l1,h.wl.own.2.1,fun k hk => (hm.sub k hk).elim (h.wl.own.2.2 k) fun h9 => by omega⟩,h.wl.upd.trans hm.upd fun i hi hf => by have:=h.wl.own.2.2 i hf; omega⟩,h.bt.upd hm.upd h.nf.1,h.bl.upd hm.upd h.nf.2.1,⟨nf _ h.nf.1 l2,nf _ h.nf.2.1 l3,h.nf.2.2⟩⟩
theorem Wg.put (h:Wg w W F q pe p pt pl m v) (u:Value):Wg w (W.setCell ⟨pt,0,none⟩ u) F q pe p pt pl m u:=by
 have hu:Upd (fun k => k = pt) W (W.setCell ⟨pt,0,none⟩ u):=Upd.set1 (g:=pt) (Upd.refl _ _) 0 u
 exact ⟨⟨h.wl.blk.upd hu (fun e => h.nf.2.2.1 e.symm),h.wl.en.upd hu fun k hk e => h.nf.1 (e ▸ hk),h.wl.own,h.wl.upd.trans hu fun i hi e => by have:=h.nf.2.2.2.2.2; omega⟩,h.bt.put 0 u,h.bl.upd hu h.nf.2.2.2.2.1,h.nf⟩
end
theorem as_line (v:Value) (w:World):(Instr.typeAssert (.iface 90 v) 170 90 true).run Tryz.prog w = .ok (.tuple #[v,.bool true]) w:=by kernel_rfl
set_option maxRecDepth 100000 in
theorem wdo_ {w W:World} {F:Nat → Prop} {q pe p:Nat} (h:Wl w W F q pe p (em0 p 200 2)) {mx:Int} (hm:w.cell? ⟨0,0,none⟩ = some (.int .i64 mx)) :
 Calls Tryz.prog 24 #[.pointer (some ⟨q,0,none⟩),.iface 90 (.agg #[.string ⟨#[111,102,102,101,114,32,49,32,49,32,54,49,32,48,32,53]⟩])] W fun e w' => e = .returned (.agg #[.string ⟨#[116,97,107,101,110]⟩,.int .i64 0,.bool false]) ∧ Upd No w w':=by
 have HW:Hid (∃ w1 w2 pt pl,w1 = W.alloc (.cells #[.string ⟨#[]⟩,.int .i64 0,.bool false] 87) ∧ pt = W.heap.size ∧ w2 = w1.alloc (.cells #[.string ⟨#[111,102,102,101,114,32,49,32,49,32,54,49,32,48,32,53]⟩] 90) ∧ pl = W.heap.size + 1 ∧ Wg w w2 F q pe p pt pl (em0 p 200 2) (.string ⟨#[]⟩)):=hid (by
  have hl:=h.en.lt
  have hq:=h.blk.lt
  have s1:(W.alloc (.cells #[.string ⟨#[]⟩,.int .i64 0,.bool false] 87)).heap.size = W.heap.size + 1:=by simp
  have hb:=Blk.fresh (W.alloc (.cells #[.string ⟨#[]⟩,.int .i64 0,.bool false] 87)) 90 #[.string ⟨#[111,102,102,101,114,32,49,32,49,32,54,49,32,48,32,53]⟩]
  rw [s1] at hb
  exact ⟨_,_,_,_,rfl,rfl,rfl,rfl,h.quiet (((Upd.refl _ _).alloc _).alloc _),(Blk.fresh _ _ _).alloc _,hb,⟨fun hf => by have:=hl _ hf; omega,fun hf => by have:=hl _ hf; omega,by omega,by omega,by omega,h.upd.size⟩⟩)
 have HM:Hid (∀ W',Upd No w W' → W'.cell? ⟨0,0,none⟩ = some (.int .i64 mx)):=hid fun W' hu => cell_keep hm hu (no_ _)
 have hta:=as_line
 clear h hm
 go_enter Tryz.func24,Tryz.ntmps24
 go_wp2_with (fail)
 obtain ⟨w1,w2,pt,pl,hw1,hpt,hw2,hpl,hg⟩:=HW.out
 rw [← hw1,← hw2]
 rw [← hpl,← hpt]
 have HG:=hid hg
 clear hw1 hw2 hpt hpl hg HW hta
 have HDo:=hid (do_ (HG.out.quiet ((Upd.refl _ _).drew)).wl.en (HM.out _ (HG.out.wl.upd.drew)))
 have hGd:=(HG.out.quiet ((Upd.refl _ _).drew))
 refine wp_region_held_drew (S:=fun W' => W'.cell? ⟨q,1,none⟩ = some (.pointer (some ⟨pe,0,none⟩)) ∧ W'.cell? ⟨pl,0,none⟩ = some (.string ⟨#[111,102,102,101,114,32,49,32,49,32,54,49,32,48,32,53]⟩)) (by kernel_rfl) hGd.cells (fun hS => ?_)
 refine zt 0 hS ?_
 refine zt 1 hS ?_
 refine zt 2 hS ?_
 refine zh 3 hS (fun w hw => hw.1) ?_
 refine zt 4 hS ?_
 refine zh 5 hS (fun w hw => hw.2) ?_
 refine zk 6 (fun K hK => ?_)
 go_simp
 refine Calls.mono HDo.out ?_
 rintro e3 w3 ⟨rfl,hk3⟩
 obtain ⟨F3,hg3⟩:=hGd.kept hk3
 have HG3:=hid hg3
 have f0:=hg3.bt.free 0
 have o0:w3.cell? ⟨pt,0,none⟩ = some (.string ⟨#[]⟩):=by simpa using hg3.bt.cell 0
 have hS3:=hg3.cells
 clear hk3 hg3
 go_wp2_with (fail)
 refine hK.out _ _ (hS3) (fun hS => ?_)
 clear hK K
 try simp only [Act.put,zA,zB,zC]
 refine zt 7 hS ?_
 refine zk 8 (fun K hK => ?_)
 go_simp
 refine hK.out _ _ ((by exact (HG3.out.put _).cells)) (fun hS => ?_)
 clear hK K
 try simp only [Act.put,zA,zB,zC]
 refine rg_world fun W10 hW10 => ?_
 have HG10:=hid (show Wg w W10 F3 q pe p pt pl (em1 p) (.string ⟨#[116,97,107,101,110]⟩) by rw [hW10]; exact HG3.out.put _)
 clear hW10 f0 o0 hS3 HG3
 refine wpAnyH_done (by kernel_rfl) ?_ _
 clear hS hGd HDo HG
 have k0:W10.cell? ⟨q,0,none⟩ = some (.pointer (some ⟨p,0,none⟩)):=by simpa using HG10.out.wl.blk.cell 0
 have HDn:=hid (en_down (p:=p) HG10.out.wl.en rfl)
 go_wp2_with (fail)
 refine Calls.mono HDn.out ?_
 rintro e11 w11 ⟨rfl,rfl⟩
 have t0:W10.cell? ⟨pt,0,none⟩ = some (.string ⟨#[116,97,107,101,110]⟩):=by simpa using HG10.out.bt.cell 0
 have t1:W10.cell? ⟨pt,1,none⟩ = some (.int .i64 0):=by simpa using HG10.out.bt.cell 1
 have t2:W10.cell? ⟨pt,2,none⟩ = some (.bool false):=by simpa using HG10.out.bt.cell 2
 have f0:=HG10.out.bt.free 0
 have f1:=HG10.out.bt.free 1
 have f2:=HG10.out.bt.free 2
 go_wp2
 have hq:=put3_blk HG10.out.bt (.string ⟨#[116,97,107,101,110]⟩) (.int .i64 0) (.bool false)
 have hp3:=put3_upd W10 pt (.string ⟨#[116,97,107,101,110]⟩) (.int .i64 0) (.bool false)
 have q0:=hq.cell 0
 have q1:=hq.cell 1
 have q2:=hq.cell 2
 simp only [List.getElem?_toArray,List.getElem?_cons_zero,List.getElem?_cons_succ] at q0 q1 q2
 unfold put3 at q0 q1 q2 hp3
 refine bodyPost_ret (v:=.agg #[.string ⟨#[116,97,107,101,110]⟩,.int .i64 0,.bool false]) (by simp [results,go_sem,q0,q1,q2]) rfl ⟨rfl,?_⟩
 exact HG10.out.wl.upd.trans hp3 fun i hi e => by have:=HG10.out.nf.2.2.2.2.2; omega
theorem fld_told (w:World):(Instr.field 87 (.agg #[.string ⟨#[116,97,107,101,110]⟩,.int .i64 0,.bool false]) 0).run Tryz.prog w = .ok (.string ⟨#[116,97,107,101,110]⟩) w:=by kernel_rfl
set_option maxRecDepth 100000 in
theorem awake {w:World} {mx:Int} (hm:w.cell? ⟨0,0,none⟩ = some (.int .i64 mx)):Calls Tryz.prog 5 #[] w fun e w' => e = .returned (.bool true) ∧ Upd No w w':=by
 have HN:=hid (wnew_ w)
 have HM:=hid hm
 have hfl:=fld_told
 clear hm
 go_enter Tryz.func5,Tryz.ntmps5
 go_wp2_with (fail)
 refine Calls.mono HN.out ?_
 rintro e w1 ⟨q,pe,p,F,rfl,hwl⟩
 have HD:=hid (wdo_ hwl HM.out)
 clear hwl HN
 go_wp2_with (fail)
 refine Calls.mono HD.out ?_
 rintro e w2 ⟨rfl,hu2⟩
 have HU:=hid hu2
 clear hu2 HD
 go_wp2
 go_ret
 exact ⟨rfl,HU.out⟩
end Eg
end
