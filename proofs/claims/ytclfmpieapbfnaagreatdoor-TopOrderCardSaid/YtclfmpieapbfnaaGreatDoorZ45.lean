/- Part 45: lemmas, no conditions. -/
import Derived.Test.YtclfmpieapbfnaaGreatDoorZ44
import Derived.Test.YtclfmpieapbfnaaGreatDoorZ31
set_option maxHeartbeats 8000000
namespace Go.Proofs.YtclfmpieapbfnaaGreatDoor
set_option linter.unusedVariables false
set_option linter.unusedSimpArgs false
section
namespace Eg
open Go.RowKit B Cm Cr Ou
open Ac (Am fresh fresh_ok encA encA_le encA_byte freshB)
open Bo (Bp Bm Cg bst La Vb Cl ccells bare encL sizeC)
open Nd (Rm Inv)
def AcOut (w:World) (F:Nat → Prop) (p:Nat) (m:Em) (k:ByteArray) (e:Ending) (w':World):Prop:=∃ q G F',e = .returned (.tuple #[.pointer (some ⟨q,0,none⟩),.int .i64 0]) ∧ Ac.At w' G q (m.act k) ∧ (∀ k,G k → ¬ F' k ∧ w.heap.size ≤ k) ∧ En w' F' p (m.loaded k) ∧ Mv F F' w w'
theorem AcOut.of {w:World} {F:Nat → Prop} {p:Nat} {m:Em} {k:ByteArray} {e:Ending} {w':World} (h:∃ q G F',e = .returned (.tuple #[.pointer (some ⟨q,0,none⟩),.int .i64 0]) ∧ Ac.At w' G q (m.act k) ∧ (∀ k,G k → ¬ F' k ∧ w.heap.size ≤ k) ∧ En w' F' p (m.loaded k) ∧ Mv F F' w w'):AcOut w F p m k e w':=h
set_option maxRecDepth 100000 in
theorem actor_ {w:World} {F:Nat → Prop} {p:Nat} {m:Em} (h:En w F p m) (htd:m.tidy) {k:ByteArray} (hk:Kk k) (hn:m.n < 400000) :
 Calls Tryz.prog 12 #[.pointer (some ⟨p,0,none⟩),.string k] w fun e w' => AcOut w F p m k e w':=by
 have HK:=hid (fun W => Nd.key_ k W)
 have hkb:=kk_key hk
 have HL:=hid (load_ h htd hk hn)
 have HO:=hid (h.ok.act hk)
 clear h htd
 go_enter Tryz.func12,Tryz.ntmps12
 rw [hkb] at HK
 go_wp2_with (fail)
 refine Calls.mono (HK.out _) ?_
 rintro e w1 ⟨rfl,rfl⟩
 go_wp2_with (fail)
 refine Calls.mono HL.out ?_
 rintro e w1 ⟨q,G,F1,rfl,hat,hen,hm⟩
 have HC:=hid (Ac.copied hat HO.out (by unfold BB; omega))
 have HX:=hid (And.intro hen hm)
 clear hat hen hm HL
 go_wp2_with (fail)
 refine Calls.mono HC.out ?_
 rintro e w2 ⟨q2,G2,rfl,hat2,hf2,hu2⟩
 have HY:=hid (And.intro hat2 (And.intro hf2 hu2))
 clear hat2 hf2 hu2 HC
 go_wp2
 go_ret2
 obtain ⟨hat2,hf2,hu2⟩:=HY.out
 obtain ⟨hen,hm⟩:=HX.out
 have s1:=hm.upd.size
 exact .of ⟨q2,G2,F1,rfl,hat2,fun g hg => ⟨fun hf => by have:=hf2 g hg; have:=hen.lt g hf; omega,Nat.le_trans s1 (hf2 g hg)⟩,hen.quiet hu2,⟨hm.upd.trans hu2 fun _ _ h => h.elim,hm.sub⟩⟩
theorem star1 {w:World} {o:Ob} {G:Nat → Prop} (h:o.is w G):Star [o] w G:=⟨G,No,h,fun _ h => h.elim,fun _ _ h => h,fun _ h => h,fun _ h => h.elim,o.lt h⟩
end Eg
end
section
namespace Eg
open Go.RowKit B Cm Cr Cw Ou
open Ac (Am fresh fresh_ok encA encA_le encA_byte freshB)
open Bo (Bp Bm Cg bst La Vb Cl ccells bare encL sizeC Gd)
open Nd (Rm Inv Wo)
def kc:ByteArray:=⟨#[99]⟩
def Em.one (m:Em) (y:Y) (c:Int):Em:={ m with bk:=comB m.bk [y],n:=m.n + 100,clock:=c }
theorem one_ok {m:Em} (h:m.ok) {y:Y} (c:Int) (hb:Byte y.2.1) (hy:∀ k,Kk k → akey k ≠ y.1) (hs:sizeC [y] ≤ 40000) (hroom:Gp.nbl (encL [y]) ≤ m.bk.lg.count - m.bk.lg.used) (hn:m.n + 200 ≤ 400000):(m.one y c).ok:=by
 have hp:=h.pnd
 have hnb:=nbl_small hs (by simp)
 refine ⟨comB_ok h.bok (by simp) (fun z hz => by rw [List.mem_singleton.1 hz]; exact hb) hs (by simp) hroom (by omega) (by omega),by show m.n + 100 ≤ 400000; omega,h.rm,h.tl,fun k hk => ?_,h.own,h.inv,h.zer,⟨?_,?_⟩,h.wok⟩
 · show (Bo.lays m.bk.tab [y] (akey k) = some (encA (m.act k)) ∧ (m.act k).ok BB) ∨ Bo.lays m.bk.tab [y] (akey k) = none ∧ m.act k = fresh k
   rw [lays_out _ _ fun z hz => by rw [List.mem_singleton.1 hz]; exact Ne.symm (hy k hk)]
   exact h.tie k hk
 · show m.bk.pend + 1 ≤ m.n + 100
   omega
 · show (Gl.wrs m.bk.d _ _ _).log.length ≤ 2 * (m.n + 100)
   rw [wrs_len]
   omega
theorem cl_one {w W W1:World} {k:ByteArray} {A:Option Addr} {c:Nat} {l:List Int} {b:Bool} (hv:Vb W (fun k => w.heap.size ≤ k) (.slice A l.length c) l) (hW:W1 = W.alloc (.cells #[.string k,.slice A l.length c,.bool b] 128)) (hs:w.heap.size ≤ W.heap.size) :
 Cl W1 (fun k => w.heap.size ≤ k ∧ k < W1.heap.size) (.slice (some ⟨W.heap.size,0,none⟩) 1 1) [(k,l,b,.slice A l.length c)]:=by
 subst hW
 refine ⟨_,1,rfl,Nat.le_refl _,by simp [maxLen],Rd_lit W 128 3 1 _ rfl,fun _ ad e => ?_,fun x hx => ?_⟩
 · injection e with e
   subst e
   exact ⟨hs,by simp⟩
 · rw [List.mem_singleton.1 hx]
   have:=(hv.quiet ((Upd.refl No W).alloc (.cells #[.string k,.slice A l.length c,.bool b] 128))).tight
   exact this
def chK (c:Int):Y:=(kc,num (zz c),false)
def TkOut (w:World) (F:Nat → Prop) (p:Nat) (m:Em) (c:Int) (e:Ending) (w':World):Prop:=e = .returned (.tuple #[.int .i64 c,.int .i64 0]) ∧ Kept w F p (m.one (chK c) c) w'
theorem TkOut.of {w:World} {F:Nat → Prop} {p:Nat} {m:Em} {c:Int} {e:Ending} {w':World} (h:e = .returned (.tuple #[.int .i64 c,.int .i64 0]) ∧ Kept w F p (m.one (chK c) c) w'):TkOut w F p m c e w':=h
theorem keep0 {W W':World} {F:Nat → Prop} {p:Nat} {e:Ep} {m:Em} (hs:Star (est p e m) W F) (hu:Upd No W W'):W'.cell? ⟨p,0,none⟩ = some (.pointer (some ⟨e.b.q,0,none⟩)):=by
 obtain ⟨B,hb,_⟩:=Star.own (hs.quiet hu) 0 rfl
 exact (ecells hb.1).1.1
end Eg
end
section
namespace Eg
open Go.RowKit B Cm Cr Ou Lt Lc
open Ac (Am fresh fresh_ok encA encA_le encA_byte freshB)
open Bo (Bp Bm Cg bst La Vb Cl ccells bare encL sizeC)
open Nd (Rm Inv)
section
variable {w W W':World} {F Q:Nat → Prop} {p q pz pu:Nat} {m:Em} {l:List Rm}
end
theorem sx_b {W W8:World} {t:TypeId} {cs:Array Value} (h:W8 = W.alloc (.cells cs t)):Blk W8 W.heap.size t cs:=by rw [h]; exact Blk.fresh _ _ _
theorem sx_row {W W':World} {g:Nat} {t:TypeId} {cs cs':Array Value} (h:Blk W g t cs) (hW:W' = W.setRow g cs'):Blk W' g t cs':=by rw [hW]; exact Nd.Blk.row h cs'
theorem actN_one (act:ByteArray → Am) (p p':Nat) (a:Am):actN act [(p,a)] = actN act [(p',a)]:=by
 funext s
 by_cases h:a.out.own = s <;> simp [actN,h]
theorem commit_onew (m:Em) (p p' q q':Nat) (a:Am) (l:Wp.St):m.commit [(p,a)] none (some (q,l)) = m.commit [(p',a)] none (some (q',l)):=by
 unfold Em.commit
 rw [actN_one m.act p p' a]
 rfl
structure Sy (w W:World) (F F5 V:Nat → Prop) (p:Nat) (m:Em) (L:List Ob):Prop where
 en:En W F5 p m
 st:Star L W V
 vf:∀ k,V k → ¬ F5 k ∧ w.heap.size ≤ k
 sub:∀ k,F5 k → F k ∨ w.heap.size ≤ k
 upd:Upd F w W
section
variable {w W W':World} {F F5 V:Nat → Prop} {p:Nat} {m m':Em} {L:List Ob} {pa q pz pu p6:Nat} {a:Am} {l:List Rm} {cu:Array Value} {r:Rm}
theorem Sy.quiet (h:Sy w W F F5 V p m L) (hu:Upd No W W'):Sy w W' F F5 V p m L:=⟨h.en.quiet hu,h.st.quiet hu,h.vf,h.sub,h.upd.trans hu fun _ _ h => h.elim⟩
theorem Sy.kept (h:Sy w W F F5 V p m L) (hk:Kept W F5 p m' W'):∃ F6,Sy w W' F F6 V p m' L:=by
 obtain ⟨F6,h1,h2⟩:=hk
 have hs:=h.upd.size
 refine ⟨F6,h1,h.st.keep h2.upd fun k hk hf => (h.vf k hk).1 hf,fun k hk => ⟨fun hf => (h2.sub k hf).elim (h.vf k hk).1 fun h9 => by have:=h.st.lt k hk; omega,(h.vf k hk).2⟩,fun k hk => (h2.sub k hk).elim (h.sub k) fun h9 => .inr (by omega),h.upd.trans h2.upd fun i hi hf => (h.sub i hf).elim id fun h9 => by omega⟩
theorem sy_push {T:List Ob} (h:Sy w W F F5 V p m (acO (pa,a) :: T)):∃ pi,W.cell? ⟨pa,1,none⟩ = some (.pointer (some ⟨pi,0,none⟩)) ∧ ∀ W8,Upd No W W8 → W8.cell? ⟨pa,1,none⟩ = some (.pointer (some ⟨pi,0,none⟩)) ∧ ∀ x u,In W8 x u →
 Calls Tryz.prog 51 #[.pointer (some ⟨pi,0,none⟩),val x u] W8 fun e w' => e = .returned (.int .i64 (Ib.pushL a.inb x).1) ∧ w'.cell? ⟨pa,1,none⟩ = some (.pointer (some ⟨pi,0,none⟩)) ∧ ∃ V',Sy w w' F F5 V' p m (acO (pa,{ a with inb:=(Ib.pushL a.inb x).2 }) :: T):=by
 obtain ⟨A,⟨pj,pi,po,n,v,haw⟩,hAV,hput⟩:=h.st.at_ 0 (o:=acO (pa,a)) rfl
 refine ⟨pi,haw.cells.2.1,fun W8 hu => ⟨(haw.quiet hu).cells.2.1,fun x u hx => ?_⟩⟩
 obtain ⟨B,hib,hBA,hput2⟩:=(haw.quiet hu).st.at_ 2 (o:=Ac.ibO pi a.inb) rfl
 refine (Ib.push pi a.inb B x u W8 hib hx).mono ?_
 rintro e w' ⟨rfl,B',hib',hm'⟩
 obtain ⟨A',hst',hm2⟩:=hput2 w' B' (Ac.ibO pi (Ib.pushL a.inb x).2) hm' hib'
 have hm3:Mv A A' W w':=⟨(hu.mono fun _ _ h => h.elim).next hm2.upd,fun k hk => (hm2.sub k hk).imp id fun h9 => Nat.le_trans hu.size h9⟩
 obtain ⟨V',hst3,hm4⟩:=hput w' A' (acO (pa,{ a with inb:=(Ib.pushL a.inb x).2 })) hm3 ⟨pj,pi,po,n,v,hst',haw.few⟩
 have hs:=h.upd.size
 have hl:=h.en.lt
 have haw':Ac.Aw w' A' pa { a with inb:=(Ib.pushL a.inb x).2 } pj pi po n v:=⟨hst',haw.few⟩
 exact ⟨rfl,haw'.cells.2.1,V',h.en.upd hm3.upd fun k hk hA => (h.vf k (hAV k hA)).1 hk,hst3,fun k hk => (hm4.sub k hk).elim (h.vf k) fun h9 => ⟨fun hf => by have:=hl k hf; omega,by omega⟩,h.sub,h.upd.trans hm3.upd fun i hi hA => by have:=(h.vf i (hAV i hA)).2; omega⟩
end
end Eg
end
section
namespace Pr
open Go.RowKit B Cm Cr Cw Ou Lt
abbrev Ins:=Nat × Int
def ics (i:Ins):List Value:=[.int .i64 i.1,.int .i64 i.2]
def icells (l:List Ins):List Value:=l.flatMap ics
def kd (op:Nat):Int:=if op = 1 then 1 else if op = 3 then 2 else if op = 4 then 3 else if op = 15 ∨ op = 16 then 4 else if op = 17 then 5 else 0
def Opk (op:Nat):Prop:=op = 1 ∨ op = 3 ∨ op = 4 ∨ op = 5 ∨ op = 15 ∨ op = 16 ∨ op = 17 ∨ op = 23
def tbl:Array Value:=#[.string ⟨#[104,97,108,116]⟩,.int .i64 0,.string ⟨#[112,117,115,104]⟩,.int .i64 1,.string ⟨#[108,111,97,100]⟩,.int .i64 2,.string ⟨#[115,116,111,114,101]⟩,.int .i64 2,.string ⟨#[97,114,103]⟩,.int .i64 3,.string ⟨#[107,105,110,100]⟩,.int .i64 0,.string ⟨#[97,100,100]⟩,.int .i64 0,.string ⟨#[115,117,98]⟩,.int .i64 0,.string ⟨#[109,117,108]⟩,.int .i64 0,.string ⟨#[108,101,115,115]⟩,.int .i64 0,.string ⟨#[101,113,117,97,108]⟩,.int .i64 0,.string ⟨#[110,111,116]⟩,.int .i64 0,.string ⟨#[100,117,112]⟩,.int .i64 0,.string ⟨#[100,114,111,112]⟩,.int .i64 0,.string ⟨#[115,119,97,112]⟩,.int .i64 0,.string ⟨#[106,117,109,112]⟩,.int .i64 4,.string ⟨#[106,117,109,112,122]⟩,.int .i64 4,.string ⟨#[115,101,110,100]⟩,.int .i64 5,.string ⟨#[114,101,112,108,121]⟩,.int .i64 0,.string ⟨#[114,101,109,105,110,100]⟩,.int .i64 5,.string ⟨#[99,97,110,99,101,108]⟩,.int .i64 5,.string ⟨#[102,97,105,108]⟩,.int .i64 0,.string ⟨#[110,111,119]⟩,.int .i64 0,.string ⟨#[115,101,114,105,97,108]⟩,.int .i64 0]
theorem wpList_built {P:Program} {ops:Array Oper} {rest:List Oper} {o:Oper} {a:Act} {w:World} {Q:Exit → Act → World → Prop} (hg:o.guard = none) (t:TypeId) (parts:Array (Nat × Operand)) (ho:o.op = .build t parts) (cells:Array Value)
 (hb:P.built t (parts.map fun (i,x) => (i,a.eval x)).toList = some cells) (h:wpList P ops Q rest (a.put o.dst (.agg cells)) w):wpList P ops Q (o :: rest) a w:=by
 refine wpList_build hg t parts ho (by rw [hb]; rfl) ?_
 rw [hb]
 exact h
theorem tbl_at (T:Array Value) (h:T = tbl):T.size = 48 ∧ T.all (·.oneCell') = true:=by
 subst h
 exact ⟨by kernel_rfl,by kernel_rfl⟩
set_option maxRecDepth 100000 in
theorem op_at (op:Nat) (s:ByteArray) (k:Int) (hop:op < 24) (h0:tbl[2 * op]? = some (.string s)) (h1:tbl[2 * op + 1]? = some (.int .i64 k)) (w:World) :
 Calls Tryz.prog 161 #[.int .i64 op] w fun e w' => ∃ s,e = .returned (.tuple #[.string s,.int .i64 k,.bool true]) ∧ Upd No w w':=by
 obtain ⟨T,hT⟩:∃ T,T = tbl:=⟨_,rfl⟩
 rw [← hT] at h0 h1
 obtain ⟨hs,ha⟩:=tbl_at T hT
 have HT:=hid hT
 have HS:=hid hs
 have HA:=hid ha
 have H0:=hid h0
 have H1:=hid h1
 have hp0:(0:Int) ≤ (op:Int):=by omega
 have hp1:(op:Int) < 24:=by omega
 clear hT hs ha h0 h1
 go_enter Tryz.func161,Tryz.ntmps161
 go_wp2_with (first | (refine wpList_built rfl 378 _ rfl T (by rw [HT.out]; kernel_rfl) ?_) | (refine wpList_store_row rfl 378 (.tmp 5) (.tmp 30) rfl w.heap.size T rfl rfl 378 _ (Blk.fresh _ _ _) (by rw [HS.out]; kernel_rfl) (by rw [HS.out]; rfl) HA.out ?_))
 generalize hz:(Obj.cells _ 378) = oz
 obtain ⟨zs,hzs⟩:∃ zs,oz = .cells zs 378:=⟨_,hz.symm⟩
 clear hz
 subst hzs
 obtain ⟨W,g,hW,hg⟩:∃ W g,W = (w.alloc (.cells zs 378)).setRow w.heap.size T ∧ g = w.heap.size:=⟨_,_,rfl,rfl⟩
 have hu:Upd No w W:=by
  rw [hW]
  exact ⟨rfl,rfl,rfl,by simp,fun k hk _ => by rw [setRow_other _ _ _ _ (by omega)]; exact ((Upd.refl No w).alloc _).block k hk (no_ _)⟩
 have hB:Blk W g 378 T:=by
  rw [hW,hg]
  exact setRow_heap _ _ _ _ _ _ (Blk.fresh w 378 zs)
 have hc0:=hB.cell (2 * op)
 have hc1:=hB.cell (2 * op + 1)
 rw [H0.out] at hc0
 rw [H1.out] at hc1
 rw [← hW,← hg]
 clear hW hg hB
 have HU:=hid hu
 clear hu HT HS HA H0 H1
 rw [show 2 * op = op * 2 from by omega] at hc0 hc1
 go_region
 all_goals
  go_wp2
  go_ret3
  exact ⟨_,rfl,HU.out.drew⟩
theorem oper_ (op:Nat) (h:Opk op) (w:World):Calls Tryz.prog 161 #[.int .i64 op] w fun e w' => ∃ s,e = .returned (.tuple #[.string s,.int .i64 (kd op),.bool true]) ∧ Upd No w w':=by
 rcases h with rfl | rfl | rfl | rfl | rfl | rfl | rfl | rfl
 · exact op_at 1 ⟨#[112,117,115,104]⟩ 1 (by omega) (by kernel_rfl) (by kernel_rfl) w
 · exact op_at 3 ⟨#[115,116,111,114,101]⟩ 2 (by omega) (by kernel_rfl) (by kernel_rfl) w
 · exact op_at 4 ⟨#[97,114,103]⟩ 3 (by omega) (by kernel_rfl) (by kernel_rfl) w
 · exact op_at 5 ⟨#[107,105,110,100]⟩ 0 (by omega) (by kernel_rfl) (by kernel_rfl) w
 · exact op_at 15 ⟨#[106,117,109,112]⟩ 4 (by omega) (by kernel_rfl) (by kernel_rfl) w
 · exact op_at 16 ⟨#[106,117,109,112,122]⟩ 4 (by omega) (by kernel_rfl) (by kernel_rfl) w
 · exact op_at 17 ⟨#[115,101,110,100]⟩ 5 (by omega) (by kernel_rfl) (by kernel_rfl) w
 · exact op_at 23 ⟨#[115,101,114,105,97,108]⟩ 0 (by omega) (by kernel_rfl) (by kernel_rfl) w
structure Pg (w:World) (u v:Value) (ns:List ByteArray) (cs:List Ins):Prop where
 ex:∃ A a B b,u = .slice A ns.length a ∧ v = .slice B cs.length b ∧ Rd w 1 A ns.length (At.strs ns) ∧ Rd w 2 B cs.length (icells cs) ∧ (ns.length ≤ a ∧ a ≤ maxLen) ∧ cs.length ≤ b ∧ b ≤ maxLen
theorem Pg.upd {w w':World} {G:Nat → Prop} {u v:Value} {ns:List ByteArray} {cs:List Ins} (h:Pg w u v ns cs) (hu:Upd G w w') (hn:∀ k,u.ownBlock = some k ∨ v.ownBlock = some k → ¬ G k):Pg w' u v ns cs:=by
 obtain ⟨A,a,B,b,rfl,rfl,h1,h2,h3,h4⟩:=h.ex
 refine ⟨A,a,B,b,rfl,rfl,h1.upd (by omega) hu fun ad e => hn _ (.inl (by rw [e]; rfl)),h2.upd (by omega) hu fun ad e => hn _ (.inr (by rw [e]; rfl)),h3,h4⟩
theorem Pg.quiet {w w':World} {u v:Value} {ns:List ByteArray} {cs:List Ins} (h:Pg w u v ns cs) (hu:Upd No w w'):Pg w' u v ns cs:=h.upd hu fun _ _ => no_ _
def bel (n c:Nat) (k:Int):Int:=if k = 2 then 8 else if k = 3 then 4 else if k = 4 then (c:Int) + 1 else if k = 5 then n else 1
set_option maxRecDepth 100000 in
theorem below_ (A B:Option Addr) (n a c b:Nat) (k:Int) (hc:c ≤ 200) (w:World):Calls Tryz.prog 162 #[.agg #[.slice A n a,.slice B c b],.int .i64 k] w fun e w' => e = .returned (.int .i64 (bel n c k)) ∧ Upd No w w':=by
 by_cases h2:k = 2
 · subst h2
   go_enter Tryz.func162,Tryz.ntmps162
   go_wp2
   go_ret
   exact ⟨rfl,(Upd.refl _ _).alloc _⟩
 by_cases h3:k = 3
 · subst h3
   go_enter Tryz.func162,Tryz.ntmps162
   go_wp2
   go_ret
   exact ⟨rfl,(Upd.refl _ _).alloc _⟩
 by_cases h4:k = 4
 · subst h4
   go_enter Tryz.func162,Tryz.ntmps162
   go_wp2
   go_ret
   exact ⟨rfl,(Upd.refl _ _).alloc _⟩
 by_cases h5:k = 5
 · subst h5
   go_enter Tryz.func162,Tryz.ntmps162
   go_wp2
   go_ret
   exact ⟨rfl,(Upd.refl _ _).alloc _⟩
 have hb:bel n c k = 1:=by
  unfold bel
  rw [if_neg h2,if_neg h3,if_neg h4,if_neg h5]
 rw [hb]
 clear hb
 go_enter Tryz.func162,Tryz.ntmps162
 go_wp2
 go_ret
 exact ⟨rfl,(Upd.refl _ _).alloc _⟩
end Pr
end
section
namespace Pr
open Go.RowKit B Cm Cr Cw Ou Lt
open At (box2)
def Gi (n c:Nat) (i:Ins):Prop:=Opk i.1 ∧ (kd i.1 = 1 ∨ (kd i.1 ≠ 1 ∧ 0 ≤ i.2 ∧ i.2 < bel n c (kd i.1)))
theorem ins_at {w:World} {B:Option Addr} {cs:List Ins} (h:Rd w 2 B cs.length (icells cs)) {i:Nat} (hi:i < cs.length) :
 ∃ ad,B = some ad ∧ w.cell? (ad.add (i * 2)) = some (.int .i64 cs[i].1) ∧ w.cell? ⟨(ad.add (i * 2)).block,(ad.add (i * 2)).off + 1,none⟩ = some (.int .i64 cs[i].2):=by
 obtain ⟨ad,rfl,hcell⟩:=Op.row_at (f:=ics) (k:=2) h (fun _ _ => rfl) rfl (i:=i) (by omega)
 have c0:=hcell 0 (by omega)
 have c1:=hcell 1 (by omega)
 rw [B.add_field _ _ _ (by omega)] at c1
 exact ⟨ad,rfl,c0,c1⟩
set_option maxRecDepth 100000 in
theorem formed_ {u v:Value} {ns:List ByteArray} {cs:List Ins} {w:World} (h:Pg w u v ns cs) (hn:ns.length ≤ 8) (hc:cs.length ≤ 200) (hk:∀ s ∈ ns,Kk s) (hg:∀ i ∈ cs,Gi ns.length cs.length i) :
 Calls Tryz.prog 92 #[.agg #[u,v]] w fun e w' => e = .returned (.bool true) ∧ Upd No w w':=by
 obtain ⟨A,a,B,b,rfl,rfl,h1,h2,h3,h4⟩:=h.ex
 have hB:Blk (w.alloc (.cells #[.slice A ns.length a,.slice B cs.length b] 36)) w.heap.size 36 #[.slice A ns.length a,.slice B cs.length b]:=Blk.fresh _ _ _
 have hu:Upd No w (w.alloc (.cells #[.slice A ns.length a,.slice B cs.length b] 36)):=(Upd.refl _ _).alloc _
 obtain ⟨w1,pp,hw1,hpp⟩:∃ w1 pp,w1 = w.alloc (.cells #[.slice A ns.length a,.slice B cs.length b] 36) ∧ pp = w.heap.size:=⟨_,_,rfl,rfl⟩
 rw [← hw1,← hpp] at hB
 rw [← hw1] at hu
 have HU:=hid hu
 have HN:=hid (h1.upd (by omega) hu fun _ _ => no_ _)
 have HC:=hid (h2.upd (by omega) hu fun _ _ => no_ _)
 have HK:=hid hk
 have HG:=hid hg
 obtain ⟨c0,c1⟩:=box2 hB
 have hn0:(ns.length:Int) ≤ 8:=by omega
 have hc0:(cs.length:Int) ≤ 200:=by omega
 obtain ⟨n,hnn⟩:∃ n,n = ns.length:=⟨_,rfl⟩
 obtain ⟨c,hcc⟩:∃ c,c = cs.length:=⟨_,rfl⟩
 have HB:=hid (show Blk w1 pp 36 #[.slice A n a,.slice B c b] by rw [hnn,hcc]; exact hB)
 have HNn:=hid hnn
 have HCc:=hid hcc
 rw [← hnn] at c0 hn0 hn HG ⊢
 rw [← hcc] at c1 hc0 hc HG ⊢
 rw [← hnn,← hcc] at hw1
 clear h h1 h2 h3 h4 hB hu hk hg hnn hcc
 go_enter Tryz.func92,Tryz.ntmps92
 go_wp2_with (fail)
 try rw [← hw1]
 try rw [← hpp]
 clear hw1 hpp
 go_wp2_with (fail)
 clear c0 c1
 go_loopw [23] (fun v23 W => ∃ j:Nat,j ≤ n ∧ v23 = .int .i64 j ∧ Hid (Upd No w1 W)) (fun v23 _ => n - (intOf v23).toNat)
 case atStart => exact ⟨0,by omega,rfl,hid (Upd.refl _ _)⟩
 case round =>
  obtain ⟨j,hj,rfl,HW⟩:=hrel
  by_cases hlt:j < n
  · have hj1:(0:Int) ≤ (j:Int):=by omega
    have hj2:(j:Int) < (n:Int):=by omega
    obtain ⟨ad,x,hA,hx,hcell⟩:=Rd.at_ (HN.out.upd (by omega) HW.out fun _ _ => no_ _) (show j < ns.length by rw [← HNn.out]; exact hlt)
    subst hA
    have hl:=show j < ns.length by rw [← HNn.out]; exact hlt
    have hx':x = .string ns[j]:=by
     unfold At.strs at hx
     rw [List.getElem?_map,List.getElem?_eq_getElem hl] at hx
     simpa using hx.symm
    subst hx'
    have hky:=Nd.key_ ns[j]
    rw [kk_key (HK.out _ (List.getElem_mem hl))] at hky
    have HKy:=hid hky
    generalize ns[j] = nm at *
    clear hx hl hky
    go_wp2_with (fail)
    refine Calls.mono (HKy.out wr) ?_
    rintro e w2 ⟨rfl,rfl⟩
    go_wp2
    go_roundw
    case rel => exact ⟨j + 1,by omega,by go_num,HW⟩
    case measure => simp [intOf]; omega
  · obtain rfl:j = n:=by omega
    obtain ⟨w2,rfl⟩:∃ w2:World,w2 = wr:=⟨_,rfl⟩
    have hb2:=HB.out.upd HW.out (no_ _)
    obtain ⟨c0,c1⟩:=box2 hb2
    clear hb2
    go_wp2_with (fail)
    clear c0 c1
    have HW2:=HW
    clear HW
    go_loopw [34] (fun v34 W => ∃ k:Nat,k ≤ c ∧ v34 = .int .i64 k ∧ Hid (Upd No w2 W)) (fun v34 _ => c - (intOf v34).toNat)
    case atStart => exact ⟨0,by omega,rfl,hid (Upd.refl _ _)⟩
    case round =>
     obtain ⟨k,hk,rfl,HW⟩:=hrel
     by_cases hlt2:k < c
     · have hk1:(0:Int) ≤ (k:Int):=by omega
       have hk2:(k:Int) < (c:Int):=by omega
       have hl:=show k < cs.length by rw [← HCc.out]; exact hlt2
       obtain ⟨ad,hA,x0,x1⟩:=ins_at (HC.out.upd (by omega) (HW2.out.next HW.out) fun _ _ => no_ _) hl
       subst hA
       have hgi:=HG.out _ (List.getElem_mem hl)
       have hb3:=HB.out.upd (HW2.out.next HW.out) (no_ _)
       generalize cs[k] = x at *
       obtain ⟨op,arg⟩:=x
       simp only at x0 x1
       obtain ⟨w3,pi,hw3,hpi⟩:∃ w3 pi,w3 = wr.alloc (.cells #[.int .i64 op,.int .i64 arg] 33) ∧ pi = wr.heap.size:=⟨_,_,rfl,rfl⟩
       have hb4:Blk w3 pi 33 #[.int .i64 op,.int .i64 arg]:=by
        rw [hw3,hpi]
        exact Blk.fresh _ _ _
       have hu3:Upd No wr w3:=by
        rw [hw3]
        exact (Upd.refl _ _).alloc _
       have HS3:=hid (show Blk w3 pi 33 #[.int .i64 op,.int .i64 arg] ∧ Blk w3 pp 36 #[.slice A j a,.slice (some ad) c b] ∧ Upd No wr w3 from ⟨hb4,by
        exact hb3.upd hu3 (no_ _),hu3⟩)
       have HGi:=hid hgi
       obtain ⟨d0,d1⟩:=box2 hb4
       clear hl hgi hb3 hb4 hu3
       go_wp2_with (fail)
       try rw [← hw3]
       try rw [← hpi]
       clear hw3 hpi x0 x1
       refine Calls.mono (oper_ op HGi.out.1 w3) ?_
       rintro e w4 ⟨s,rfl,hu4⟩
       have HS4:=hid (show Blk w4 pi 33 #[.int .i64 op,.int .i64 arg] ∧ Blk w4 pp 36 #[.slice A j a,.slice (some ad) c b] ∧ Upd No wr w4 from ⟨HS3.out.1.upd hu4 (no_ _),HS3.out.2.1.upd hu4 (no_ _),HS3.out.2.2.next hu4⟩)
       clear hu4 d0 d1 HS3
       go_wp2_with (fail)
       rcases HGi.out.2 with hkd | ⟨hkd,hk0,hk1'⟩
       · have HKn:Hid ((kd op != 1) = false):=hid (by rw [hkd]; rfl)
         clear hkd
         refine wp_region_held_drew (S:=fun W => Blk W pi 33 #[.int .i64 op,.int .i64 arg] ∧ Blk W pp 36 #[.slice A j a,.slice (some ad) c b] ∧ Upd No wr W) (by kernel_rfl) ⟨HS4.out.1.drew,HS4.out.2.1.drew,HS4.out.2.2.drew⟩ (fun hS => ?_)
         refine zt 0 hS ?_
         refine zt 1 hS ?_
         refine zt 2 hS ?_
         refine zt 3 hS ?_
         refine zh 4 hS (fun w hw => HKn.out) ?_
         refine zt 5 hS ?_
         refine zn 6 hS ?_
         refine zn 7 hS ?_
         refine zn 8 hS ?_
         refine zn 9 hS ?_
         refine zn 10 hS ?_
         refine zn 11 hS ?_
         refine zn 12 hS ?_
         refine zn 13 hS ?_
         refine zn 14 hS ?_
         refine zn 15 hS ?_
         refine zn 16 hS ?_
         refine zt 17 hS ?_
         refine zt 18 hS ?_
         refine wpAnyH_done (by kernel_rfl) ?_ _
         have HW5:=hid (HW.out.next hS.2.2)
         clear hS HS4
         go_wp2
         go_roundw
         case rel => exact ⟨k + 1,by omega,by go_num,HW5⟩
         case measure => simp [intOf]; omega
       · have HKn:Hid ((kd op != 1) = true):=hid (by simp [hkd])
         have HK0:Hid ((decide (arg < 0)) = false):=hid (by simp; omega)
         have HK1:Hid ((decide (bel j c (kd op) ≤ arg)) = false):=hid (by simp; omega)
         clear hkd hk0 hk1'
         refine wp_region_held_drew (S:=fun W => Blk W pi 33 #[.int .i64 op,.int .i64 arg] ∧ Blk W pp 36 #[.slice A j a,.slice (some ad) c b] ∧ Upd No wr W) (by kernel_rfl) ⟨HS4.out.1.drew,HS4.out.2.1.drew,HS4.out.2.2.drew⟩ (fun hS => ?_)
         refine zt 0 hS ?_
         refine zt 1 hS ?_
         refine zt 2 hS ?_
         refine zt 3 hS ?_
         refine zh 4 hS (fun w hw => HKn.out) ?_
         refine zt 5 hS ?_
         refine zt 6 hS ?_
         refine zh 7 hS (fun w hw => (box2 hw.1).2) ?_
         refine zh 8 hS (fun w hw => HK0.out) ?_
         refine zt 9 hS ?_
         refine zt 10 hS ?_
         refine zh 11 hS (fun w hw => (box2 hw.1).2) ?_
         refine zh 12 hS (fun w hw => box2 hw.2.1) ?_
         refine zt 13 hS ?_
         refine zk 14 (fun K hK => ?_)
         go_simp
         refine Calls.mono (below_ A (some ad) j a c b (kd op) hc w4.drew) ?_
         rintro e w5 ⟨rfl,hu5⟩
         go_wp2_with (fail)
         refine hK.out _ _ ((by exact ⟨hS.1.upd hu5 (no_ _),hS.2.1.upd hu5 (no_ _),hS.2.2.next hu5⟩)) (fun hS => ?_)
         clear hK K
         try simp only [Act.put,zA,zB,zC]
         refine zh 15 hS (fun w hw => HK1.out) ?_
         refine zt 16 hS ?_
         refine zt 17 hS ?_
         refine zt 18 hS ?_
         refine wpAnyH_done (by kernel_rfl) ?_ _
         have HW5:=hid (HW.out.next hS.2.2)
         clear hS HS4
         go_wp2
         go_roundw
         case rel => exact ⟨k + 1,by omega,by go_num,HW5⟩
         case measure => simp [intOf]; omega
     · obtain rfl:k = c:=by omega
       go_wp2
       go_ret
       exact ⟨rfl,HU.out.next (HW2.out.next HW.out)⟩
end Pr
end
section
namespace Eg
open Go.RowKit B Cm Cr Ou Lt Lc
open Ac (Am fresh fresh_ok encA encA_le encA_byte freshB)
open Bo (Bp Bm Cg bst La Vb Cl ccells bare encL sizeC)
open Nd (Rm Inv)
def got (a:Am) (x:L):Am:={ a with inb:=a.inb ++ [x] }
theorem got_ok {a:Am} {x:L} {B:Int} (h:a.ok B) (hx:formed x = true ∧ Wf x) (hl:a.inb.length < 8):(got a x).ok B:=by
 refine ⟨h.jo,h.jr,h.j16,h.jv,h.jt,⟨?_,fun y hy => ?_⟩,h.out,⟨h.tr.1,fun _ => by simp [got]⟩,h.poi⟩
 · simp only [got,List.length_append,List.length_singleton]; omega
 · rcases List.mem_append.1 hy with hy | hy
   · exact h.inb.2 y hy
   · rw [List.mem_singleton.1 hy]; exact hx
def Em.offered (m:Em) (c s:Int) (to:ByteArray) (x:L):Bool × Int × Em:=
 if s ∈ Wp.sr m.win c then (false,0,m)
 else if (m.act to).inb.length < 8 then (true,0,(m.loaded to).commit [(0,got (m.act to) x)] none (some (0,(Wp.addX m.win c s).2)))
 else (false,7,m.loaded to)
def OfOut (w:World) (F:Nat → Prop) (p:Nat) (m:Em) (r:Bool × Int × Em) (e:Ending) (w':World):Prop:=e = .returned (.tuple #[.bool r.1,.int .i64 r.2.1]) ∧ Kept w F p r.2.2 w'
def inO (x:L) (u:Value):Ob:=⟨fun w F => In w x u ∧ (∀ k,u.ownBlock = some k → F k) ∧ ∀ k,F k → k < w.heap.size,fun h hu hn => ⟨h.1.upd hu fun g hg => hn g (h.2.1 g hg),h.2.1,fun k hk => Nat.lt_of_lt_of_le (h.2.2 k hk) hu.size⟩,fun h => h.2.2⟩
def lbk (pb:Nat) (x:L) (u:Value):Ob:=Ob.blk pb 60 #[.string x.1,.int .u64 x.2.1,.int .i64 x.2.2.1,u]
section
variable {w W W':World} {F F5 V:Nat → Prop} {p:Nat} {m m':Em} {T:List Ob} {pa pb:Nat} {a:Am} {x:L} {u:Value}
theorem sy_of2 {W5 W6:World} {G:Nat → Prop} (hF:∀ k,F k → k < w.heap.size) (hu0:Upd No w W) (hx:In W x u) (hxf:∀ k,u.ownBlock = some k → w.heap.size ≤ k ∧ k < W.heap.size ∧ k ≠ pb) (hb:Blk W pb 60 #[.string x.1,.int .u64 x.2.1,.int .i64 x.2.2.1,u]) (hbw:w.heap.size ≤ pb)
 (hen:En W5 F5 p m') (hm:Mv F F5 W W5) (hat:Ac.At W6 G pa a) (hfr:∀ k,G k → W5.heap.size ≤ k) (hu:Upd No W5 W6):∃ V,Sy w W6 F F5 V p m' [acO (pa,a),inO x u,lbk pb x u]:=by
 have hs0:=hu0.size
 have hs5:=hm.upd.size
 have hs6:=hu.size
 have hbl:=hb.lt
 have hu6:Upd F W W6:=hm.upd.trans hu fun _ _ h => h.elim
 have hnF:∀ k,w.heap.size ≤ k → ¬ F k:=fun k hk hf => by have:=hF k hf; omega
 have st:Star [acO (pa,a),inO x u,lbk pb x u] W6 (fun k => G k ∨ u.ownBlock = some k ∨ k = pb):=by
  refine ⟨G,fun k => u.ownBlock = some k ∨ k = pb,hat,⟨fun k => u.ownBlock = some k,fun k => k = pb,⟨hx.upd hu6 fun g hg => hnF g (hxf g hg).1,fun k hk => hk,fun k hk => by have:=hxf k hk; omega⟩,⟨fun k => k = pb,No,Ob.blk_is (hb.upd hu6 (hnF _ hbw)),fun _ h => h.elim,fun _ _ h => h,fun _ h => h,fun _ h => h.elim,?_⟩,?_,?_,?_,?_⟩,?_,?_,?_,?_⟩
  · intro k hk; subst hk; omega
  · intro k hk e; exact (hxf k hk).2.2 e
  · intro k hk; exact .inl hk
  · intro k hk; exact .inr hk
  · rintro k (hk | hk)
    · have:=hxf k hk; omega
    · subst hk; omega
  · rintro k hk (e | e)
    · have:=hfr k hk; have:=hxf k e; omega
    · have:=hfr k hk; subst e; omega
  · intro k hk; exact .inl hk
  · intro k hk; exact .inr hk
  · rintro k (hk | hk | hk)
    · exact hat.lt k hk
    · have:=hxf k hk; omega
    · subst hk; omega
 have h5:=hen.lt
 have hn5:∀ k,w.heap.size ≤ k → k < W.heap.size → ¬ F5 k:=fun k hk hk2 hf5 => (hm.sub k hf5).elim (hnF k hk) fun h9 => by omega
 refine ⟨_,hen.quiet hu,st,?_,fun k hk => (hm.sub k hk).imp id fun h9 => by omega,(hu0.mono fun _ _ h => h.elim).next hu6⟩
 rintro k (hk | hk | hk)
 · have:=hfr k hk
   exact ⟨fun hf => by have:=h5 k hf; omega,by omega⟩
 · have:=hxf k hk
   exact ⟨hn5 k (by omega) (by omega),by omega⟩
 · subst hk
   exact ⟨hn5 _ hbw hbl,hbw⟩
theorem sy_in {L:List Ob} (h:Sy w W F F5 V p m L) (i:Nat) (hi:L[i]? = some (inO x u)):In W x u:=by
 obtain ⟨_,h1,_⟩:=Star.own h.st i hi
 exact h1.1
theorem sy_lb {L:List Ob} (h:Sy w W F F5 V p m L) (i:Nat) (hi:L[i]? = some (lbk pb x u)):Blk W pb 60 #[.string x.1,.int .u64 x.2.1,.int .i64 x.2.2.1,u]:=by
 obtain ⟨_,h1,_⟩:=Star.own h.st i hi
 exact h1.1
theorem Sy.fin {L:List Ob} (h:Sy w W F F5 V p m L):Kept w F p m W:=⟨F5,h.en,h.upd,h.sub⟩
theorem Sy.push {L:List Ob} {o:Ob} {G:Nat → Prop} (h:Sy w W F F5 V p m L) (hu:Upd No W W') (ho:o.is W' G) (hG:∀ k,G k → W.heap.size ≤ k):∃ V',Sy w W' F F5 V' p m (o :: L):=by
 obtain ⟨V',h1,h2⟩:=h.st.push hu ho hG
 have hl:=h.en.lt
 have hs:=h.upd.size
 exact ⟨V',h.en.quiet hu,h1,fun k hk => (h2.sub k hk).elim (h.vf k) fun h9 => ⟨fun hf => by have:=hl k hf; omega,by omega⟩,h.sub,h.upd.trans hu fun _ _ h => h.elim⟩
theorem Sy.swap {L:List Ob} {o o':Ob} (h:Sy w W F F5 V p m (o :: o' :: L)):Sy w W F F5 V p m (o' :: o :: L):=⟨h.en,h.st.swap,h.vf,h.sub,h.upd⟩
theorem Sy.turn {L:List Ob} {o o':Ob} (h:Sy w W F F5 V p m (o :: L)):∃ G,o.is W G ∧ ∀ W' G',Mv G G' W W' → o'.is W' G' → ∃ V',Sy w W' F F5 V' p m (o' :: L):=by
 obtain ⟨G,h1,hGV,hput⟩:=h.st.at_ 0 (o:=o) rfl
 refine ⟨G,h1,fun W' G' hm ho => ?_⟩
 obtain ⟨V',h2,h3⟩:=hput W' G' o' hm ho
 have hl:=h.en.lt
 have hs:=h.upd.size
 exact ⟨V',h.en.upd hm.upd fun k hk hA => (h.vf k (hGV k hA)).1 hk,h2,fun k hk => (h3.sub k hk).elim (h.vf k) fun h9 => ⟨fun hf => by have:=hl k hf; omega,by omega⟩,h.sub,h.upd.trans hm.upd fun i hi hA => by have:=(h.vf i (hGV i hA)).2; omega⟩
theorem sy_commitw {pw:Nat} {xw:Wp.St} (h:Sy w W F F5 V p m (acO (pa,a) :: wdO pw xw m.n :: T)) (htd:m.tidy) {A:Option Addr} {c:Nat} (hrow:Rd W 1 A 1 [.pointer (some ⟨pa,0,none⟩)]) (hg:∀ ad,A = some ad → ¬ F5 ad.block) (hc:1 ≤ c ∧ c ≤ maxLen) (hok:a.ok BB ∧ (a.jn.2.2 = 0 → a.jn = Jn.s0)) (hl:Wp.Ok xw)
 (hn:m.n + 200 ≤ 400000) (hroom:Gp.nbl (encL (chs [(0,a)] none (some (0,xw)))) ≤ m.bk.lg.count - m.bk.lg.used) :
 Calls Tryz.prog 54 #[.pointer (some ⟨p,0,none⟩),.agg #[.slice A 1 c,.pointer none,.pointer (some ⟨pw,0,none⟩),.slice none 0 0]] W fun e w' => e = .returned (.int .i64 0) ∧ ∃ F6 V',Sy w w' F F6 V' p (m.commit [(0,a)] none (some (0,xw))) T:=by
 obtain ⟨V1,V2,h1,h2,h3,h4,h5⟩:=Star.split (l1:=[acO (pa,a),wdO pw xw m.n]) (l2:=T) h.st
 have hs:=h.upd.size
 have hlt:=h.en.lt
 have hsz:sizeC (chs [(0,a)] none (some (0,xw))) ≤ 40000:=by
  have g1:=encA_le hok.1
  have g2:=encX_le hl
  have g3:=akey_size a.out.own
  have g4:=hok.1.out.key.2
  have e:chs [(0,a)] none (some (0,xw)) = [(akey a.out.own,encA a,freshB a),(kw,We.encX xw,false)]:=rfl
  rw [e]
  have e2:kw.size = 1:=rfl
  simp [sizeC]
  omega
 refine (commit_ (F:=F5) (V:=V1) (ac:=[(pa,a)]) (qv:=none) (wv:=some (pw,xw)) (A:=A) (c:=c) ⟨h.en,htd,h1,fun k hk => (h.vf k (h4 k hk)).1,hrow,fun _ => hg,hc,fun x hx => by rw [List.mem_singleton.1 hx]; exact hok,by simp,fun x hx => (by cases hx),fun x hx => (by injection hx with hx; subst hx; exact hl),by simp,by simp [chs,wC],hsz,hroom,hn,.inl rfl⟩).mono ?_
 rintro e w' ⟨rfl,F6,hen,hu,hsub⟩
 rw [commit_onew m pa 0 pw 0 a xw] at hen
 have hs2:=hu.size
 have hlt2:=h2.lt
 refine ⟨rfl,F6,V2,hen,h2.keep hu fun k hk hf => (h.vf k (h5 k hk)).1 hf,fun k hk => ⟨fun hf => ?_,(h.vf k (h5 k hk)).2⟩,fun k hk => ?_,h.upd.trans hu fun i hi hf => (h.sub i hf).elim id fun h9 => by omega⟩
 · rcases hsub k hf with h9 | h9 | h9
   · exact (h.vf k (h5 k hk)).1 h9
   · exact h3 k h9 hk
   · have:=hlt2 k hk; omega
 · rcases hsub k hk with h9 | h9 | h9
   · exact h.sub k h9
   · exact .inr (h.vf k (h4 k h9)).2
   · exact .inr (by omega)
end
def PsOut (w:World) (F F5:Nat → Prop) (p:Nat) (m:Em) (L:List Ob) (S:World → Prop) (c:Int) (e:Ending) (w':World):Prop:=
 e = .returned (.int .i64 c) ∧ S w' ∧ ∃ V',Sy w w' F F5 V' p m L
theorem sy_sent {w W:World} {F F5 V:Nat → Prop} {p pa pb:Nat} {m':Em} {a:Am} {s k:Int} {l:List Int} {u:Value} (h:Sy w W F F5 V p m' [acO (pa,a),inO (⟨#[]⟩,s,k,l) u,lbk pb (⟨#[]⟩,s,k,l) u]) (hf:formed (⟨#[]⟩,s,k,l) = true) {cd:Int} {a':Am} (hcd:(a.inb.length < 8 ∧ cd = 0 ∧ a' = got a (⟨#[]⟩,s,k,l)) ∨ (¬ a.inb.length < 8 ∧ cd = 7 ∧ a' = a)):∃ pi,∀ W8,Upd No W W8 →
 (W8.cell? ⟨pa,1,none⟩ = some (.pointer (some ⟨pi,0,none⟩)) ∧ W8.cell? ⟨pb,0,none⟩ = some (.string ⟨#[]⟩) ∧ W8.cell? ⟨pb,1,none⟩ = some (.int .u64 s) ∧ W8.cell? ⟨pb,2,none⟩ = some (.int .i64 k) ∧ W8.cell? ⟨pb,3,none⟩ = some u) ∧
  Calls Tryz.prog 51 #[.pointer (some ⟨pi,0,none⟩),.agg #[.string ⟨#[]⟩,.int .u64 s,.int .i64 k,u]] W8 fun e w' => PsOut w F F5 p m' [acO (pa,a'),inO (⟨#[]⟩,s,k,l) u,lbk pb (⟨#[]⟩,s,k,l) u] (fun W => W.cell? ⟨pa,1,none⟩ = some (.pointer (some ⟨pi,0,none⟩)) ∧ W.cell? ⟨pb,0,none⟩ = some (.string ⟨#[]⟩) ∧ W.cell? ⟨pb,1,none⟩ = some (.int .u64 s) ∧ W.cell? ⟨pb,2,none⟩ = some (.int .i64 k) ∧ W.cell? ⟨pb,3,none⟩ = some u) cd e w':=by
 obtain ⟨pi,_,h2⟩:=sy_push (T:=[inO (⟨#[]⟩,s,k,l) u,lbk pb (⟨#[]⟩,s,k,l) u]) h
 refine ⟨pi,fun W8 hu => ⟨⟨(h2 W8 hu).1,box (sy_lb (h.quiet hu) 2 rfl)⟩,((h2 W8 hu).2 (⟨#[]⟩,s,k,l) u (sy_in (h.quiet hu) 1 rfl)).mono ?_⟩⟩
 rintro e w' ⟨rfl,h3,V',h4⟩
 have h5:=box (sy_lb h4 2 rfl)
 have hp:Ib.pushL a.inb (⟨#[]⟩,s,k,l) = if a.inb.length < 8 then (0,a.inb ++ [(⟨#[]⟩,s,k,l)]) else (7,a.inb):=by
  unfold Ib.pushL
  rw [if_pos hf]
 rw [hp] at h4 ⊢
 rcases hcd with ⟨h8,rfl,rfl⟩ | ⟨h8,rfl,rfl⟩
 · rw [if_pos h8] at h4 ⊢
   exact ⟨rfl,⟨h3,h5⟩,V',h4⟩
 · rw [if_neg h8] at h4 ⊢
   exact ⟨rfl,⟨h3,h5⟩,V',h4⟩
theorem OfOut.of {w:World} {F:Nat → Prop} {p:Nat} {m:Em} {r:Bool × Int × Em} {e:Ending} {w':World} (h:e = .returned (.tuple #[.bool r.1,.int .i64 r.2.1]) ∧ Kept w F p r.2.2 w'):OfOut w F p m r e w':=h
set_option maxRecDepth 100000 in
theorem offer_ {w:World} {F:Nat → Prop} {p:Nat} {m:Em} (h:En w F p m) (htd:m.tidy) (hsn:We.SerNd m.win) (hn:301 ≤ m.n ∧ m.n + 210 ≤ 400000) {to:ByteArray} (hk:Kk to) {c s k:Int} {l:List Int} {u:Value} (hx:formed (⟨#[]⟩,s,k,l) = true ∧ Wf (⟨#[]⟩,s,k,l)) (hin:In w (⟨#[]⟩,s,k,l) u) (hc:Wp.Key c) (hs:Wp.Key s)
 (hroom:s ∉ Wp.sr m.win c → Gp.nbl (encL (chs [(0,got (m.act to) (⟨#[]⟩,s,k,l))] none (some (0,(Wp.addX m.win c s).2)))) ≤ m.bk.lg.count - m.bk.lg.used) :
 Calls Tryz.prog 9 #[.pointer (some ⟨p,0,none⟩),.int .u64 c,.int .u64 s,.string to,.int .i64 k,u] w fun e w' => OfOut w F p m (m.offered c s to (⟨#[]⟩,s,k,l)) e w':=by
 have HH:=hid (And.intro h (And.intro htd (And.intro hn (And.intro hroom (And.intro hk (And.intro hx (And.intro hc (And.intro hs hsn))))))))
 have hll:=(formed_le hx.1).2
 have HK:=hid (fun W => Nd.key_ to W)
 have hkb:=kk_key hk
 rw [hkb] at HK
 have HCp:=hid (copy_ (⟨#[]⟩,s,k,l) u w hin (by simp only at hll; show l.length ≤ 1000000; omega))
 obtain ⟨A0,c0,rfl,_,_,_⟩:=hin
 clear h htd hsn hn hroom hk hx hc hs hkb
 unfold Lt.val at HCp
 go_enter Tryz.func9,Tryz.ntmps9
 go_wp2_with (fail)
 refine Calls.mono (gone_ HH.out.1) ?_
 rintro e w1 ⟨rfl,rfl⟩
 go_wp2_with (fail)
 refine Calls.mono HCp.out ?_
 rintro e w2 ⟨u2,rfl,hin2,hu2,hf2⟩
 obtain ⟨A2,c2,rfl,hr2,hc2,hm2⟩:=hin2
 unfold Lt.val
 simp only at hr2 hc2 hm2 ⊢
 have HB:Hid (∃ w3 pb,w3 = w2.alloc (.cells #[.string ⟨#[]⟩,.int .u64 s,.int .i64 k,.slice A2 l.length c2] 60) ∧ pb = w2.heap.size ∧ Blk w3 pb 60 #[.string ⟨#[]⟩,.int .u64 s,.int .i64 k,.slice A2 l.length c2] ∧ In w3 (⟨#[]⟩,s,k,l) (.slice A2 l.length c2) ∧
  (∀ g,(Value.slice A2 l.length c2).ownBlock = some g → w.heap.size ≤ g ∧ g < w3.heap.size ∧ g ≠ pb) ∧ w.heap.size ≤ pb ∧ Upd No w w3):=hid (by
  have hi:In w2 (⟨#[]⟩,s,k,l) (.slice A2 l.length c2):=⟨A2,c2,rfl,hr2,hc2,hm2⟩
  have hal:Upd No w2 (w2.alloc (.cells #[.string ⟨#[]⟩,.int .u64 s,.int .i64 k,.slice A2 l.length c2] 60)):=(Upd.refl _ _).alloc _
  refine ⟨_,_,rfl,rfl,Blk.fresh _ _ _,hi.upd hal fun _ _ => no_ _,fun g hg => ?_,hu2.size,hu2.next hal⟩
  obtain ⟨h1,cs,h2⟩:=hf2 g hg
  have:=h2.lt
  simp
  omega)
 obtain ⟨w3,pb,hw3,hpb,hb3,hi3,hf3,hlo3,hu3⟩:=HB.out
 have HX3:=hid (And.intro hb3 (And.intro hi3 (And.intro hf3 (And.intro hlo3 hu3))))
 clear hr2 hc2 hm2 hu2 hf2 hb3 hi3 hf3 hlo3 hu3 HCp
 go_wp2_with (fail)
 rw [← hw3]
 try rw [← hpb]
 clear hw3 hpb HB
 refine Calls.mono (HK.out w3) ?_
 rintro e w4 ⟨rfl,rfl⟩
 obtain ⟨k0,k1,k2,k3⟩:=box HX3.out.1
 have HFm:=hid (formed_ (⟨#[]⟩,s,k,l) _ w3 HX3.out.2.1)
 rw [HH.out.2.2.2.2.2.1.1] at HFm
 unfold Lt.val at HFm
 go_wp2_with (fail)
 refine Calls.mono HFm.out ?_
 rintro e w4 ⟨rfl,hu4⟩
 have HX4:Hid (Blk w4 pb 60 #[.string ⟨#[]⟩,.int .u64 s,.int .i64 k,.slice A2 l.length c2] ∧ In w4 (⟨#[]⟩,s,k,l) (.slice A2 l.length c2) ∧ (∀ g,(Value.slice A2 l.length c2).ownBlock = some g → w.heap.size ≤ g ∧ g < w4.heap.size ∧ g ≠ pb) ∧ w.heap.size ≤ pb ∧ Upd No w w4):=hid (by
  obtain ⟨h1,h2,h3,h4,h5⟩:=HX3.out
  exact ⟨h1.upd hu4 (no_ _),h2.upd hu4 fun _ _ => no_ _,fun g hg => ⟨(h3 g hg).1,Nat.lt_of_lt_of_le (h3 g hg).2.1 hu4.size,(h3 g hg).2.2⟩,h4,h5.next hu4⟩)
 clear k0 k1 k2 k3 hu4 HX3 HFm HK
 have HE4:=hid (HH.out.1.quiet HX4.out.2.2.2.2)
 obtain ⟨e4,hs4⟩:=HE4.out.ex
 obtain ⟨B4,hb4,_⟩:=Star.own hs4 0 rfl
 obtain ⟨⟨_,_,_,_,p4⟩,_⟩:=ecells hb4.1
 obtain ⟨Q4,hq4,_⟩:=Star.own hs4 5 (o:=wdO e4.pw m.win m.n) rfl
 have HSe:=hid (Ww.seen c s hq4 HH.out.2.2.2.2.2.2.1)
 clear hs4 hb4 hq4
 by_cases hse:s ∈ Wp.sr m.win c
 · rw [decide_eq_true hse] at HSe
   have HR:Hid (m.offered c s to (⟨#[]⟩,s,k,l) = (false,0,m)):=hid (by unfold Em.offered; rw [if_pos hse])
   clear hse
   go_wp2_with (fail)
   refine Calls.mono HSe.out ?_
   rintro e w5 ⟨rfl,rfl⟩
   go_wp2
   go_ret2
   refine .of ?_
   rw [HR.out]
   exact ⟨rfl,F,HE4.out,HX4.out.2.2.2.2.mono fun _ _ h => h.elim,fun _ h => .inl h⟩
 · rw [decide_eq_false hse] at HSe
   have HNs:=hid hse
   clear hse
   go_wp2_with (fail)
   refine Calls.mono HSe.out ?_
   rintro e w5 ⟨rfl,rfl⟩
   have HL:=hid (load_ HE4.out HH.out.2.1 HH.out.2.2.2.2.1 (by have:=HH.out.2.2.1; omega))
   clear p4 HSe
   go_wp2_with (fail)
   refine Calls.mono HL.out ?_
   rintro e w5 ⟨qa,G5,F5,rfl,hat5,hen5,hm5⟩
   have HC:=hid (Ac.copied hat5 (HH.out.1.ok.act HH.out.2.2.2.2.1) (by unfold BB; omega))
   have HX5:=hid (And.intro hen5 hm5)
   clear hat5 hen5 hm5 HL HE4
   go_wp2_with (fail)
   refine Calls.mono HC.out ?_
   rintro e w6 ⟨pa,G6,rfl,hat6,hf6,hu6⟩
   obtain ⟨V6,hSy⟩:=sy_of2 HH.out.1.lt HX4.out.2.2.2.2 HX4.out.2.1 HX4.out.2.2.1 HX4.out.1 HX4.out.2.2.2.1 HX5.out.1 HX5.out.2 hat6 hf6 hu6
   have HSy:=hid hSy
   clear hat6 hf6 hu6 hSy HX5 HC HX4
   by_cases h8:(m.act to).inb.length < 8
   case' pos =>
    obtain ⟨pi,hpu⟩:=sy_sent HSy.out HH.out.2.2.2.2.2.1.1 (.inl ⟨h8,rfl,rfl⟩)
   case' neg =>
    obtain ⟨pi,hpu⟩:=sy_sent HSy.out HH.out.2.2.2.2.2.1.1 (.inr ⟨h8,rfl,rfl⟩)
   all_goals
    have HPu:=hid hpu
    have H8:=hid h8
    clear hpu h8
    go_wp2_with (fail)
    have HPc:=hid (HPu.out _ ((Upd.refl _ _).drew)).2
    refine wp_region_held_drew (S:=fun W => W.cell? ⟨pa,1,none⟩ = some (.pointer (some ⟨pi,0,none⟩)) ∧ W.cell? ⟨pb,0,none⟩ = some (.string ⟨#[]⟩) ∧ W.cell? ⟨pb,1,none⟩ = some (.int .u64 s) ∧ W.cell? ⟨pb,2,none⟩ = some (.int .i64 k) ∧ W.cell? ⟨pb,3,none⟩ = some (.slice A2 l.length c2)) (by kernel_rfl) (HPu.out _ ((Upd.refl _ _).drew)).1 (fun hS => ?_)
    refine zt 0 hS ?_
    refine zt 1 hS ?_
    refine zt 2 hS ?_
    refine zh 3 hS (fun w hw => hw.1) ?_
    refine zh 4 hS (fun w hw => hw.2) ?_
    refine zk 5 (fun K hK => ?_)
    go_simp
    refine Calls.mono HPc.out ?_
    rintro e9 w9 ⟨rfl,hS9,V9,hsy9⟩
    go_wp2_with (fail)
    refine hK.out _ _ (hS9) (fun hS => ?_)
    clear hK K
    try simp only [Act.put,zA,zB,zC]
    refine zt 6 hS ?_
    refine wpAnyH_done (by kernel_rfl) ?_ _
    have HS9:=hid hsy9
    clear hsy9 hS9 hS HPc HPu
   · go_wp2_with (fail)
     refine Calls.mono (end_ HS9.out.en 7 (by decide) (by decide)) ?_
     rintro e w10 ⟨rfl,hk10⟩
     obtain ⟨F10,hs10⟩:=HS9.out.kept hk10
     have HF:=hid hs10.fin
     clear hs10 hk10
     go_wp2
     go_ret2
     have e7:m.offered c s to (⟨#[]⟩,s,k,l) = (false,7,m.loaded to):=by
      unfold Em.offered
      rw [if_neg HNs.out,if_neg H8.out]
     refine .of ?_
     rw [e7]
     exact ⟨rfl,HF.out⟩
   · have HF9:Hid (∃ e9:Ep,w9.cell? ⟨p,4,none⟩ = some (.pointer (some ⟨e9.pw,0,none⟩)) ∧ Calls Tryz.prog 52 #[.pointer (some ⟨e9.pw,0,none⟩)] w9 fun e w' => We.EnOut w9 (We.encX m.win) e w'):=hid (by
      obtain ⟨e9,hs9⟩:=HS9.out.en.ex
      obtain ⟨B9,hb9,_⟩:=Star.own hs9 0 rfl
      obtain ⟨⟨_,_,_,_,p9⟩,_⟩:=ecells hb9.1
      obtain ⟨Q9,hq9,_⟩:=Star.own hs9 5 (o:=wdO e9.pw m.win (m.n + 1)) rfl
      exact ⟨e9,p9,We.encode hq9 HH.out.1.ok.wok⟩)
     obtain ⟨e9,p9,hen9⟩:=HF9.out
     have HEn:=hid hen9
     clear hen9 HF9
     go_wp2_with (fail)
     refine Calls.mono HEn.out ?_
     rintro e w10 ⟨A10,c10,rfl,hc10,hm10,hr10,hu10,hf10⟩
     have HS10:=hid (HS9.out.quiet hu10)
     have hle:=encX_le HH.out.1.ok.wok
     have hdc:=We.decode (c:=c10) hr10 hc10 (by omega) hm10 (We.encX_byte HH.out.1.ok.wok)
     rw [We.dec_enc HH.out.1.ok.wok HH.out.2.2.2.2.2.2.2.2] at hdc
     have HDc:=hid hdc
     clear hc10 hm10 hr10 hu10 hf10 hdc HS9 HEn p9 hle
     go_wp2_with (fail)
     refine Calls.mono HDc.out ?_
     rintro e w11 ⟨pw,G11,n11,rfl,hwd11,hn11,hG11,hu11⟩
     obtain ⟨V11,hs11⟩:=HS10.out.push (o:=wdO pw m.win n11) hu11 hwd11 hG11
     obtain ⟨G12,hw12,hturn⟩:=hs11.turn (o':=wdO pw (Wp.addX m.win c s).2 (m.n + 1))
     have HAd:=hid (Ww.add c s hw12 HH.out.2.2.2.2.2.2.1 HH.out.2.2.2.2.2.2.2.1 HH.out.1.ok.wok (by omega))
     have HTu:=hid hturn
     have HN11:=hid hn11
     clear hwd11 hn11 hG11 hu11 hs11 hw12 hturn HDc HS10
     go_wp2_with (fail)
     refine Calls.mono HAd.out ?_
     rintro e w12 ⟨rfl,G13,hwd12,hm12⟩
     obtain ⟨V12,hs12⟩:=HTu.out w12 G13 hm12 (by
      obtain ⟨mo,v,mm,G,hx⟩:=hwd12
      exact ⟨mo,v,mm,G,hx.mono (by have:=HN11.out; have:=HH.out.2.2.1; omega)⟩)
     have hs13:=hs12.swap.quiet ((Upd.refl No w12).alloc (.cells #[.pointer (some ⟨pa,0,none⟩)] 49))
     have hlt12:=hs12.en.lt
     have HCm:=hid (sy_commitw (m:=m.loaded to) (pw:=pw) (xw:=(Wp.addX m.win c s).2) hs13 (loaded_tidy _ _) (A:=some ⟨w12.heap.size,0,none⟩) (c:=1) (Rd_lit w12 _ 1 1 _ rfl) (fun ad e hf => by injection e with e; subst e; exact absurd (hlt12 _ hf) (Nat.lt_irrefl _)) ⟨Nat.le_refl _,by simp [maxLen]⟩ ⟨got_ok (HH.out.1.ok.act HH.out.2.2.2.2.1) HH.out.2.2.2.2.2.1 H8.out,HH.out.1.ok.zer _ HH.out.2.2.2.2.1⟩ (Wp.Ok.add HH.out.1.ok.wok HH.out.2.2.2.2.2.2.1 HH.out.2.2.2.2.2.2.2.1) (by have:=HH.out.2.2.1; show m.n + 1 + 200 ≤ 400000; omega) (HH.out.2.2.2.1 HNs.out))
     clear hwd12 hm12 hs12 hs13 hlt12 HAd HTu HN11
     go_wp2_with (fail)
     refine Calls.mono HCm.out ?_
     rintro e w14 ⟨rfl,F6,V6,hs14⟩
     obtain ⟨e14,hst14,hc14⟩:=count_ hs14.en
     obtain ⟨B14,hb14,_⟩:=Star.own hst14 0 rfl
     obtain ⟨_,_,_,_,c8,_⟩:=ecells hb14.1
     have HC0:=hid (show Calls Tryz.prog 55 #[.pointer (some ⟨e14.pc,0,none⟩),.int .i64 0,.int .u64 1] w14 _ from hc14 0 (by omega))
     have HS14:=hid hs14
     clear hs14 hst14 hc14 hb14 HCm
     go_wp2_with (fail)
     refine Calls.mono HC0.out ?_
     rintro e w15 ⟨n15,rfl,hk15⟩
     obtain ⟨F10,hs15⟩:=HS14.out.kept hk15
     have HS15:=hid hs15
     clear hs15 hk15 HC0 c8 HS14
     go_wp2_with (fail)
     refine Calls.mono (end_ok HS15.out.en) ?_
     rintro e w16 ⟨rfl,rfl⟩
     go_wp2
     go_ret2
     have e7:m.offered c s to (⟨#[]⟩,s,k,l) = (true,0,(m.loaded to).commit [(0,got (m.act to) (⟨#[]⟩,s,k,l))] none (some (0,(Wp.addX m.win c s).2))):=by
      unfold Em.offered
      rw [if_neg HNs.out,if_pos H8.out]
     refine .of ?_
     rw [e7]
     exact ⟨rfl,HS15.out.fin⟩
end Eg
end
section
namespace Tp
open Go.RowKit B Cm Cr Cw Ou Lt Lc Pk
open Ac (Am fresh fresh_ok encA encA_le encA_byte freshB Fit)
open Eg (BB got akey akey_size chs kw Em)
open Bo (encL sizeC)
def ka:ByteArray:=⟨#[97]⟩
def kb:ByteArray:=⟨#[98]⟩
theorem ka_k:Kk ka:=⟨by decide,by decide⟩
theorem kb_k:Kk kb:=⟨by decide,by decide⟩
theorem kab:ka ≠ kb:=by decide
def lA (x:Int):L:=(⟨#[]⟩,1,0,[x])
def lB (s x:Int):L:=(ka,s,1,[x])
def chain:Int → List Int → List L
 | _,[] => []
 | lo,z :: r => lB (lo + 1) z :: chain (lo + 1) r
theorem chain_length:∀ (zs:List Int) (lo:Int),(chain lo zs).length = zs.length
 | [],_ => rfl
 | z :: r,lo => by simp only [chain,List.length_cons,chain_length r]
theorem chain_app:∀ (zs:List Int) (lo z:Int),chain lo (zs ++ [z]) = chain lo zs ++ [lB (lo + zs.length + 1) z]
 | [],lo,z => by simp [chain]
 | y :: r,lo,z => by
  have e:lo + 1 + (r.length:Int) + 1 = lo + ((r.length + 1:Nat):Int) + 1:=by omega
  simp only [List.cons_append,chain,chain_app r,List.length_cons]
  rw [e]
theorem chain_mem:∀ (zs:List Int) (lo:Int),∀ x ∈ chain lo zs,∃ s z,x = lB s z ∧ lo < s ∧ s ≤ lo + zs.length ∧ z ∈ zs
 | [],_,x,hx => by cases hx
 | y :: r,lo,x,hx => by
  rcases List.mem_cons.1 hx with rfl | hx
  · exact ⟨lo + 1,y,rfl,by omega,by simp only [List.length_cons]; omega,by simp⟩
  · obtain ⟨s,z,rfl,h1,h2,h3⟩:=chain_mem r (lo + 1) x hx
    exact ⟨s,z,rfl,by omega,by simp only [List.length_cons]; omega,by simp [h3]⟩
theorem chain_get:∀ (zs:List Int) (lo:Int) (i:Nat) (hi:i < (chain lo zs).length),∃ z,(chain lo zs)[i] = lB (lo + i + 1) z
 | [],_,i,hi => by simp [chain] at hi
 | y :: r,lo,0,hi => ⟨y,by simp [chain]⟩
 | y :: r,lo,i + 1,hi => by
  have hi':i < (chain (lo + 1) r).length:=by simpa [chain] using hi
  obtain ⟨z,hz⟩:=chain_get r (lo + 1) i hi'
  refine ⟨z,?_⟩
  have e:lo + 1 + (i:Int) + 1 = lo + ((i + 1:Nat):Int) + 1:=by omega
  simp only [chain,List.getElem_cons_succ]
  rw [hz,e]
def Sm8 (zs:List Int):Prop:=∀ z ∈ zs,0 ≤ z ∧ z ≤ 255
theorem Sm8.app {zs:List Int} {z:Int} (h:Sm8 zs) (hz:0 ≤ z ∧ z ≤ 255):Sm8 (zs ++ [z]):=fun x hx => (List.mem_append.1 hx).elim (h x) fun h9 => by rw [List.mem_singleton.1 h9]; exact hz
theorem Sm8.tail {z:Int} {zs:List Int} (h:Sm8 (z :: zs)):Sm8 zs:=fun x hx => h x (by simp [hx])
def serA (n:Int):List (ByteArray × Int):=if n = 0 then [] else [(kb,n)]
theorem num0_serA {n:Int}:num0 (serA n) kb = n:=by
 unfold serA
 split
 · rename_i h; subst h; rfl
 · simp [num0,at_]
theorem putS_serA {n:Int} (h:0 ≤ n):putS (serA n) kb (n + 1) = serA (n + 1):=by
 have e:serA (n + 1) = [(kb,n + 1)]:=by unfold serA; rw [if_neg (by omega)]
 rw [e]
 unfold serA
 split
 · rfl
 · simp [putS]
def stA (xs:List Int) (lo:Int) (zs:List Int):Am:=⟨Jn.s0,xs.map lA,⟨ka,(chain lo zs).map fun x => (kb,x),serA (lo + zs.length)⟩,0,[]⟩
def stB (jn:Jn.S) (lo:Int) (ys:List Int):Am:=⟨jn,chain lo ys,newO kb,0,[]⟩
theorem stA_0:fresh ka = stA [] 0 []:=rfl
theorem stB_0:fresh kb = stB Jn.s0 0 []:=rfl
theorem gotA (xs:List Int) (lo:Int) (zs:List Int) (x:Int):got (stA xs lo zs) (lA x) = stA (xs ++ [x]) lo zs:=by simp [got,stA]
theorem gotB (jn:Jn.S) (lo:Int) (ys:List Int) (y:Int):got (stB jn lo ys) (lB (lo + ys.length + 1) y) = stB jn lo (ys ++ [y]):=by simp [got,stB,chain_app]
theorem sendA {xs:List Int} {lo:Int} {zs:List Int} (h:0 ≤ lo) (x:Int):sendO (stA xs lo zs).out kb 1 [x] = (stA xs lo (zs ++ [x])).out:=by
 have h1:num0 (serA (lo + zs.length)) kb = lo + zs.length:=num0_serA
 have h2:putS (serA (lo + zs.length)) kb (lo + zs.length + 1) = serA (lo + (zs ++ [x]).length):=by
  rw [putS_serA (by omega)]
  congr 1
  simp only [List.length_append,List.length_singleton]
  omega
 unfold sendO stA
 simp only
 rw [h1,h2,chain_app,List.map_append]
 rfl
theorem popA (xs:List Int) (lo:Int) (z:Int) (zs:List Int):popO (stA xs lo (z :: zs)).out = (stA xs (lo + 1) zs).out:=by
 have e:lo + ((zs.length + 1:Nat):Int) = lo + 1 + (zs.length:Int):=by omega
 unfold popO stA
 simp only [List.length_cons,chain,List.map_cons,List.tail_cons]
 rw [e]
theorem addS_nil:(Jn.addS Jn.s0 []).2 = Jn.s0:=by decide
theorem lA_ok {x:Int} (h:0 ≤ x ∧ x ≤ 255):formed (lA x) = true ∧ Wf (lA x):=⟨rfl,⟨by show (0:Int) ≤ 1 ∧ (1:Int) ≤ 18446744073709551615; omega,by show (-9223372036854775808:Int) ≤ 0 ∧ (0:Int) ≤ 9223372036854775807; omega,fun i hi => by
 have h0:i = 0:=by
  have:i < 1:=hi
  omega
 subst h0
 show (-9223372036854775808:Int) ≤ x ∧ x ≤ 9223372036854775807
 omega⟩⟩
theorem lB_ok {s x:Int} (hs:0 ≤ s ∧ s ≤ 18446744073709551615) (h:0 ≤ x ∧ x ≤ 255):formed (lB s x) = true ∧ Wf (lB s x):=⟨rfl,⟨hs,by show (-9223372036854775808:Int) ≤ 1 ∧ (1:Int) ≤ 9223372036854775807; omega,fun i hi => by
 have h0:i = 0:=by
  have:i < 1:=hi
  omega
 subst h0
 show (-9223372036854775808:Int) ≤ x ∧ x ≤ 9223372036854775807
 omega⟩⟩
theorem ord_chain {n:Int}:∀ (zs:List Int) (lo:Int),0 ≤ lo → n = lo + zs.length → Ord (serA n) ((chain lo zs).map fun x => (kb,x))
 | [],_,_,_ => trivial
 | z :: r,lo,h0,hn => by
  have e:wt ((chain lo (z :: r)).map fun x => (kb,x)) kb = r.length + 1:=by
   unfold wt
   rw [List.countP_map,List.countP_eq_length.2 (fun x _ => by simp),chain_length]
   rfl
  have e2:num0 (serA n) kb = n:=num0_serA
  simp only [List.length_cons] at hn
  refine ⟨?_,?_,ord_chain r (lo + 1) (by omega) (by omega)⟩
  · show ((wt ((chain lo (z :: r)).map fun x => (kb,x)) kb:Nat):Int) ≤ num0 (serA n) kb
    rw [e,e2]
    omega
  · show lo + 1 = num0 (serA n) kb - ((wt ((chain lo (z :: r)).map fun x => (kb,x)) kb:Nat):Int) + 1
    rw [e,e2]
    omega
theorem fitA {xs:List Int} (h:Sm8 xs) (hl:xs.length ≤ 8):Fit (xs.map lA):=⟨by simpa using hl,fun x hx => by
 obtain ⟨z,hz,rfl⟩:=List.mem_map.1 hx
 exact lA_ok (h z hz)⟩
theorem fitB {ys:List Int} {lo:Int} (h:Sm8 ys) (h0:0 ≤ lo) (h1:lo + ys.length ≤ 1000) (hl:ys.length ≤ 8):Fit (chain lo ys):=⟨by rw [chain_length]; exact hl,fun x hx => by
 obtain ⟨s,z,rfl,h2,h3,h4⟩:=chain_mem _ _ x hx
 exact lB_ok (by omega) (h z h4)⟩
theorem stA_ok {xs:List Int} {lo:Int} {zs:List Int} (hx:Sm8 xs) (hz:Sm8 zs) (hl:xs.length ≤ 8) (h0:0 ≤ lo) (h1:lo + zs.length ≤ 1000) (h2:zs.length ≤ 32):(stA xs lo zs).ok BB:=by
 have hf:=fresh_ok ka_k
 refine ⟨hf.jo,hf.jr,hf.j16,hf.jv,hf.jt,fitA hx hl,⟨ka_k,?_,?_,?_,?_,?_,ord_chain zs lo h0 rfl⟩,⟨by show 0 < 3; omega,fun h => absurd h (by show ¬ 0 < 0; omega)⟩,Ac.fit_nil⟩
 · show (serA (lo + zs.length)).Pairwise _
   unfold serA
   split
   · exact .nil
   · exact List.pairwise_singleton _ _
 · show ∀ e ∈ serA (lo + zs.length),Kk e.1 ∧ 1 ≤ e.2 ∧ e.2 ≤ BB
   unfold serA
   split
   · intro e he; cases he
   · intro e he
     rw [List.mem_singleton.1 he]
     exact ⟨kb_k,by simp only; omega,by simp only [BB]; omega⟩
 · show (serA (lo + zs.length)).length ≤ 64
   unfold serA
   split <;> simp
 · show ((chain lo zs).map fun x => (kb,x)).length ≤ 32
   rw [List.length_map,chain_length]
   exact h2
 · intro x hx
   obtain ⟨y,hy,rfl⟩:=List.mem_map.1 hx
   obtain ⟨s,z,rfl,h3,h4,h5⟩:=chain_mem _ _ y hy
   exact ⟨kb_k,(lB_ok (by omega) (hz z h5)).1,(lB_ok (by omega) (hz z h5)).2,rfl⟩
structure Jb (jn:Jn.S) (lo:Int):Prop where
 jo:Jn.Ok jn
 jr:Jn.Rg jn
 j16:jn.2.1.length ≤ 16
 jv:(jn.2.1.length:Int) ≤ jn.2.2
 v:jn.2.2 = lo
 z:jn.2.2 = 0 → jn = Jn.s0
 reg:gi (Jn.sts jn.1 jn.2.1) 1 = lo
theorem Jb.zero:Jb Jn.s0 0:=⟨Jn.Ok.s0,Ac.rg0,by simp [Jn.s0],by simp [Jn.s0],rfl,fun _ => rfl,rfl⟩
theorem fold_sts (s:Jn.S) (n:Nat):Jn.sts (Jn.foldS s n).1 (Jn.foldS s n).2.1 = Jn.sts s.1 s.2.1:=by
 show Jn.sts (Jn.sts s.1 (s.2.1.take n)) (s.2.1.drop n) = _
 rw [← Jn.sts_append,List.take_append_drop]
theorem sts_range (es:List Jn.Ev):∀ b:List Int,(∀ x ∈ b,Jn.I64 x) → (∀ e ∈ es,Jn.I64 e.2) → ∀ x ∈ Jn.sts b es,Jn.I64 x:=by
 induction es with
 | nil => intro b hb _ x hx; exact hb x hx
 | cons e r ih =>
  intro b hb he
  refine ih (Jn.st1 b e) (fun x hx => ?_) fun y hy => he y (by simp [hy])
  rcases List.mem_or_eq_of_mem_set hx with h | h
  · exact hb x h
  · rw [h]; exact he e (by simp)
theorem Jb.add {jn:Jn.S} {lo:Int} (h:Jb jn lo) (h0:0 ≤ lo) (h1:lo ≤ 1000):(Jn.addS jn [(1,lo + 1)]).1 = 0 ∧ Jb (Jn.addS jn [(1,lo + 1)]).2 (lo + 1):=by
 have hb:([(1,lo + 1)]:List Jn.Ev).any Jn.bad = false:=rfl
 have hw:IntKind.u64.wrap (jn.2.2 + (([(1,lo + 1)]:List Jn.Ev).length:Nat)) = lo + 1:=by
  rw [h.v]
  have e:lo + (([(1,lo + 1)]:List Jn.Ev).length:Nat) = ((lo + 1).toNat:Int):=by
   simp only [List.length_singleton]
   omega
  rw [e,wr64 _ (by omega)]
  omega
 have e:Jn.addS jn [(1,lo + 1)] = (0,Jn.foldS (jn.1,jn.2.1 ++ [(1,lo + 1)],lo + 1) ((jn.2.1 ++ [(1,lo + 1)]).length - 16)):=by
  unfold Jn.addS
  rw [hb,if_neg (by simp),hw]
 have hi:Jn.I64 (lo + 1):=by unfold Jn.I64; omega
 have hev:∀ e ∈ jn.2.1 ++ [(1,lo + 1)],Jn.EvOk e ∧ Jn.I64 e.2:=fun e he => by
  rcases List.mem_append.1 he with he | he
  · exact ⟨h.jo.ev e he,h.jr.e e he⟩
  · rw [List.mem_singleton.1 he]
    exact ⟨by unfold Jn.EvOk; simp only; omega,hi⟩
 have hl:(jn.2.1 ++ [(1,lo + 1)]).length = jn.2.1.length + 1:=by simp
 have h16:=h.j16
 have hjv:=h.jv
 have hv:=h.v
 rw [e]
 refine ⟨rfl,⟨⟨?_,?_,fun x hx => (hev x (List.mem_of_mem_drop hx)).1⟩,⟨?_,?_,fun x hx => (hev x (List.mem_of_mem_drop hx)).2⟩,?_,?_,rfl,fun h9 => ?_,?_⟩⟩
 · show (Jn.sts jn.1 _).length = 8
   rw [Jn.sts_length]
   exact h.jo.b8
 · show ((jn.2.1 ++ [(1,lo + 1)]).drop _).length ≤ 600
   rw [List.length_drop,hl]
   omega
 · show 0 ≤ lo + 1 ∧ lo + 1 ≤ 18446744073709551615
   omega
 · exact sts_range _ _ h.jr.r fun x hx => (hev x (List.mem_of_mem_take hx)).2
 · show ((jn.2.1 ++ [(1,lo + 1)]).drop _).length ≤ 16
   rw [List.length_drop,hl]
   omega
 · show ((((jn.2.1 ++ [(1,lo + 1)]).drop _).length:Nat):Int) ≤ lo + 1
   rw [List.length_drop,hl]
   omega
 · exact absurd (show lo + 1 = 0 from h9) (by omega)
 · rw [fold_sts]
   show gi (Jn.sts jn.1 (jn.2.1 ++ [(1,lo + 1)])) 1 = lo + 1
   rw [Jn.sts_snoc]
   show gi ((Jn.sts jn.1 jn.2.1).set 1 (lo + 1)) 1 = lo + 1
   rw [Jn.gi_set _ _ _ _ (by rw [Jn.sts_length]; exact h.jo.b8) (by omega),if_pos rfl]
theorem stB_ok {jn:Jn.S} {lo:Int} {ys:List Int} (hj:Jb jn lo) (hy:Sm8 ys) (hl:ys.length ≤ 8) (h0:0 ≤ lo) (h1:lo + ys.length ≤ 1000):(stB jn lo ys).ok BB:=
 ⟨hj.jo,hj.jr,hj.j16,hj.jv,by show jn.2.2 ≤ 1000000000; rw [hj.v]; omega,fitB hy h0 h1 hl,(newO_ok kb_k).mono (by unfold BB; omega),⟨by show 0 < 3; omega,fun h => absurd h (by show ¬ 0 < 0; omega)⟩,Ac.fit_nil⟩
theorem num_3 {n:Int} (h:n < 65536):(num n).length ≤ 3:=by
 have hn:nb n ≤ 2:=by
  unfold nb
  split
  · omega
  · first | omega | (rw [if_pos h]; omega)
 unfold num
 split
 · simp
 · rw [List.length_cons,be_length]; omega
theorem num_1 {n:Int} (h:n < 248):(num n).length = 1:=by
 unfold num
 rw [if_pos h]
 rfl
theorem lb_len (x:L):(lb x).length = (num (x.1.size:Int)).length + x.1.size + (num x.2.1).length + (num (zz x.2.2.1)).length + (num (x.2.2.2.length:Int)).length + (ints x.2.2.2).length:=by
 unfold lb hb
 simp only [List.length_append,sb_length]
theorem ints_1 (x:Int):(ints [x]).length = (num (zz x)).length:=by simp [ints]
theorem zz_small {x:Int} (h:0 ≤ x ∧ x ≤ 255):zz x < 65536:=by unfold zz; split <;> omega
theorem lb_A {x:Int} (h:0 ≤ x ∧ x ≤ 255):(lb (lA x)).length ≤ 10:=by
 have h1:=lb_len (lA x)
 have h2:(num ((lA x).1.size:Int)).length = 1:=num_1 (show ((0:Nat):Int) < 248 by omega)
 have h3:(lA x).1.size = 0:=rfl
 have h4:(num (lA x).2.1).length = 1:=num_1 (show (1:Int) < 248 by omega)
 have h5:(num (zz (lA x).2.2.1)).length = 1:=num_1 (show zz 0 < 248 by decide)
 have h6:(num ((lA x).2.2.2.length:Int)).length = 1:=num_1 (show ((1:Nat):Int) < 248 by omega)
 have h7:(ints (lA x).2.2.2).length = (num (zz x)).length:=ints_1 x
 have h8:=num_3 (zz_small h)
 omega
theorem lb_B {s x:Int} (hs:s ≤ 1000) (h:0 ≤ x ∧ x ≤ 255):(lb (lB s x)).length ≤ 10:=by
 have h1:=lb_len (lB s x)
 have h2:(num ((lB s x).1.size:Int)).length = 1:=num_1 (show ((1:Nat):Int) < 248 by omega)
 have h3:(lB s x).1.size = 1:=rfl
 have h4:(num (lB s x).2.1).length ≤ 3:=num_3 (show s < 65536 by omega)
 have h5:(num (zz (lB s x).2.2.1)).length = 1:=num_1 (show zz 1 < 248 by decide)
 have h6:(num ((lB s x).2.2.2.length:Int)).length = 1:=num_1 (show ((1:Nat):Int) < 248 by omega)
 have h7:(ints (lB s x).2.2.2).length = (num (zz x)).length:=ints_1 x
 have h8:=num_3 (zz_small h)
 omega
theorem pkb_le:∀ xs:List L,(∀ x ∈ xs,(lb x).length ≤ 10) → (pkb xs).length ≤ 10 * xs.length
 | [],_ => by simp [pkb]
 | x :: r,h => by
  have h1:=h x (by simp)
  have h2:=pkb_le r fun y hy => h y (by simp [hy])
  have e:pkb (x :: r) = lb x ++ pkb r:=by simp [pkb]
  rw [e]
  simp only [List.length_append,List.length_cons]
  omega
theorem packL_le {xs:List L} (h:∀ x ∈ xs,(lb x).length ≤ 10) (hl:xs.length ≤ 9):(packL xs).length ≤ 91:=by
 have h1:=pkb_le xs h
 have h2:=num_1 (n:=(xs.length:Int)) (by omega)
 unfold packL
 split
 · simp only [List.length_append]; omega
 · simp
theorem outb_A:∀ (zs:List Int) (lo:Int),lo + zs.length ≤ 1000 → Sm8 zs → (outb ((chain lo zs).map fun x => (kb,x))).length ≤ 13 * zs.length
 | [],_,_,_ => by simp [chain,outb]
 | z :: r,lo,h0,h => by
  simp only [List.length_cons] at h0
  have h1:=outb_A r (lo + 1) (by omega) h.tail
  have h2:=lb_B (s:=lo + 1) (x:=z) (by omega) (h z (by simp))
  have h3:(txt kb).length = 2:=rfl
  have h4:=num_1 (n:=((lb (lB (lo + 1) z)).length:Int)) (by omega)
  have e:outb ((chain lo (z :: r)).map fun x => (kb,x)) = (txt kb ++ txl (lb (lB (lo + 1) z))) ++ outb ((chain (lo + 1) r).map fun x => (kb,x)):=by simp [outb,chain]
  rw [e]
  simp only [txl,List.length_append,List.length_cons]
  omega
theorem encA_A {xs:List Int} {lo:Int} {zs:List Int} (hx:Sm8 xs) (hz:Sm8 zs) (hl:xs.length ≤ 9) (h1:lo + zs.length ≤ 1000) (h2:zs.length ≤ 32):(encA (stA xs lo zs)).length ≤ 570:=by
 have a1:(num ((0:Nat):Int)).length = 1:=rfl
 have a2:=txl_le (Jn.encJ Jn.s0)
 have a3:(Jn.encJ Jn.s0).length = 10:=by decide
 have a4:=txl_le (packL (xs.map lA))
 have a5:=packL_le (xs:=xs.map lA) (fun x hx' => by
  obtain ⟨z,hz',rfl⟩:=List.mem_map.1 hx'
  exact lb_A (hx z hz')) (by simpa using hl)
 have a6:=txl_le (encO (stA xs lo zs).out)
 have a7:(encO (stA xs lo zs).out).length ≤ 430:=by
  have b1:(txt ka).length = 2:=rfl
  have b2:=outb_A zs lo h1 hz
  have b3:=num_1 (n:=(((chain lo zs).map fun x => (kb,x)).length:Int)) (by rw [List.length_map,chain_length]; omega)
  have b4:(num ((serA (lo + zs.length)).length:Int)).length = 1:=num_1 (by unfold serA; split <;> simp)
  have b5:(serb (serA (lo + zs.length))).length ≤ 5:=by
   unfold serA
   split
   · simp [serb]
   · have c1:(txt kb).length = 2:=rfl
     have c2:=num_3 (n:=lo + zs.length) (by omega)
     simp only [serb,List.flatMap_cons,List.flatMap_nil,List.append_nil,List.length_append]
     omega
  have e:encO (stA xs lo zs).out = txt ka ++ (num (serA (lo + zs.length)).length ++ (serb (serA (lo + zs.length)) ++ (num ((chain lo zs).map fun x => (kb,x)).length ++ outb ((chain lo zs).map fun x => (kb,x))))):=rfl
  rw [e]
  simp only [List.length_append]
  omega
 have a8:=txl_le (packL [])
 have a9:(packL []).length = 1:=by decide
 have e:encA (stA xs lo zs) = num ((0:Nat):Int) ++ (txl (Jn.encJ Jn.s0) ++ (txl (packL (xs.map lA)) ++ (txl (encO (stA xs lo zs).out) ++ txl (packL [])))):=rfl
 rw [e]
 simp only [List.length_append]
 omega
theorem encA_B {jn:Jn.S} {lo:Int} {ys:List Int} (hj:Jb jn lo) (hy:Sm8 ys) (hl:ys.length ≤ 8) (h1:lo + ys.length ≤ 1000):(encA (stB jn lo ys)).length ≤ 520:=by
 have a1:(num ((0:Nat):Int)).length = 1:=rfl
 have a2:=txl_le (Jn.encJ jn)
 have a3:=Jn.encJ_le jn hj.jo.b8
 have a0:=hj.j16
 have a4:=txl_le (packL (chain lo ys))
 have a5:=packL_le (xs:=chain lo ys) (fun x hx => by
  obtain ⟨s,z,rfl,h2,h3,h4⟩:=chain_mem _ _ x hx
  exact lb_B (by omega) (hy z h4)) (by rw [chain_length]; omega)
 have a6:=txl_le (encO (newO kb))
 have a7:(encO (newO kb)).length = 4:=by decide
 have a8:=txl_le (packL [])
 have a9:(packL []).length = 1:=by decide
 have e:encA (stB jn lo ys) = num ((0:Nat):Int) ++ (txl (Jn.encJ jn) ++ (txl (packL (chain lo ys)) ++ (txl (encO (newO kb)) ++ txl (packL [])))):=rfl
 rw [e]
 simp only [List.length_append]
 omega
theorem akey_ab:(akey ka).size = 2 ∧ (akey kb).size = 2:=⟨by rw [akey_size]; rfl,by rw [akey_size]; rfl⟩
theorem room_P1 {a:Am} (p:Nat) (hk:(akey a.out.own).size = 2) (h:(encA a).length ≤ 570):Gp.nbl (encL (chs [(p,a)] none none)) ≤ 3:=by
 have h1:=Bo.encL_le (chs [(p,a)] none none)
 have e:chs [(p,a)] none none = [(akey a.out.own,encA a,freshB a)]:=rfl
 have e1:sizeC (chs [(p,a)] none none) = (akey a.out.own).size + (encA a).length:=by rw [e]; simp [sizeC]
 have e3:(chs [(p,a)] none none).length = 1:=rfl
 unfold Gp.nbl
 omega
theorem room_R {a b:Am} (p q:Nat) (hk:(akey a.out.own).size = 2) (hk2:(akey b.out.own).size = 2) (h:(encA a).length ≤ 570) (h2:(encA b).length ≤ 520):Gp.nbl (encL (chs [(p,a),(q,b)] none none)) ≤ 5:=by
 have h1:=Bo.encL_le (chs [(p,a),(q,b)] none none)
 have e:chs [(p,a),(q,b)] none none = [(akey a.out.own,encA a,freshB a),(akey b.out.own,encA b,freshB b)]:=rfl
 have e1:sizeC (chs [(p,a),(q,b)] none none) = (akey a.out.own).size + (encA a).length + ((akey b.out.own).size + (encA b).length):=by rw [e]; simp [sizeC]
 have e3:(chs [(p,a),(q,b)] none none).length = 2:=rfl
 unfold Gp.nbl
 omega
def Wj (x:Wp.St) (j:Nat):Prop:=(∀ e ∈ x,0 ≤ e.1 ∧ e.1 < (j:Int) ∧ e.2 = [1]) ∧ x.length ≤ j
theorem Wj.nil:Wj [] 0:=⟨fun e he => (by cases he),Nat.le_refl _⟩
theorem Wj.sr {x:Wp.St} {j:Nat} (h:Wj x j):Wp.sr x j = []:=Wp.sr_none _ _ fun e he h9 => by have:=(h.1 e he).2.1; omega
theorem Wj.add {x:Wp.St} {j:Nat} (h:Wj x j):Wj (Wp.addX x j 1).2 (j + 1):=by
 have h0:=h.sr
 have hs:=h.2
 have hl:(∀ e ∈ Wp.laid x j 1,0 ≤ e.1 ∧ e.1 < ((j + 1:Nat):Int) ∧ e.2 = [1]) ∧ (Wp.laid x j 1).length ≤ j + 1:=by
  refine ⟨fun e he => ?_,?_⟩
  · rcases List.mem_append.1 he with he | he
    · have:=h.1 e (List.mem_filter.1 he).1
      exact ⟨this.1,by omega,this.2.2⟩
    · rw [List.mem_singleton.1 he,h0]
      exact ⟨by simp only; omega,by simp only; omega,rfl⟩
  · have:=List.length_filter_le (fun e:Int × List Int => decide (e.1 ≠ (j:Int))) x
    simp only [Wp.laid,Wp.rest,List.length_append,List.length_singleton]
    omega
 unfold Wp.addX
 rw [h0,if_neg (by simp)]
 unfold Wp.cut64
 simp only
 split
 · exact ⟨fun e he => hl.1 e (List.mem_of_mem_drop he),by rw [List.length_drop]; have:=hl.2; omega⟩
 · exact hl
theorem Wj.more {x:Wp.St} {j k:Nat} (h:Wj x j) (hk:j ≤ k):Wj x k:=⟨fun e he => by have:=h.1 e he; exact ⟨this.1,by omega,this.2.2⟩,Nat.le_trans h.2 hk⟩
theorem encEs_le:∀ x:Wp.St,(∀ e ∈ x,e.1 < 248 ∧ e.2 = [1]) → (x.flatMap We.encE).length ≤ 3 * x.length
 | [],_ => by simp
 | e :: r,h => by
  have h1:=encEs_le r fun y hy => h y (by simp [hy])
  obtain ⟨h2,h3⟩:=h e (by simp)
  have h4:=num_1 h2
  have h5:(We.encE e).length = 3:=by
   unfold We.encE
   rw [h3]
   simp only [List.length_append,h4]
   rfl
  simp only [List.flatMap_cons,List.length_append,List.length_cons]
  omega
theorem room_O {a:Am} {x:Wp.St} (p q:Nat) (hk:(akey a.out.own).size = 2) (h:(encA a).length ≤ 570) {j:Nat} (hx:Wj x j) (hj:j ≤ 41):Gp.nbl (encL (chs [(p,a)] none (some (q,x)))) ≤ 5:=by
 have h1:=Bo.encL_le (chs [(p,a)] none (some (q,x)))
 have e:chs [(p,a)] none (some (q,x)) = [(akey a.out.own,encA a,freshB a),(kw,We.encX x,false)]:=rfl
 have e1:sizeC (chs [(p,a)] none (some (q,x))) = (akey a.out.own).size + (encA a).length + (kw.size + (We.encX x).length):=by rw [e]; simp [sizeC]
 have e2:kw.size = 1:=rfl
 have e3:(chs [(p,a)] none (some (q,x))).length = 2:=rfl
 have h2:=encEs_le x fun e he => ⟨by have:=(hx.1 e he).2.1; omega,(hx.1 e he).2.2⟩
 have h3:=num_1 (n:=(x.length:Int)) (by have:=hx.2; omega)
 have h4:(We.encX x).length ≤ 130:=by
  unfold We.encX
  simp only [List.length_append]
  have:=hx.2
  omega
 unfold Gp.nbl
 omega
end Tp
end
