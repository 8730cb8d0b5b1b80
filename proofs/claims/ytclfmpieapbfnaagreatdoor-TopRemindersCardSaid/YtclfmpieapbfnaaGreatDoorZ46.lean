/-
  Part 46 of the proof of the statement that the last part ends in: lemmas, no conditions of their own.
-/
import Derived.Test.YtclfmpieapbfnaaGreatDoorZ45
set_option linter.unusedVariables false
set_option linter.unusedSimpArgs false
section
namespace Go.Proofs.YtclfmpieapbfnaaGreatDoor.Eg
open Go.RowKit B Cm Cr Ou Lt Lc
open Ac (Am fresh fresh_ok encA encA_le encA_byte freshB)
open Bo (Bp Bm Cg bst La Vb Cl ccells bare encL sizeC)
open Nd (Rm Inv rv setR serveR)
def remL (r:Rm):L:=(⟨#[]⟩,0,r.kind,[r.due])
def reminded (a:Am) (r:Rm):Am:={ a with inb:=a.inb ++ [remL r] }
theorem remL_ok {r:Rm} (h:Nd.Okr r):formed (remL r) = true ∧ Wf (remL r):=by
 refine ⟨?_,?_⟩
 · simp only [formed,remL]
   rfl
 · refine ⟨⟨by simp [remL],by simp [remL]⟩,h.k,fun i hi => ?_⟩
   have:i = 0:=by simp [remL] at hi; exact hi
   subst this
   exact h.d
theorem reminded_ok {a:Am} {r:Rm} {B:Int} (h:a.ok B) (hr:Nd.Okr r) (hl:a.inb.length < 8):(reminded a r).ok B:=by
 have h2:=remL_ok hr
 refine ⟨h.jo,h.jr,h.j16,h.jv,h.jt,⟨?_,fun x hx => ?_⟩,h.out,⟨h.tr.1,fun _ => by simp [reminded]⟩,h.poi⟩
 · simp only [reminded,List.length_append,List.length_singleton]; omega
 · rcases List.mem_append.1 hx with hx | hx
   · exact h.inb.2 x hx
   · rw [List.mem_singleton.1 hx]; exact h2
def Em.served (m:Em):Int × Rm × Em:=
 match serveR m.q m.clock with
 | (none,_) => (5,Nd.zr,m)
 | (some r,l) => if (m.act r.actor).inb.length < 8 then (0,r,(m.loaded r.actor).commit [(0,reminded (m.act r.actor) r)] (some (0,l)) none) else (7,Nd.zr,m.loaded r.actor)
def SvOut (w:World) (F:Nat → Prop) (p:Nat) (m:Em) (e:Ending) (w':World):Prop:=
 e = .returned (.tuple #[rv m.served.2.1,.int .i64 m.served.1]) ∧ ∃ F',En w' F' p m.served.2.2 ∧ Mv F F' w w'
structure Sx (w W:World) (F Q:Nat → Prop) (p:Nat) (m:Em) (q:Nat) (l:List Rm) (pz pu:Nat):Prop where
 en:En W F p m
 qo:Nd.Qo W Q q l
 bz:Blk W pz 71 #[.string ⟨#[]⟩,.string ⟨#[]⟩,.int .i64 0,.int .i64 0,.int .i64 0]
 bu:Blk W pu 143 #[.slice none 0 0,.pointer (some ⟨q,0,none⟩),.pointer none,.slice none 0 0]
 nz:¬ Q pz ∧ ¬ Q pu ∧ pz ≠ pu
 fq:∀ k,Q k → w.heap.size ≤ k
 fz:w.heap.size ≤ pz ∧ w.heap.size ≤ pu
 upd:Upd No w W
section
variable {w W W':World} {F Q:Nat → Prop} {p q pz pu:Nat} {m:Em} {l:List Rm}
theorem Sx.quiet (h:Sx w W F Q p m q l pz pu) (hu:Upd No W W'):Sx w W' F Q p m q l pz pu:=
 ⟨h.en.quiet hu,h.qo.quiet hu,h.bz.upd hu (no_ _),h.bu.upd hu (no_ _),h.nz,h.fq,h.fz,h.upd.next hu⟩
theorem Sx.al {o:Obj} (h:Sx w W F Q p m q l pz pu) (hW:W' = W.alloc o):Sx w W' F Q p m q l pz pu:=by rw [hW]; exact h.quiet ((Upd.refl _ _).alloc _)
theorem Sx.disj (h:Sx w W F Q p m q l pz pu) (hF:∀ k,F k → k < w.heap.size):∀ k,F k → ¬ Q k:=fun k hk hq => by have:=hF k hk; have:=h.fq k hq; omega
theorem Sx.served {Q':Nat → Prop} {l':List Rm} (h:Sx w W F Q p m q l pz pu) (hF:∀ k,F k → k < w.heap.size) (hq:Nd.Qo W' Q' q l') (hm:Mv Q Q' W W'):Sx w W' F Q' p m q l' pz pu:=by
 have h1:=h.bz.lt
 have h2:=h.bu.lt
 refine ⟨h.en.upd hm.upd (h.disj hF),hq,h.bz.upd hm.upd h.nz.1,h.bu.upd hm.upd h.nz.2.1,⟨fun hk => (hm.sub _ hk).elim h.nz.1 fun hs => by omega,fun hk => (hm.sub _ hk).elim h.nz.2.1 fun hs => by omega,h.nz.2.2⟩,fun k hk => (hm.sub k hk).elim (h.fq k) fun hs => Nat.le_trans h.upd.size hs,h.fz,h.upd.trans hm.upd fun i hi hk => by have:=h.fq i hk; omega⟩
theorem Sx.far (h:Sx w W F Q p m q l pz pu) (hF:∀ k,F k → k < w.heap.size):W.heap.size ≠ pz ∧ W.heap.size ≠ pu ∧ ¬ F W.heap.size ∧ w.heap.size ≤ W.heap.size:=by
 have h1:=h.bz.lt
 have h2:=h.bu.lt
 have h3:=h.upd.size
 exact ⟨by omega,by omega,fun hf => by have:=hF _ hf; omega,h3⟩
theorem Sx.box {g:Nat} (h:Sx w W F Q p m q l pz pu) (cs:Array Value) (hQ:¬ Q g) (hg:g ≠ pz ∧ g ≠ pu ∧ ¬ F g ∧ w.heap.size ≤ g):Sx w (W.setRow g cs) F Q p m q l pz pu:=by
 have hu:=Nd.Upd.setRow (w:=W) g cs
 exact ⟨h.en.upd hu fun k hk e => hg.2.2.1 (e ▸ hk),h.qo.upd hu fun k hk e => hQ (e ▸ hk),h.bz.upd hu (Ne.symm hg.1),h.bu.upd hu (Ne.symm hg.2.1),h.nz,h.fq,h.fz,h.upd.trans hu fun i hi e => by have:=hg.2.2.2; omega⟩
theorem Sx.boxw {g:Nat} {cs:Array Value} (h:Sx w W F Q p m q l pz pu) (hQ:¬ Q g) (hg:g ≠ pz ∧ g ≠ pu ∧ ¬ F g ∧ w.heap.size ≤ g) (hW:W' = W.setRow g cs):Sx w W' F Q p m q l pz pu:=by rw [hW]; exact h.box cs hQ hg
theorem Sx.cells (h:Sx w W F Q p m q l pz pu):W.cell? ⟨pu,1,none⟩ = some (.pointer (some ⟨q,0,none⟩)) ∧ W.cell? ⟨p,5,none⟩ = some (.int .i64 m.clock):=by
 obtain ⟨e,hs⟩:=h.en.ex
 obtain ⟨B,hb,_⟩:=Star.own hs 0 rfl
 exact ⟨by simpa using h.bu.cell 1,(ecells hb.1).2.1⟩
end
theorem sx_m {W W8:World} {Q:Nat → Prop} {o:Obj} (hQ:∀ k,Q k → k < W.heap.size) (h:W8 = W.alloc o):¬ Q W.heap.size:=fun hk => by have:=hQ _ hk; omega
theorem sx_md {W W8:World} {Q:Nat → Prop} {o:Obj} (hQ:∀ k,Q k → k < W.heap.size) (h:W8 = (W.alloc o).drew):¬ Q W.heap.size:=fun hk => by have:=hQ _ hk; omega
theorem sx_b {W W8:World} {t:TypeId} {cs:Array Value} (h:W8 = W.alloc (.cells cs t)):Blk W8 W.heap.size t cs:=by rw [h]; exact Blk.fresh _ _ _
theorem sx_bd {W W8:World} {t:TypeId} {cs:Array Value} (h:W8 = (W.alloc (.cells cs t)).drew):Blk W8 W.heap.size t cs:=by rw [h]; exact (Blk.fresh _ _ _).drew
theorem sx_row {W W':World} {g:Nat} {t:TypeId} {cs cs':Array Value} (h:Blk W g t cs) (hW:W' = W.setRow g cs'):Blk W' g t cs':=by rw [hW]; exact Nd.Blk.row h cs'
theorem sx_n {W W':World} {Q Q':Nat → Prop} {g:Nat} {t:TypeId} {cs:Array Value} (hB:Blk W g t cs) (hm:Mv Q Q' W W') (hn:¬ Q g):¬ Q' g:=fun hk => (hm.sub g hk).elim hn fun hs => by have:=hB.lt; omega
theorem actN_one (act:ByteArray → Am) (p p':Nat) (a:Am):actN act [(p,a)] = actN act [(p',a)]:=by
 funext s
 by_cases h:a.out.own = s <;> simp [actN,h]
theorem commit_one (m:Em) (p p' q q':Nat) (a:Am) (l:List Rm):m.commit [(p,a)] (some (q,l)) none = m.commit [(p',a)] (some (q',l)) none:=by
 unfold Em.commit
 rw [actN_one m.act p p' a]
 rfl
theorem commit_onew (m:Em) (p p' q q':Nat) (a:Am) (l:Wp.St):m.commit [(p,a)] none (some (q,l)) = m.commit [(p',a)] none (some (q',l)):=by
 unfold Em.commit
 rw [actN_one m.act p p' a]
 rfl
def syr (pz pu p6:Nat) (cu:Array Value) (r:Rm):List Ob:=
 [Ob.blk pz 71 #[.string ⟨#[]⟩,.string ⟨#[]⟩,.int .i64 0,.int .i64 0,.int .i64 0],Ob.blk pu 143 cu,Ob.blk p6 71 #[.string r.actor,.string r.name,.int .i64 r.due,.int .i64 r.per,.int .i64 r.kind]]
def syl (pa:Nat) (a:Am) (q:Nat) (l:List Rm) (pz pu p6:Nat) (cu:Array Value) (r:Rm):List Ob:=acO (pa,a) :: qoO q l :: syr pz pu p6 cu r
structure Sy (w W:World) (F F5 V:Nat → Prop) (p:Nat) (m:Em) (L:List Ob):Prop where
 en:En W F5 p m
 st:Star L W V
 vf:∀ k,V k → ¬ F5 k ∧ w.heap.size ≤ k
 sub:∀ k,F5 k → F k ∨ w.heap.size ≤ k
 upd:Upd F w W
section
variable {w W W':World} {F F5 V:Nat → Prop} {p:Nat} {m m':Em} {L:List Ob} {pa q pz pu p6:Nat} {a:Am} {l:List Rm} {cu:Array Value} {r:Rm}
theorem Sy.quiet (h:Sy w W F F5 V p m L) (hu:Upd No W W'):Sy w W' F F5 V p m L:=⟨h.en.quiet hu,h.st.quiet hu,h.vf,h.sub,h.upd.trans hu fun _ _ h => h.elim⟩
theorem Sy.kept (h:Sy w W F F5 V p m L) (hk:Kept W F5 p m' W'):∃ F6,Sy w W' F F6 V p m' L:=by
 obtain ⟨F6,h1,h2⟩:=hk
 have hs:=h.upd.size
 refine ⟨F6,h1,h.st.keep h2.upd fun k hk hf => (h.vf k hk).1 hf,fun k hk => ⟨fun hf => (h2.sub k hf).elim (h.vf k hk).1 fun h9 => by have:=h.st.lt k hk; omega,(h.vf k hk).2⟩,fun k hk => (h2.sub k hk).elim (h.sub k) fun h9 => .inr (by omega),h.upd.trans h2.upd fun i hi hf => (h.sub i hf).elim id fun h9 => by omega⟩
theorem Sy.stored (h:Sy w W F F5 V p m (syl pa a q l pz pu p6 cu r)) (i:Nat) (u:Value):∃ V',Sy w (W.setCell ⟨pu,i,none⟩ u) F F5 V' p m (syl pa a q l pz pu p6 (cu.setIfInBounds i u) r):=by
 obtain ⟨B,hb,hbV,hput⟩:=h.st.at_ 3 (o:=Ob.blk pu 143 cu) rfl
 obtain ⟨g1,g2⟩:=Ob.blk_put hb i u
 obtain ⟨V',k1,k2⟩:=hput _ B _ g2 g1
 have hs:=h.upd.size
 have hl:=h.en.lt
 exact ⟨V',h.en.upd g2.upd fun k hk hB => (h.vf k (hbV k hB)).1 hk,k1,fun k hk => (k2.sub k hk).elim (h.vf k) fun h9 => ⟨fun hf => by have:=hl k hf; omega,by omega⟩,h.sub,h.upd.trans g2.upd fun i hi hB => by have:=(h.vf i (hbV i hB)).2; omega⟩
theorem sy_push {T:List Ob} (h:Sy w W F F5 V p m (acO (pa,a) :: T)):∃ pi,W.cell? ⟨pa,1,none⟩ = some (.pointer (some ⟨pi,0,none⟩)) ∧ ∀ W8,Upd No W W8 → W8.cell? ⟨pa,1,none⟩ = some (.pointer (some ⟨pi,0,none⟩)) ∧ ∀ x u,In W8 x u →
 Calls Tryz.prog 51 #[.pointer (some ⟨pi,0,none⟩),val x u] W8 fun e w' => e = .returned (.int .i64 (Ib.pushL a.inb x).1) ∧ w'.cell? ⟨pa,1,none⟩ = some (.pointer (some ⟨pi,0,none⟩)) ∧ ∃ V',Sy w w' F F5 V' p m (acO (pa,{ a with inb:=(Ib.pushL a.inb x).2 }) :: T):=by
 obtain ⟨A,⟨pj,pi,po,n,v,haw⟩,hAV,hput⟩:=h.st.at_ 0 (o:=acO (pa,a)) rfl
 refine ⟨pi,haw.cells.2.1,fun W8 hu => ⟨(haw.quiet hu).cells.2.1,fun x u hx => ?_⟩⟩
 obtain ⟨B,hib,hBA,hput2⟩:=(haw.quiet hu).st.at_ 2 (o:=Ac.ibO pi a.inb) rfl
 refine (Ib.push pi a.inb B x u W8 hib hx).mono ?_
 rintro e w' ⟨rfl,B',hib',hm'⟩
 obtain ⟨A',hst',hm2⟩:=hput2 w' B' (Ac.ibO pi (Ib.pushL a.inb x).2) hm' hib'
 have hm3:Mv A A' W w':=⟨(hu.mono fun _ _ h => h.elim).next hm2.upd,fun k hk => (hm2.sub k hk).imp id fun h9 => Nat.le_trans hu.size h9⟩
 obtain ⟨V',hst3,hm4⟩:=hput w' A' (acO (pa,{ a with inb:=(Ib.pushL a.inb x).2 })) hm3 ⟨pj,pi,po,n,v,hst',haw.few⟩
 have hs:=h.upd.size
 have hl:=h.en.lt
 have haw':Ac.Aw w' A' pa { a with inb:=(Ib.pushL a.inb x).2 } pj pi po n v:=⟨hst',haw.few⟩
 exact ⟨rfl,haw'.cells.2.1,V',h.en.upd hm3.upd fun k hk hA => (h.vf k (hAV k hA)).1 hk,hst3,fun k hk => (hm4.sub k hk).elim (h.vf k) fun h9 => ⟨fun hf => by have:=hl k hf; omega,by omega⟩,h.sub,h.upd.trans hm3.upd fun i hi hA => by have:=(h.vf i (hAV i hA)).2; omega⟩
theorem sy_split (h:Sy w W F F5 V p m (syl pa a q l pz pu p6 cu r)):∃ V1 V2,Star [acO (pa,a),qoO q l] W V1 ∧ Star (syr pz pu p6 cu r) W V2 ∧ (∀ k,V1 k → ¬ V2 k) ∧ (∀ k,V1 k → V k) ∧ ∀ k,V2 k → V k:=
 Star.split (l1:=[acO (pa,a),qoO q l]) h.st
theorem sy_commit (h:Sy w W F F5 V p m (syl pa a q l pz pu p6 cu r)) (htd:m.tidy) {A:Option Addr} {c:Nat} (hrow:Rd W 1 A 1 [.pointer (some ⟨pa,0,none⟩)]) (hg:∀ ad,A = some ad → ¬ F5 ad.block) (hc:1 ≤ c ∧ c ≤ maxLen) (hok:a.ok BB ∧ (a.jn.2.2 = 0 → a.jn = Jn.s0)) (hl:Inv l)
 (hn:m.n + 200 ≤ 400000) (hroom:Gp.nbl (encL (chs [(0,a)] (some (0,l)) none)) ≤ m.bk.lg.count - m.bk.lg.used) :
 Calls Tryz.prog 54 #[.pointer (some ⟨p,0,none⟩),.agg #[.slice A 1 c,.pointer (some ⟨q,0,none⟩),.pointer none,.slice none 0 0]] W fun e w' => e = .returned (.int .i64 0) ∧ ∃ F6 V',Sy w w' F F6 V' p (m.commit [(0,a)] (some (0,l)) none) (syr pz pu p6 cu r):=by
 obtain ⟨V1,V2,h1,h2,h3,h4,h5⟩:=sy_split h
 have hs:=h.upd.size
 have hlt:=h.en.lt
 have hsz:sizeC (chs [(0,a)] (some (0,l)) none) ≤ 40000:=by
  have g1:=encA_le hok.1
  have g2:=encQ_small hl
  have g3:=akey_size a.out.own
  have g4:=hok.1.out.key.2
  have e:chs [(0,a)] (some (0,l)) none = [(akey a.out.own,encA a,freshB a),(kr,Nd.encQ l,false)]:=rfl
  rw [e]
  have e2:kr.size = 1:=rfl
  simp [sizeC]
  omega
 refine (commit_ (F:=F5) (V:=V1) (ac:=[(pa,a)]) (qv:=some (q,l)) (wv:=none) (A:=A) (c:=c) ⟨h.en,htd,h1,fun k hk => (h.vf k (h4 k hk)).1,hrow,fun _ => hg,hc,fun x hx => by rw [List.mem_singleton.1 hx]; exact hok,by simp,fun x hx => (by injection hx with hx; subst hx; exact hl),fun x hx => (by cases hx),by simp,by simp [chs,qC],hsz,hroom,hn,.inr rfl⟩).mono ?_
 rintro e w' ⟨rfl,F6,hen,hu,hsub⟩
 rw [commit_one m pa 0 q 0 a l] at hen
 have hs2:=hu.size
 have hlt2:=h2.lt
 refine ⟨rfl,F6,V2,hen,h2.keep hu fun k hk hf => (h.vf k (h5 k hk)).1 hf,fun k hk => ⟨fun hf => ?_,(h.vf k (h5 k hk)).2⟩,fun k hk => ?_,h.upd.trans hu fun i hi hf => (h.sub i hf).elim id fun h9 => by omega⟩
 · rcases hsub k hf with h9 | h9 | h9
   · exact (h.vf k (h5 k hk)).1 h9
   · exact h3 k h9 hk
   · have:=hlt2 k hk; omega
 · rcases hsub k hk with h9 | h9 | h9
   · exact h.sub k h9
   · exact .inr (h.vf k (h4 k h9)).2
   · exact .inr (by omega)
theorem sy_boxes (h:Sy w W F F5 V p m (syr pz pu p6 cu r)):Blk W pz 71 #[.string ⟨#[]⟩,.string ⟨#[]⟩,.int .i64 0,.int .i64 0,.int .i64 0] ∧ Blk W pu 143 cu ∧ Blk W p6 71 #[.string r.actor,.string r.name,.int .i64 r.due,.int .i64 r.per,.int .i64 r.kind]:=by
 obtain ⟨_,h1,_⟩:=Star.own h.st 0 rfl
 obtain ⟨_,h2,_⟩:=Star.own h.st 1 rfl
 obtain ⟨_,h3,_⟩:=Star.own h.st 2 rfl
 exact ⟨h1.1,h2.1,h3.1⟩
theorem Sy.rest (h:Sy w W F F5 V p m (syl pa a q l pz pu p6 cu r)):Sy w W F F5 V p m (syr pz pu p6 cu r):=⟨h.en,h.st.pop.pop,h.vf,h.sub,h.upd⟩
theorem sy_end (h:Sy w W F F5 V p m (syr pz pu p6 cu r)) (hu:Upd (fun k => k = pz) W W'):En W' F5 p m ∧ Mv F F5 w W':=by
 obtain ⟨B,h1,hB⟩:=Star.own h.st 0 rfl
 obtain ⟨hf,hz⟩:=h.vf pz (hB pz ((h1.2 pz).2 rfl))
 exact ⟨h.en.upd hu fun k hk e => hf (e ▸ hk),h.upd.trans hu fun i hi e => by omega,h.sub⟩
theorem sy_of {W5 W6:World} {Q G:Nat → Prop} (hF:∀ k,F k → k < w.heap.size) (h:Sx w W F Q p m q l pz pu) (hb:Blk W p6 71 #[.string r.actor,.string r.name,.int .i64 r.due,.int .i64 r.per,.int .i64 r.kind]) (hn:¬ Q p6) (hg:p6 ≠ pz ∧ p6 ≠ pu ∧ ¬ F p6 ∧ w.heap.size ≤ p6)
 (hen:En W5 F5 p m') (hm:Mv F F5 W W5) (hat:Ac.At W6 G pa a) (hfr:∀ k,G k → W5.heap.size ≤ k) (hu:Upd No W5 W6):∃ V,Sy w W6 F F5 V p m' (syl pa a q l pz pu p6 #[.slice none 0 0,.pointer (some ⟨q,0,none⟩),.pointer none,.slice none 0 0] r):=by
 have hFQ:=h.disj hF
 have hs1:=h.upd.size
 have hs5:=hm.upd.size
 have hs6:=hu.size
 have hbz:=h.bz.lt
 have hbu:=h.bu.lt
 have hb6:=hb.lt
 have hQl:=h.qo.lt
 have hfz:¬ F pz:=fun hf => by have:=hF _ hf; have:=h.fz.1; omega
 have hfu:¬ F pu:=fun hf => by have:=hF _ hf; have:=h.fz.2; omega
 have hu6:Upd F W W6:=hm.upd.trans hu fun _ _ h => h.elim
 have st:Star (syl pa a q l pz pu p6 #[.slice none 0 0,.pointer (some ⟨q,0,none⟩),.pointer none,.slice none 0 0] r) W6 (fun k => G k ∨ Q k ∨ k = pz ∨ k = pu ∨ k = p6):=by
  refine ⟨G,fun k => Q k ∨ k = pz ∨ k = pu ∨ k = p6,hat,⟨Q,fun k => k = pz ∨ k = pu ∨ k = p6,h.qo.upd hu6 fun k hk hf => hFQ k hf hk,⟨fun k => k = pz,fun k => k = pu ∨ k = p6,Ob.blk_is (h.bz.upd hu6 hfz),⟨fun k => k = pu,fun k => k = p6,Ob.blk_is (h.bu.upd hu6 hfu),⟨fun k => k = p6,No,Ob.blk_is (hb.upd hu6 hg.2.2.1),fun _ h => h.elim,fun _ _ h => h,fun _ h => h,fun _ h => h.elim,?_⟩,?_,?_,?_,?_⟩,?_,?_,?_,?_⟩,?_,?_,?_,?_⟩,?_,?_,?_,?_⟩
  · intro k hk; subst hk; omega
  · intro k hk e; subst hk; exact hg.2.1 e.symm
  · intro k hk; exact .inl hk
  · intro k hk; exact .inr hk
  · rintro k (hk | hk) <;> subst hk <;> omega
  · rintro k hk (e | e)
    · subst hk; exact h.nz.2.2 e
    · subst hk; exact hg.1 e.symm
  · intro k hk; exact .inl hk
  · intro k hk; exact .inr hk
  · rintro k (hk | hk | hk) <;> subst hk <;> omega
  · rintro k hk (e | e | e)
    · subst e; exact h.nz.1 hk
    · subst e; exact h.nz.2.1 hk
    · subst e; exact hn hk
  · intro k hk; exact .inl hk
  · intro k hk; exact .inr hk
  · rintro k (hk | hk | hk | hk)
    · have:=hQl k hk; omega
    · subst hk; omega
    · subst hk; omega
    · subst hk; omega
  · rintro k hk (e | e | e | e)
    · have:=hfr k hk; have:=hQl k e; omega
    · have:=hfr k hk; subst e; omega
    · have:=hfr k hk; subst e; omega
    · have:=hfr k hk; subst e; omega
  · intro k hk; exact .inl hk
  · intro k hk; exact .inr hk
  · rintro k (hk | hk | hk | hk | hk)
    · exact hat.lt k hk
    · have:=hQl k hk; omega
    · subst hk; omega
    · subst hk; omega
    · subst hk; omega
 have h5:=hen.lt
 have hnF:∀ k,k < W.heap.size → ¬ F k → ¬ F5 k:=fun k hk hf hf5 => (hm.sub k hf5).elim hf fun h9 => by omega
 refine ⟨_,hen.quiet hu,st,?_,fun k hk => (hm.sub k hk).imp id fun h9 => by omega,(h.upd.mono fun _ _ h => h.elim).next hu6⟩
 rintro k (hk | hk | hk | hk | hk)
 · have:=hfr k hk
   exact ⟨fun hf => by have:=h5 k hf; omega,by omega⟩
 · exact ⟨hnF k (hQl k hk) fun hf => hFQ k hf hk,h.fq k hk⟩
 · subst hk; exact ⟨hnF _ hbz hfz,h.fz.1⟩
 · subst hk; exact ⟨hnF _ hbu hfu,h.fz.2⟩
 · subst hk; exact ⟨hnF _ hb6 hg.2.2.1,hg.2.2.2⟩
theorem push_rem {xs:List Lt.L} {r0:Rm} (hr:Nd.Okr r0):Ib.pushL xs (remL r0) = if xs.length < 8 then (0,xs ++ [remL r0]) else (7,xs):=by
 unfold Ib.pushL
 rw [if_pos (remL_ok hr).1]
theorem serve_due {o:Option Rm} {l':List Rm} {r0:Rm} (hi:Inv m.q) (hs:serveR m.q m.clock = (o,l') ∧ r0 = o.getD Nd.zr ∧ true = o.isSome):serveR m.q m.clock = (some r0,l') ∧ Nd.Okr r0 ∧ Kk r0.actor ∧ Inv l':=by
 obtain ⟨h1,h2,h3⟩:=hs
 cases o with
 | none => cases h3
 | some x =>
  have hr:r0 = x:=h2
  subst hr
  have hr:Nd.Okr r0:=by
   unfold serveR at h1
   cases hd:Nd.dueR m.q m.clock with
   | none => rw [hd] at h1; cases h1
   | some x =>
    rw [hd] at h1
    obtain ⟨t,ht,_⟩:=Nd.due_mem hd
    injection h1 with g1 g2
    injection g1 with g1
    subst g1
    exact hi.ok _ (by rw [ht]; exact List.mem_cons_self)
  have h5:=hi.serve m.clock
  rw [h1] at h5
  exact ⟨h1,hr,⟨hr.r.2.2.1,hr.r.2.2.2.1⟩,h5⟩
theorem served_go {r0:Rm} (hs:serveR m.q m.clock = (some r0,l)) (h8:(m.act r0.actor).inb.length < 8):m.served = (0,r0,(m.loaded r0.actor).commit [(0,reminded (m.act r0.actor) r0)] (some (0,l)) none):=by
 unfold Em.served
 rw [hs]
 simp only [if_pos h8]
theorem served_full {r0:Rm} (hs:serveR m.q m.clock = (some r0,l)) (h8:¬ (m.act r0.actor).inb.length < 8):m.served = (7,Nd.zr,m.loaded r0.actor):=by
 unfold Em.served
 rw [hs]
 simp only [if_neg h8]
theorem in_rem {W W8:World} {r0:Rm} (h:W8 = W.alloc (.cells #[.int .i64 r0.due] 2)):In W8 (remL r0) (.slice (some ⟨W.heap.size,0,none⟩) 1 1):=by
 subst h
 refine ⟨_,_,rfl,?_,Nat.le_refl _,by simp [maxLen]⟩
 exact Rd_lit W 2 1 1 [.int .i64 r0.due] rfl
def PuOut (w:World) (F F5:Nat → Prop) (p:Nat) (m:Em) (L:List Ob) (pa pi p6:Nat) (r:Rm) (c:Int) (e:Ending) (w':World):Prop:=
 e = .returned (.int .i64 c) ∧ (w'.cell? ⟨pa,1,none⟩ = some (.pointer (some ⟨pi,0,none⟩)) ∧ w'.cell? ⟨p6,4,none⟩ = some (.int .i64 r.kind) ∧ w'.cell? ⟨p6,2,none⟩ = some (.int .i64 r.due)) ∧ ∃ V',Sy w w' F F5 V' p m L
theorem sy_b6 (h:Sy w W F F5 V p m (syl pa a q l pz pu p6 cu r)):W.cell? ⟨p6,4,none⟩ = some (.int .i64 r.kind) ∧ W.cell? ⟨p6,2,none⟩ = some (.int .i64 r.due):=by
 have h1:=(sy_boxes h.rest).2.2
 exact ⟨by simpa using h1.cell 4,by simpa using h1.cell 2⟩
theorem sy_pushed (h:Sy w W F F5 V p m' (syl pa a q l pz pu p6 cu r)) (hr:Nd.Okr r) {c:Int} {a':Am} (hc:(a.inb.length < 8 ∧ c = 0 ∧ a' = reminded a r) ∨ (¬ a.inb.length < 8 ∧ c = 7 ∧ a' = a)):∃ pi,∀ W8,Upd No W W8 →
 (W8.cell? ⟨pa,1,none⟩ = some (.pointer (some ⟨pi,0,none⟩)) ∧ W8.cell? ⟨p6,4,none⟩ = some (.int .i64 r.kind) ∧ W8.cell? ⟨p6,2,none⟩ = some (.int .i64 r.due)) ∧ ∀ u,In W8 (remL r) u →
  Calls Tryz.prog 51 #[.pointer (some ⟨pi,0,none⟩),.agg #[.string ⟨#[]⟩,.int .u64 0,.int .i64 r.kind,u]] W8 fun e w' => PuOut w F F5 p m' (syl pa a' q l pz pu p6 cu r) pa pi p6 r c e w':=by
 obtain ⟨pi,_,h2⟩:=sy_push (T:=qoO q l :: syr pz pu p6 cu r) h
 refine ⟨pi,fun W8 hu => ⟨⟨(h2 W8 hu).1,sy_b6 (h.quiet hu)⟩,fun u hx => ((h2 W8 hu).2 (remL r) u hx).mono ?_⟩⟩
 rintro e w' ⟨rfl,h3,V',h4⟩
 replace h4:Sy w w' F F5 V' p m' (syl pa { a with inb:=(Ib.pushL a.inb (remL r)).2 } q l pz pu p6 cu r):=h4
 have h5:=sy_b6 h4
 rw [push_rem hr] at h4 ⊢
 rcases hc with ⟨g1,rfl,rfl⟩ | ⟨g1,rfl,rfl⟩
 · rw [if_pos g1] at h4 ⊢
   exact ⟨rfl,⟨h3,h5⟩,V',h4⟩
 · rw [if_neg g1] at h4 ⊢
   exact ⟨rfl,⟨h3,h5⟩,V',h4⟩
theorem sy_row {W10:World} {A:Option Addr} {c:Nat} (h:Sy w W F F5 V p m (syl pa a q l pz pu p6 #[.slice none 0 0,.pointer (some ⟨q,0,none⟩),.pointer none,.slice none 0 0] r)) (ho:Sl W10 0 49 1 (.slice A 1 c) 1 [.pointer (some ⟨pa,0,none⟩)]) (hu:Upd No W W10) (hat:∀ ad,A = some ad → W.heap.size ≤ ad.block) :
 Blk W10 pu 143 #[.slice none 0 0,.pointer (some ⟨q,0,none⟩),.pointer none,.slice none 0 0] ∧ Blk (W10.setCell ⟨pu,0,none⟩ (.slice A 1 c)) pu 143 #[.slice A 1 c,.pointer (some ⟨q,0,none⟩),.pointer none,.slice none 0 0] ∧
  (∃ V',Sy w (W10.setCell ⟨pu,0,none⟩ (.slice A 1 c)) F F5 V' p m (syl pa a q l pz pu p6 #[.slice A 1 c,.pointer (some ⟨q,0,none⟩),.pointer none,.slice none 0 0] r)) ∧ Rd (W10.setCell ⟨pu,0,none⟩ (.slice A 1 c)) 1 A 1 [.pointer (some ⟨pa,0,none⟩)] ∧ (∀ ad,A = some ad → ¬ F5 ad.block) ∧ 1 ≤ c ∧ c ≤ maxLen:=by
 have h10:=h.quiet hu
 have hb0:=(sy_boxes h.rest).2.1
 have hb:=(sy_boxes h10.rest).2.1
 obtain ⟨A',c',e,hc1,hc2⟩:=ho.shape
 injection e with e1 _ e2
 subst e2
 refine ⟨hb,hb.put 0 _,h10.stored 0 _,Rd.upd ho.rd (by omega) (Upd.set1 (g:=pu) (Upd.refl _ _) 0 (.slice A 1 c)) fun ad e' hk => ?_,fun ad e' hk => ?_,hc1,hc2⟩
 · have:=hat ad e'
   have:=hb0.lt
   omega
 · have:=hat ad e'
   have:=h.en.lt _ hk
   omega
theorem sy_app {W10:World} {o:Obj} {A:Option Addr} {c:Nat} (h:Sy w W F F5 V p m (syl pa a q l pz pu p6 #[.slice none 0 0,.pointer (some ⟨q,0,none⟩),.pointer none,.slice none 0 0] r)) (ho:Sl W10 0 49 1 (.slice A (0 + 1) c) (0 + 1) ([] ++ [.pointer (some ⟨pa,0,none⟩)]))
 (hu:Upd (fun k => (Value.slice none 0 0).ownBlock = some k) (W.alloc o) W10) (hat:∀ g,(Value.slice A (0 + 1) c).ownBlock = some g → (Value.slice none 0 0).ownBlock = some g ∨ (W.alloc o).heap.size ≤ g) :
 (W10.cell? ⟨pu,0,none⟩ = some (.slice none 0 0) ∧ W10.frozen? ⟨pu,0,none⟩ = false) ∧ ((W10.setCell ⟨pu,0,none⟩ (.slice A 1 c)).cell? ⟨pu,0,none⟩ = some (.slice A 1 c) ∧ (W10.setCell ⟨pu,0,none⟩ (.slice A 1 c)).cell? ⟨pu,1,none⟩ = some (.pointer (some ⟨q,0,none⟩)) ∧ (W10.setCell ⟨pu,0,none⟩ (.slice A 1 c)).cell? ⟨pu,2,none⟩ = some (.pointer none) ∧ (W10.setCell ⟨pu,0,none⟩ (.slice A 1 c)).cell? ⟨pu,3,none⟩ = some (.slice none 0 0)) ∧
  (W10.cell? ⟨pu,1,none⟩ = some (.pointer (some ⟨q,0,none⟩)) ∧ W10.cell? ⟨pu,2,none⟩ = some (.pointer none) ∧ W10.cell? ⟨pu,3,none⟩ = some (.slice none 0 0)) ∧
  Hid ((∃ V',Sy w (W10.setCell ⟨pu,0,none⟩ (.slice A 1 c)) F F5 V' p m (syl pa a q l pz pu p6 #[.slice A 1 c,.pointer (some ⟨q,0,none⟩),.pointer none,.slice none 0 0] r)) ∧ Rd (W10.setCell ⟨pu,0,none⟩ (.slice A 1 c)) 1 A 1 [.pointer (some ⟨pa,0,none⟩)] ∧ (∀ ad,A = some ad → ¬ F5 ad.block) ∧ 1 ≤ c ∧ c ≤ maxLen):=by
 obtain ⟨h1,h2,h3⟩:=sy_row h ho (((Upd.refl No W).alloc o).next (hu.mono fun k _ hk => by cases hk)) fun ad e => by
  rcases hat ad.block (by rw [e]; rfl) with h9 | h9
  · cases h9
  · have:W.heap.size ≤ (W.alloc o).heap.size:=by simp
    exact Nat.le_trans this h9
 exact ⟨⟨by simpa using h1.cell 0,h1.free 0⟩,⟨by simpa using h2.cell 0,by simpa using h2.cell 1,by simpa using h2.cell 2,by simpa using h2.cell 3⟩,⟨by simpa using h1.cell 1,by simpa using h1.cell 2,by simpa using h1.cell 3⟩,hid h3⟩
theorem pa_info:(Tryz.prog.info? 49).map (fun i => (i.zero,i.size,i.bytes)) = some (some (.pointer none),1,8):=by kernel_rfl
theorem sx_pack {Q:Nat → Prop} {W:World} {g g':Nat} {t:TypeId} {cs:Array Value} {pz pu n:Nat} {F:Nat → Prop} (hb:Blk W g t cs) (hn:¬ Q g') (hg:g' ≠ pz ∧ g' ≠ pu ∧ ¬ F g' ∧ n ≤ g') (e:g' = g):Blk W g t cs ∧ ¬ Q g ∧ g ≠ pz ∧ g ≠ pu ∧ ¬ F g ∧ n ≤ g:=by
 subst e
 exact ⟨hb,hn,hg⟩
theorem in_remd {W W8:World} {r0:Rm} (h:W8 = (W.alloc (.cells #[.int .i64 r0.due] 2)).drew):In W8 (remL r0) (.slice (some ⟨W.heap.size,0,none⟩) 1 1):=by
 subst h
 exact (in_rem (W:=W) (r0:=r0) rfl).upd ((Upd.refl No _).drew) fun _ _ => no_ _
theorem name_of {W:World} {g:Nat} {t:TypeId} {cs:Array Value} (h:Blk W g t cs):∃ p6,p6 = g:=⟨_,rfl⟩
end
theorem serve_no {w W9 w5 w6:World} {F F5:Nat → Prop} {p pz:Nat} {m:Em} {o:Option Rm} {l':List Rm} {r0:Rm} (hs:serveR m.q m.clock = (o,l') ∧ r0 = o.getD Nd.zr ∧ false = o.isSome) (hz:¬ F pz) (hz2:w.heap.size ≤ pz) (hz3:pz < W9.heap.size) (hu:Upd No w W9) (hen:En w5 F5 p m) (hm:Mv F F5 W9 w5) (h6:Upd (fun k => k = pz) w5 w6) :
 SvOut w F p m (.returned (.tuple #[rv Nd.zr,.int .i64 5])) w6:=by
 obtain ⟨h1,h2,h3⟩:=hs
 cases o with
 | some r => cases h3
 | none =>
  have e:m.served = (5,Nd.zr,m):=by unfold Em.served; rw [h1]
  refine ⟨by rw [e],F5,?_,?_⟩
  · rw [e]
    exact hen.upd h6 fun k hk e' => by
     subst e'
     rcases hm.sub _ hk with h | h
     · exact hz h
     · omega
  · exact ⟨((hu.mono fun _ _ h => h.elim).next hm.upd).trans h6 fun i hi e' => by omega,fun k hk => (hm.sub k hk).imp id fun h => by have:=hu.size; omega⟩
set_option maxHeartbeats 8000000 in
set_option maxRecDepth 100000 in
theorem serve_ {w:World} {F:Nat → Prop} {p:Nat} {m:Em} (h:En w F p m) (htd:m.tidy) (hn:m.n + 210 ≤ 400000)
 (hroom:∀ r l,serveR m.q m.clock = (some r,l) → (m.act r.actor).inb.length < 8 → Gp.nbl (encL (chs [(0,reminded (m.act r.actor) r)] (some (0,l)) none)) ≤ m.bk.lg.count - m.bk.lg.used) :
 Calls Tryz.prog 20 #[.pointer (some ⟨p,0,none⟩)] w fun e w' => SvOut w F p m e w':=by
 have HH:=hid (And.intro h (And.intro htd (And.intro hn hroom)))
 have HZ:Hid (∃ w0 pz,w0 = w.alloc (.cells #[.string ⟨#[]⟩,.string ⟨#[]⟩,.int .i64 0,.int .i64 0,.int .i64 0] 71) ∧ pz = w.heap.size ∧ Blk w0 pz 71 #[.string ⟨#[]⟩,.string ⟨#[]⟩,.int .i64 0,.int .i64 0,.int .i64 0] ∧ Upd No w w0):=hid ⟨_,_,rfl,rfl,Blk.fresh _ _ _,(Upd.refl _ _).alloc _⟩
 clear h htd hn hroom
 go_enter Tryz.func20,Tryz.ntmps20
 go_wp2_with (fail)
 obtain ⟨w0,pz,hw0,hpz,hz0,hu0⟩:=HZ.out
 rw [← hw0]
 rw [← hpz]
 have HE0:=hid (HH.out.1.quiet hu0)
 have HZ0:=hid (And.intro hz0 (And.intro hu0 hpz))
 clear hw0 hz0 hu0 hpz HZ
 refine Calls.mono (gone_ HE0.out) ?_
 rintro e w1 ⟨rfl,rfl⟩
 go_wp2_with (fail)
 refine Calls.mono (reminders_ HE0.out) ?_
 rintro e w2 ⟨q,Q,rfl,hq,hfq,hu2⟩
 have HBu:Hid (∃ w3 pu,w3 = w2.alloc (.cells #[.slice none 0 0,.pointer (some ⟨q,0,none⟩),.pointer none,.slice none 0 0] 143) ∧ pu = w2.heap.size ∧ Sx w w3 F Q p m q m.q pz pu):=hid ⟨_,_,rfl,rfl,by
  obtain ⟨hz0,hu0,hpz⟩:=HZ0.out
  have hz2:=hz0.upd hu2 (no_ _)
  have s0:=hu0.size
  have s2:=hu2.size
  have l0:=hz0.lt
  have hal:=(Upd.refl No w2).alloc (.cells #[.slice none 0 0,.pointer (some ⟨q,0,none⟩),.pointer none,.slice none 0 0] 143)
  refine ⟨(HE0.out.quiet hu2).quiet hal,hq.quiet hal,hz2.upd hal (no_ _),Blk.fresh _ _ _,⟨fun hk => by have:=hfq _ hk; omega,fun hk => by have:=hq.lt _ hk; omega,by omega⟩,fun k hk => by have:=hfq k hk; omega,⟨by omega,by omega⟩,(hu0.next hu2).next hal⟩⟩
 obtain ⟨w3,pu,hw3,hpu,hX3⟩:=HBu.out
 have HX3:=hid hX3
 clear hq hfq hu2 hX3
 go_wp2_with (fail)
 rw [← hw3]
 rw [← hpu]
 clear hw3 hpu HBu
 obtain ⟨o,l',hsv⟩:∃ o l',serveR m.q m.clock = (o,l'):=⟨_,_,rfl⟩
 obtain ⟨r0,hr0⟩:∃ r0,r0 = o.getD Nd.zr:=⟨_,rfl⟩
 obtain ⟨ok,hok⟩:∃ ok,ok = o.isSome:=⟨_,rfl⟩
 have HSd:=hid (And.intro hsv (And.intro hr0 hok))
 have HF:Hid (∀ k,F k → k < w.heap.size):=hid HH.out.1.lt
 have HSv:Hid (∀ W Q,Sx w W F Q p m q m.q pz pu → Calls Tryz.prog 69 #[.pointer (some ⟨q,0,none⟩),.int .i64 m.clock] W fun e w' => e = .returned (.tuple #[.agg #[.string r0.actor,.string r0.name,.int .i64 r0.due,.int .i64 r0.per,.int .i64 r0.kind],.bool ok]) ∧ ∃ Q',Nd.Qo w' Q' q l' ∧ Mv Q Q' W w'):=hid fun W Q hX => by
  have h:=Nd.serve_ q Q m.q m.clock W hX.qo HH.out.1.ok.inv
  rw [hsv] at h
  refine h.mono ?_
  rintro e w' ⟨rfl,h2⟩
  exact ⟨by rw [hr0,hok]; rfl,h2⟩
 clear hsv hr0 hok
 have hX:=HX3.out.quiet ((Upd.refl _ _).drew)
 refine wp_region_held_drew (S:=fun W => W.cell? ⟨pu,1,none⟩ = some (.pointer (some ⟨q,0,none⟩)) ∧ W.cell? ⟨p,5,none⟩ = some (.int .i64 m.clock)) (by kernel_rfl) hX.cells (fun hS => ?_)
 refine zt 0 hS ?_
 refine zh 1 hS (fun w hw => hw.1) ?_
 refine zt 2 hS ?_
 refine zt 3 hS ?_
 refine zt 4 hS ?_
 refine zh 5 hS (fun w hw => hw.2) ?_
 refine rg_two 6 10 (by kernel_rfl) ?_ ?_
 focus
  refine zs 6 (fun K hK => ?_)
  go_simp
  refine Calls.mono (HSv.out _ _ hX) ?_
  rintro e4 w4 ⟨rfl,Q4,hq4,hm4⟩
  try (have hn6':=sx_n hB6 hm4 hn6; have hB6':=hB6.upd hm4.upd hn6; have hn6:=hn6'; have hB6:=hB6')
  have hX:=hX.served HF.out hq4 hm4
  try (have hBq:=hB6; obtain ⟨b0,b1,b2,b3,b4⟩:=Nd.box5 hBq; have f0:=hBq.free 0; have f1:=hBq.free 1; have f2:=hBq.free 2; have f3:=hBq.free 3; have f4:=hBq.free 4)
  clear hq4 hm4
  go_wp2_with (fail)
  refine hK.out _ _ (hX.cells) (fun hS => ?_)
  clear hK K
  try simp only [Act.put,zA,zB,zC]
  refine zt 7 hS ?_
  refine zt 8 hS ?_
  refine zt 9 hS ?_
  refine zk 10 (fun K hK => ?_)
  go_simp
  refine hK.out _ _ ((by exact (hX.quiet ((Upd.refl _ _).alloc _)).cells)) (fun hS => ?_)
  clear hK K
  try simp only [Act.put,zA,zB,zC]
  refine rg_world fun W8 hW8 => ?_
  first | have hB6:=sx_b hW8 | have hB6:=sx_bd hW8
  first | have hn6:=sx_m hX.qo.lt hW8 | have hn6:=sx_md hX.qo.lt hW8
  have hg6:=hX.far HF.out
  first | have hX:=hX.al hW8 | have hX:=hX.ald hW8
  have hS:=hX.cells
  obtain ⟨b0,b1,b2,b3,b4⟩:=Nd.box5 hB6
  have f0:=hB6.free 0
  have f1:=hB6.free 1
  have f2:=hB6.free 2
  have f3:=hB6.free 3
  have f4:=hB6.free 4
  clear hW8
  refine zk 11 (fun K hK => ?_)
  refine wp_store_row 71 (.tmp 6) (.tmp 27) (by rfl) _ #[.string r0.actor,.string r0.name,.int .i64 r0.due,.int .i64 r0.per,.int .i64 r0.kind] (by rfl) (by rfl) 71 _ hB6 (by kernel_rfl) (by rfl) (by simp [Value.oneCell']) ?_
  refine hK.out _ _ ((by exact (hX.box _ hn6 hg6).cells)) (fun hS => ?_)
  clear hK K
  try simp only [Act.put,zA,zB,zC]
  refine rg_world fun W9 hW9 => ?_
  have hX9:=hX.boxw hn6 hg6 hW9
  have hS:=hX9.cells
  have hB9:=sx_row hB6 hW9
  clear hW9
  refine zt 12 hS ?_
  refine wpAnyH_done (by kernel_rfl) ?_ _
 rotate_left 1
 focus
  refine zs 10 (fun K hK => ?_)
  go_simp
  refine hK.out _ _ ((by exact (hX.quiet ((Upd.refl _ _).alloc _)).cells)) (fun hS => ?_)
  clear hK K
  try simp only [Act.put,zA,zB,zC]
  refine rg_world fun W8 hW8 => ?_
  first | have hB6:=sx_b hW8 | have hB6:=sx_bd hW8
  first | have hn6:=sx_m hX.qo.lt hW8 | have hn6:=sx_md hX.qo.lt hW8
  have hg6:=hX.far HF.out
  first | have hX:=hX.al hW8 | have hX:=hX.ald hW8
  have hS:=hX.cells
  obtain ⟨b0,b1,b2,b3,b4⟩:=Nd.box5 hB6
  have f0:=hB6.free 0
  have f1:=hB6.free 1
  have f2:=hB6.free 2
  have f3:=hB6.free 3
  have f4:=hB6.free 4
  clear hW8
  refine zk 6 (fun K hK => ?_)
  go_simp
  refine Calls.mono (HSv.out _ _ hX) ?_
  rintro e4 w4 ⟨rfl,Q4,hq4,hm4⟩
  try (have hn6':=sx_n hB6 hm4 hn6; have hB6':=hB6.upd hm4.upd hn6; have hn6:=hn6'; have hB6:=hB6')
  have hX:=hX.served HF.out hq4 hm4
  try (have hBq:=hB6; obtain ⟨b0,b1,b2,b3,b4⟩:=Nd.box5 hBq; have f0:=hBq.free 0; have f1:=hBq.free 1; have f2:=hBq.free 2; have f3:=hBq.free 3; have f4:=hBq.free 4)
  clear hq4 hm4
  go_wp2_with (fail)
  refine hK.out _ _ (hX.cells) (fun hS => ?_)
  clear hK K
  try simp only [Act.put,zA,zB,zC]
  refine zt 7 hS ?_
  refine zt 8 hS ?_
  refine zt 9 hS ?_
  refine zk 11 (fun K hK => ?_)
  refine wp_store_row 71 (.tmp 6) (.tmp 27) (by rfl) _ #[.string r0.actor,.string r0.name,.int .i64 r0.due,.int .i64 r0.per,.int .i64 r0.kind] (by rfl) (by rfl) 71 _ hB6 (by kernel_rfl) (by rfl) (by simp [Value.oneCell']) ?_
  refine hK.out _ _ ((by exact (hX.box _ hn6 hg6).cells)) (fun hS => ?_)
  clear hK K
  try simp only [Act.put,zA,zB,zC]
  refine rg_world fun W9 hW9 => ?_
  have hX9:=hX.boxw hn6 hg6 hW9
  have hS:=hX9.cells
  have hB9:=sx_row hB6 hW9
  clear hW9
  refine zt 12 hS ?_
  refine wpAnyH_done (by kernel_rfl) ?_ _
 all_goals
  have HX9:=hid hX9
  have HB9:=hid (sx_pack hB9 hn6 hg6 rfl)
  clear hX9 hB9 hn6 hg6 hX hS
  rcases ok with _ | _
  case' false =>
   have HEn:=hid (end_ HX9.out.en 5 (by decide) (by decide))
   go_wp2_with (fail)
   refine Calls.mono HEn.out ?_
   rintro e5 w5 ⟨rfl,F5,hen5,hm5⟩
   have hz5:=HX9.out.bz.upd hm5.upd (fun hf => by have:=HF.out _ hf; have:=HX9.out.fz.1; omega)
   obtain ⟨x0,x1,x2,x3,x4⟩:=Nd.box5 hz5
   have f0:=hz5.free 0
   have f1:=hz5.free 1
   have f2:=hz5.free 2
   have f3:=hz5.free 3
   have f4:=hz5.free 4
   have HX5:=hid (And.intro hen5 hm5)
   have HZ5:=hid hz5
   clear hen5 hm5 HEn hz5
   go_wp2
   obtain ⟨q0,q1,q2,q3,q4⟩:=Nd.box5 (Nd.put5_blk HZ5.out Nd.zr)
   have hp5:=Nd.put5_upd w5 pz Nd.zr
   unfold Nd.put5 at q0 q1 q2 q3 q4 hp5
   simp only [Nd.zr] at q0 q1 q2 q3 q4 hp5
   refine bodyPost_ret (v:=.tuple #[rv Nd.zr,.int .i64 5]) (by simp [results,go_sem,q0,q1,q2,q3,q4,rv,Nd.zr]) rfl (serve_no HSd.out (fun hf => by have:=HF.out _ hf; have:=HX9.out.fz.1; omega) HX9.out.fz.1 HX9.out.bz.lt HX9.out.upd HX5.out.1 HX5.out.2 hp5)
  case' true =>
   obtain ⟨hs1,hok0,hk0,hil⟩:=serve_due HH.out.1.ok.inv HSd.out
   have HS1:=hid (And.intro hs1 (And.intro hok0 (And.intro hk0 hil)))
   have HLd:=hid (load_ HX9.out.en HH.out.2.1 hk0 (by have:=HH.out.2.2.1; omega))
   obtain ⟨p6,hp6⟩:=name_of HB9.out.1
   rw [← hp6] at HB9
   rw [← hp6]
   obtain ⟨x0,x1,x2,x3,x4⟩:=Nd.box5 HB9.out.1
   clear hs1 hok0 hk0 hil hp6
   go_wp2_with (fail)
   refine Calls.mono HLd.out ?_
   rintro e w5 ⟨qa,G5,F5,rfl,hat5,hen5,hm5⟩
   have HC:=hid (Ac.copied hat5 (HH.out.1.ok.act HS1.out.2.2.1) (by unfold BB; omega))
   have HX5:=hid (And.intro hen5 hm5)
   clear hat5 hen5 hm5 HLd x0 x1 x2 x3 x4
   go_wp2_with (fail)
   refine Calls.mono HC.out ?_
   rintro e w6 ⟨pa,G6,rfl,hat6,hf6,hu6⟩
   obtain ⟨V,hSy⟩:=sy_of HF.out HX9.out HB9.out.1 HB9.out.2.1 HB9.out.2.2 HX5.out.1 HX5.out.2 hat6 hf6 hu6
   have HSy:=hid hSy
   clear hat6 hf6 hu6 hSy HX5 HC HX9 HB9
   by_cases h8:(m.act r0.actor).inb.length < 8
   case' pos =>
    obtain ⟨pi,hpu⟩:=sy_pushed HSy.out HS1.out.2.1 (.inl ⟨h8,rfl,rfl⟩)
   case' neg =>
    obtain ⟨pi,hpu⟩:=sy_pushed HSy.out HS1.out.2.1 (.inr ⟨h8,rfl,rfl⟩)
   all_goals
    have HPu:=hid hpu
    have H8:=hid h8
    clear hpu h8
    go_wp2_with (fail)
    refine wp_region_held_drew (S:=fun W => W.cell? ⟨pa,1,none⟩ = some (.pointer (some ⟨pi,0,none⟩)) ∧ W.cell? ⟨p6,4,none⟩ = some (.int .i64 r0.kind) ∧ W.cell? ⟨p6,2,none⟩ = some (.int .i64 r0.due)) (by kernel_rfl) (HPu.out _ ((Upd.refl _ _).drew)).1 (fun hS => ?_)
    refine zt 0 hS ?_
    refine zt 1 hS ?_
    refine zt 2 hS ?_
    refine zh 3 hS (fun w hw => hw.1) ?_
    refine zt 4 hS ?_
    refine zh 5 hS (fun w hw => hw.2.1) ?_
    refine zt 6 hS ?_
    refine zh 7 hS (fun w hw => hw.2.2) ?_
    refine zk 8 (fun K hK => ?_)
    go_simp
    refine hK.out _ _ ((by first | exact (HPu.out _ ((Upd.refl _ _).alloc _)).1 | exact (HPu.out _ (((Upd.refl _ _).alloc _).drew)).1 | exact (HPu.out _ (((Upd.refl _ _).drew).alloc _)).1)) (fun hS => ?_)
    clear hK K
    try simp only [Act.put,zA,zB,zC]
    refine rg_world fun W8 hW8 => ?_
    first | have hi8:=in_rem hW8 | have hi8:=in_remd hW8
    have hu8:Upd No w6 W8:=by rw [hW8]; first | exact ((Upd.refl _ _).alloc _).drew | exact (Upd.refl _ _).alloc _ | exact ((Upd.refl _ _).drew).alloc _
    have hS:=(HPu.out _ hu8).1
    have HPc:=hid ((HPu.out _ hu8).2 _ hi8)
    clear hW8 hi8
    refine zt 9 hS ?_
    refine zk 10 (fun K hK => ?_)
    go_simp
    refine Calls.mono HPc.out ?_
    rintro e9 w9 ⟨rfl,hS9,V9,hsy9⟩
    go_wp2_with (fail)
    refine hK.out _ _ (hS9) (fun hS => ?_)
    clear hK K
    try simp only [Act.put,zA,zB,zC]
    refine zt 11 hS ?_
    refine wpAnyH_done (by kernel_rfl) ?_ _
    all_goals
     have HS9:=hid hsy9
     have hbu9:=(sy_boxes hsy9.rest).2.1
     have y0:w9.cell? ⟨pu,0,none⟩ = some (.slice none 0 0):=by simpa using hbu9.cell 0
     clear hsy9 hS9 hS HPc hu8 HPu hbu9
   · go_wp2_with (fail)
     refine Calls.mono (end_ HS9.out.en 7 (by decide) (by decide)) ?_
     rintro e w10 ⟨rfl,hk10⟩
     obtain ⟨F10,hs10⟩:=HS9.out.rest.kept hk10
     have hbz:=(sy_boxes hs10).1
     obtain ⟨x0,x1,x2,x3,x4⟩:=Nd.box5 hbz
     have f0:=hbz.free 0
     have f1:=hbz.free 1
     have f2:=hbz.free 2
     have f3:=hbz.free 3
     have f4:=hbz.free 4
     have HSe:=hid hs10
     have HZ:=hid hbz
     clear hs10 hbz hk10 y0
     go_wp2
     obtain ⟨q0,q1,q2,q3,q4⟩:=Nd.box5 (Nd.put5_blk HZ.out Nd.zr)
     have hp5:=Nd.put5_upd w10 pz Nd.zr
     unfold Nd.put5 at q0 q1 q2 q3 q4 hp5
     simp only [Nd.zr] at q0 q1 q2 q3 q4 hp5
     refine bodyPost_ret (v:=.tuple #[rv Nd.zr,.int .i64 7]) (by simp [results,go_sem,q0,q1,q2,q3,q4,rv,Nd.zr]) rfl ?_
     obtain ⟨g1,g2⟩:=sy_end HSe.out hp5
     have e7:=served_full HS1.out.1 H8.out
     exact ⟨by rw [e7],F10,by rw [e7]; exact g1,g2⟩
   · go_wp2_with (at_builtin; go_must (refine ap_sl 0 rfl (.tmp 53) (.tmp 55) 141 49 (.pointer none) 1 8 rfl Tryz.underlying141 pa_info rfl (by omega) (.slice none 0 0) 0 [] (some ⟨w9.heap.size,0,none⟩) 1 1 [.pointer (some ⟨pa,0,none⟩)] rfl rfl (Sl.nil _ _ _ _) (Rd_lit w9 _ 1 1 _ rfl) (by intro z hz; obtain rfl:=List.mem_singleton.1 hz; rfl) (by omega) (by omega) (Nat.zero_le _) ?_); intro A10 c10 w10 ho10 hu10 hat10; obtain ⟨⟨o10,f10⟩,⟨q0,q1,q2,q3⟩,⟨r1,r2,r3⟩,HR11⟩:=sy_app HS9.out ho10 hu10 hat10; clear ho10 hu10 hat10)
     obtain ⟨V11,hs11⟩:=HR11.out.1
     have HS11:=hid hs11
     clear hs11
     have HCm:=hid (sy_commit HS11.out (loaded_tidy _ _) HR11.out.2.1 HR11.out.2.2.1 HR11.out.2.2.2 ⟨reminded_ok (HH.out.1.ok.act HS1.out.2.2.1) HS1.out.2.1 H8.out,HH.out.1.ok.zer _ HS1.out.2.2.1⟩ HS1.out.2.2.2 (by have:=HH.out.2.2.1; show m.n + 1 + 200 ≤ 400000; omega) (HH.out.2.2.2 _ _ HS1.out.1 H8.out))
     refine Calls.mono HCm.out ?_
     rintro e w12 ⟨rfl,F6,V6,hs12⟩
     obtain ⟨e12,hst12,hc12⟩:=count_ hs12.en
     obtain ⟨B12,hb12,_⟩:=Star.own hst12 0 rfl
     obtain ⟨_,_,_,_,c8,_⟩:=ecells hb12.1
     have HC4:=hid (show Calls Tryz.prog 55 #[.pointer (some ⟨e12.pc,0,none⟩),.int .i64 4,.int .u64 1] w12 _ from hc12 4 (by omega))
     have HS12:=hid hs12
     clear hs12 hst12 hc12 hb12 HCm HR11 HS11 q0 q1 q2 q3 r1 r2 r3 f10 o10 y0
     go_wp2_with (fail)
     refine Calls.mono HC4.out ?_
     rintro e w13 ⟨n13,rfl,hk13⟩
     obtain ⟨F10,hs10⟩:=HS12.out.kept hk13
     obtain ⟨hbz,_,hb6⟩:=sy_boxes hs10
     obtain ⟨x0,x1,x2,x3,x4⟩:=Nd.box5 hbz
     obtain ⟨z0,z1,z2,z3,z4⟩:=Nd.box5 hb6
     have f0:=hbz.free 0
     have f1:=hbz.free 1
     have f2:=hbz.free 2
     have f3:=hbz.free 3
     have f4:=hbz.free 4
     have HSe:=hid hs10
     have HZ:=hid hbz
     clear hs10 hbz hb6 hk13 HC4 c8 HS12
     go_wp2
     obtain ⟨q0,q1,q2,q3,q4⟩:=Nd.box5 (Nd.put5_blk HZ.out r0)
     have hp5:=Nd.put5_upd w13 pz r0
     unfold Nd.put5 at q0 q1 q2 q3 q4 hp5
     refine bodyPost_ret (v:=.tuple #[rv r0,.int .i64 0]) (by simp [results,go_sem,q0,q1,q2,q3,q4,rv]) rfl ?_
     obtain ⟨g1,g2⟩:=sy_end HSe.out hp5
     have e7:=served_go HS1.out.1 H8.out
     exact ⟨by rw [e7],F10,by rw [e7]; exact g1,g2⟩
end Go.Proofs.YtclfmpieapbfnaaGreatDoor.Eg
end
