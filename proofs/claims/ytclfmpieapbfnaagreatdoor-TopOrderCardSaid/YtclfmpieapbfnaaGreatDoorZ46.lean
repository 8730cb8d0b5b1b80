/- Part 46: lemmas, no conditions. -/
import Derived.Test.YtclfmpieapbfnaaGreatDoorZ45
import Derived.Test.YtclfmpieapbfnaaGreatDoorZ43
import Derived.Test.YtclfmpieapbfnaaGreatDoorZ27
set_option maxHeartbeats 8000000
namespace Go.Proofs.YtclfmpieapbfnaaGreatDoor
set_option linter.unusedVariables false
set_option linter.unusedSimpArgs false
section
namespace Eg
open Go.RowKit B Cm Cr Cw Ou Lt Lc Pk
open Ac (Am fresh fresh_ok encA encA_le encA_byte freshB Fit)
open Bo (Bp Bm Cg bst La Vb Cl ccells bare encL sizeC)
open Nd (Rm Inv)
open Tp
def Em.picked (m:Em) (k:ByteArray) (a:Am):Em:=(m.loaded k).commit [(0,a)] none none
def Em.relayed (m:Em) (a b:Am):Em:=((m.loaded ka).loaded kb).commit [(0,a),(0,b)] none none
theorem commit_onea (m:Em) (p p':Nat) (a:Am):m.commit [(p,a)] none none = m.commit [(p',a)] none none:=by
 unfold Em.commit
 rw [actN_one m.act p p' a]
 rfl
theorem commit_two (m:Em) (p p' q q':Nat) (a b:Am):m.commit [(p,a),(q,b)] none none = m.commit [(p',a),(q',b)] none none:=by
 have e:actN m.act [(p,a),(q,b)] = actN m.act [(p',a),(q',b)]:=by
  funext s
  by_cases h:a.out.own = s <;> by_cases h2:b.out.own = s <;> simp [actN,h,h2]
 unfold Em.commit
 rw [e]
 rfl
theorem actN_hit (act:ByteArray → Am) (p:Nat) (a:Am) {k:ByteArray} (h:a.out.own = k):actN act [(p,a)] k = a:=by
 have:=actN_at act (ac:=[(p,a)]) (by simp) (List.mem_singleton.2 rfl)
 simp only [h] at this
 exact this
theorem actN_miss (act:ByteArray → Am) (p:Nat) (a:Am) {k:ByteArray} (h:a.out.own ≠ k):actN act [(p,a)] k = act k:=
 actN_away _ _ (by simp only [List.map_cons,List.map_nil,List.mem_singleton]; exact fun e => h e.symm)
theorem actN_two (act:ByteArray → Am) (p q:Nat) {a b:Am} (ha:a.out.own = ka) (hb:b.out.own = kb):actN act [(p,a),(q,b)] ka = a ∧ actN act [(p,a),(q,b)] kb = b:=by
 have hn:(([(p,a),(q,b)]:List (Nat × Am)).map fun x => x.2.out.own).Pairwise (· ≠ ·):=by
  simp only [List.map_cons,List.map_nil,ha,hb]
  exact List.pairwise_cons.2 ⟨fun x hx => by rw [List.mem_singleton.1 hx]; exact kab,List.pairwise_singleton _ _⟩
 have h1:=actN_at act hn (x:=(p,a)) (by simp)
 have h2:=actN_at act hn (x:=(q,b)) (by simp)
 simp only [ha,hb] at h1 h2
 exact ⟨h1,h2⟩
structure Os (m:Em) (pr:Value → Value → Ob) (s u j:Nat) (xs:List Int) (jn:Jn.S) (lo:Int) (ys zs:List Int):Prop where
 ok:m.ok
 tidy:m.tidy
 n:301 ≤ m.n ∧ m.n ≤ 2000 + 200 * s
 cnt:m.bk.lg.count = 2000
 used:m.bk.lg.used ≤ u
 clock:m.clock = 0
 nd:We.SerNd m.win
 win:Wj m.win j
 po:m.po = pr
 ea:m.act ka = stA xs (lo + ys.length) zs
 eb:m.act kb = stB jn lo ys
 jb:Jb jn lo
 lo0:0 ≤ lo
 top:lo + ys.length + zs.length + xs.length ≤ j
 x8:Sm8 xs ∧ xs.length ≤ 8
 y8:Sm8 ys ∧ ys.length ≤ 8
 z8:Sm8 zs ∧ zs.length ≤ 32
section
variable {m:Em} {pr:Value → Value → Ob} {s u j:Nat} {xs:List Int} {jn:Jn.S} {lo:Int} {ys zs:List Int}
theorem Os.more {s' u':Nat} (h:Os m pr s u j xs jn lo ys zs) (hs:s ≤ s') (hu:u ≤ u'):Os m pr s' u' j xs jn lo ys zs:=
 ⟨h.ok,h.tidy,by have:=h.n; omega,h.cnt,Nat.le_trans h.used hu,h.clock,h.nd,h.win,h.po,h.ea,h.eb,h.jb,h.lo0,h.top,h.x8,h.y8,h.z8⟩
theorem Os.loaded (h:Os m pr s u j xs jn lo ys zs) {k:ByteArray} (hok:(m.loaded k).ok):Os (m.loaded k) pr (s + 1) u j xs jn lo ys zs:=
 ⟨hok,loaded_tidy _ _,by have:=h.n; show 301 ≤ m.n + 1 ∧ m.n + 1 ≤ _; omega,h.cnt,h.used,h.clock,h.nd,h.win,h.po,h.ea,h.eb,h.jb,h.lo0,h.top,h.x8,h.y8,h.z8⟩
theorem Os.roomO (h:Os m pr s u j xs jn lo ys zs) (hj:j ≤ 40) (hu:u ≤ 1900) {x:Int} (hx:0 ≤ x ∧ x ≤ 255):Gp.nbl (encL (chs [(0,got (m.act ka) (lA x))] none (some (0,(Wp.addX m.win j 1).2)))) ≤ m.bk.lg.count - m.bk.lg.used:=by
 have h1:=h.top
 have h2:=h.lo0
 rw [h.ea,gotA]
 have:=room_O (x:=(Wp.addX m.win j 1).2) (a:=stA (xs ++ [x]) (lo + ys.length) zs) 0 0 akey_ab.1 (encA_A (h.x8.1.app hx) h.z8.1 (by have:=h.x8.2; simp; omega) (by omega) h.z8.2) h.win.add (by omega)
 have h3:=h.cnt
 have h4:=h.used
 omega
theorem Os.offered (h:Os m pr s u j xs jn lo ys zs) {x:Int} (hx:0 ≤ x ∧ x ≤ 255) (hj:j ≤ 40) (h8:xs.length < 8) {m':Em} (he:m' = (m.loaded ka).commit [(0,got (m.act ka) (lA x))] none (some (0,(Wp.addX m.win j 1).2))) (hok:m'.ok) :
 Os m' pr (s + 1) (u + 5) (j + 1) (xs ++ [x]) jn lo ys zs:=by
 have h1:=h.top
 have h2:=h.lo0
 have hg:got (m.act ka) (lA x) = stA (xs ++ [x]) (lo + ys.length) zs:=by rw [h.ea,gotA]
 have hr:=room_O (x:=(Wp.addX m.win j 1).2) (a:=stA (xs ++ [x]) (lo + ys.length) zs) 0 0 akey_ab.1 (encA_A (h.x8.1.app hx) h.z8.1 (by simp; omega) (by omega) h.z8.2) h.win.add (by omega)
 rw [hg] at he
 subst he
 refine ⟨hok,commit_tidy _ _ _ _,?_,h.cnt,?_,h.clock,h.nd.add _ _,h.win.add,h.po,?_,?_,h.jb,h2,?_,⟨h.x8.1.app hx,by simp; omega⟩,h.y8,h.z8⟩
 · have:=h.n
   show 301 ≤ m.n + 1 + 150 ∧ m.n + 1 + 150 ≤ _
   omega
 · have:=h.used
   show m.bk.lg.used + Gp.nbl (encL (chs [(0,stA (xs ++ [x]) (lo + ys.length) zs)] none (some (0,(Wp.addX m.win j 1).2)))) ≤ _
   omega
 · exact actN_hit m.act 0 (stA (xs ++ [x]) (lo + ys.length) zs) rfl
 · exact (actN_miss m.act 0 (stA (xs ++ [x]) (lo + ys.length) zs) (show ka ≠ kb from kab)).trans h.eb
 · simp only [List.length_append,List.length_singleton]
   omega
theorem Os.wide (h:Os m pr s u j xs jn lo ys zs):Os m pr s u (j + 1) xs jn lo ys zs:=
 ⟨h.ok,h.tidy,h.n,h.cnt,h.used,h.clock,h.nd,h.win.more (by omega),h.po,h.ea,h.eb,h.jb,h.lo0,by have:=h.top; omega,h.x8,h.y8,h.z8⟩
theorem Os.offer (h:Os m pr s u j xs jn lo ys zs) {x:Int} (hx:0 ≤ x ∧ x ≤ 255) (hj:j ≤ 40) (hok:(m.offered j 1 ka (lA x)).2.2.ok) :
 ∃ xs',xs' ≠ [] ∧ Os (m.offered j 1 ka (lA x)).2.2 pr (s + 1) (u + 5) (j + 1) xs' jn lo ys zs:=by
 have hsr:=h.win.sr
 unfold Em.offered at hok ⊢
 rw [hsr,if_neg (by simp)] at hok ⊢
 have hl:(m.act ka).inb.length = xs.length:=by rw [h.ea]; simp [stA]
 by_cases h8:xs.length < 8
 · rw [if_pos (by omega)] at hok ⊢
   exact ⟨xs ++ [x],by simp,h.offered hx hj h8 rfl hok⟩
 · rw [if_neg (by omega)] at hok ⊢
   refine ⟨xs,fun e => h8 (by rw [e]; simp),((h.loaded hok).wide).more (by omega) (by omega)⟩
theorem Os.pickedA {x:Int} (h:Os m pr s u j (x :: xs) jn lo ys zs) (h32:zs.length < 32) (hj:j ≤ 41) (hok:(m.picked ka (stA xs (lo + ys.length) (zs ++ [x]))).ok) :
 Os (m.picked ka (stA xs (lo + ys.length) (zs ++ [x]))) pr (s + 1) (u + 3) j xs jn lo ys (zs ++ [x]):=by
 have h1:=h.top
 have h2:=h.lo0
 simp only [List.length_cons] at h1
 have hz:(zs ++ [x]).length = zs.length + 1:=by simp
 have h8:=h.x8.2
 simp only [List.length_cons] at h8
 have hr:=room_P1 (a:=stA xs (lo + ys.length) (zs ++ [x])) 0 akey_ab.1 (encA_A h.x8.1.tail (h.z8.1.app (h.x8.1 x (by simp))) (by omega) (by omega) (by omega))
 refine ⟨hok,commit_tidy _ _ _ _,?_,h.cnt,?_,h.clock,h.nd,h.win,h.po,?_,?_,h.jb,h2,by omega,⟨h.x8.1.tail,by omega⟩,h.y8,⟨h.z8.1.app (h.x8.1 x (by simp)),by omega⟩⟩
 · have:=h.n
   show 301 ≤ m.n + 1 + 150 ∧ m.n + 1 + 150 ≤ _
   omega
 · have:=h.used
   show m.bk.lg.used + Gp.nbl (encL (chs [(0,stA xs (lo + ys.length) (zs ++ [x]))] none none)) ≤ _
   omega
 · exact actN_hit m.act 0 (stA xs (lo + ys.length) (zs ++ [x])) rfl
 · exact (actN_miss m.act 0 (stA xs (lo + ys.length) (zs ++ [x])) (show ka ≠ kb from kab)).trans h.eb
theorem Os.pickedB {y:Int} (h:Os m pr s u j xs jn lo (y :: ys) zs) (hj:j ≤ 41) {jn':Jn.S} (hjb:Jb jn' (lo + 1)) (hok:(m.picked kb (stB jn' (lo + 1) ys)).ok) :
 Os (m.picked kb (stB jn' (lo + 1) ys)) pr (s + 1) (u + 3) j xs jn' (lo + 1) ys zs:=by
 have h1:=h.top
 have h2:=h.lo0
 have h8:=h.y8.2
 simp only [List.length_cons] at h1 h8
 have hr:=room_P1 (a:=stB jn' (lo + 1) ys) 0 akey_ab.2 (by have:=encA_B hjb h.y8.1.tail (by omega) (by omega); omega)
 have e:lo + ((y :: ys).length:Int) = lo + 1 + (ys.length:Int):=by simp only [List.length_cons]; omega
 refine ⟨hok,commit_tidy _ _ _ _,?_,h.cnt,?_,h.clock,h.nd,h.win,h.po,?_,?_,hjb,by omega,by omega,h.x8,⟨h.y8.1.tail,by omega⟩,h.z8⟩
 · have:=h.n
   show 301 ≤ m.n + 1 + 150 ∧ m.n + 1 + 150 ≤ _
   omega
 · have:=h.used
   show m.bk.lg.used + Gp.nbl (encL (chs [(0,stB jn' (lo + 1) ys)] none none)) ≤ _
   omega
 · rw [← e]
   exact (actN_miss m.act 0 (stB jn' (lo + 1) ys) (show kb ≠ ka from kab.symm)).trans h.ea
 · exact actN_hit m.act 0 (stB jn' (lo + 1) ys) rfl
theorem Os.relayed {z:Int} (h:Os m pr s u j xs jn lo ys (z :: zs)) (hj:j ≤ 41) (h8:ys.length < 8) (hok:(m.relayed (stA xs (lo + (ys ++ [z]).length) zs) (stB jn lo (ys ++ [z]))).ok) :
 Os (m.relayed (stA xs (lo + (ys ++ [z]).length) zs) (stB jn lo (ys ++ [z]))) pr (s + 1) (u + 5) j xs jn lo (ys ++ [z]) zs:=by
 have h1:=h.top
 have h2:=h.lo0
 have h32:=h.z8.2
 simp only [List.length_cons] at h1 h32
 have hy:(ys ++ [z]).length = ys.length + 1:=by simp
 have hz:=h.z8.1 z (by simp)
 have hr:=room_R (a:=stA xs (lo + (ys ++ [z]).length) zs) (b:=stB jn lo (ys ++ [z])) 0 0 akey_ab.1 akey_ab.2 (encA_A h.x8.1 h.z8.1.tail (by have:=h.x8.2; omega) (by omega) (by omega)) (encA_B h.jb (h.y8.1.app hz) (by omega) (by omega))
 have ht:=actN_two m.act 0 0 (a:=stA xs (lo + (ys ++ [z]).length) zs) (b:=stB jn lo (ys ++ [z])) rfl rfl
 refine ⟨hok,commit_tidy _ _ _ _,?_,h.cnt,?_,h.clock,h.nd,h.win,h.po,ht.1,ht.2,h.jb,h2,by omega,h.x8,⟨h.y8.1.app hz,by omega⟩,⟨h.z8.1.tail,by omega⟩⟩
 · have:=h.n
   show 301 ≤ m.n + 1 + 1 + 150 ∧ m.n + 1 + 1 + 150 ≤ _
   omega
 · have:=h.used
   show m.bk.lg.used + Gp.nbl (encL (chs [(0,stA xs (lo + (ys ++ [z]).length) zs),(0,stB jn lo (ys ++ [z]))] none none)) ≤ _
   omega
end
section
variable {w W:World} {F F5 V:Nat → Prop} {p:Nat} {m:Em} {T:List Ob} {pa pb:Nat} {a b:Am}
theorem sy_commit1 (h:Sy w W F F5 V p m (acO (pa,a) :: T)) (htd:m.tidy) {A:Option Addr} {c:Nat} (hrow:Rd W 1 A 1 [.pointer (some ⟨pa,0,none⟩)]) (hg:∀ ad,A = some ad → ¬ F5 ad.block) (hc:1 ≤ c ∧ c ≤ maxLen) (hok:a.ok BB ∧ (a.jn.2.2 = 0 → a.jn = Jn.s0))
 (hn:m.n + 200 ≤ 400000) (hroom:Gp.nbl (encL (chs [(0,a)] none none)) ≤ m.bk.lg.count - m.bk.lg.used) :
 Calls Tryz.prog 54 #[.pointer (some ⟨p,0,none⟩),.agg #[.slice A 1 c,.pointer none,.pointer none,.slice none 0 0]] W fun e w' => e = .returned (.int .i64 0) ∧ ∃ F6 V',Sy w w' F F6 V' p (m.commit [(0,a)] none none) T:=by
 obtain ⟨V1,V2,h1,h2,h3,h4,h5⟩:=Star.split (l1:=[acO (pa,a)]) (l2:=T) h.st
 have hs:=h.upd.size
 have hlt:=h.en.lt
 have hsz:sizeC (chs [(0,a)] none none) ≤ 40000:=by
  have g1:=encA_le hok.1
  have g3:=akey_size a.out.own
  have g4:=hok.1.out.key.2
  have e:chs [(0,a)] none none = [(akey a.out.own,encA a,freshB a)]:=rfl
  rw [e]
  simp [sizeC]
  omega
 refine (commit_ (F:=F5) (V:=V1) (ac:=[(pa,a)]) (qv:=none) (wv:=none) (A:=A) (c:=c) ⟨h.en,htd,h1,fun k hk => (h.vf k (h4 k hk)).1,hrow,fun _ => hg,hc,fun x hx => by rw [List.mem_singleton.1 hx]; exact hok,by simp,fun x hx => (by cases hx),fun x hx => (by cases hx),by simp,by simp [chs],hsz,hroom,hn,.inl rfl⟩).mono ?_
 rintro e w' ⟨rfl,F6,hen,hu,hsub⟩
 rw [commit_onea m pa 0 a] at hen
 have hs2:=hu.size
 have hlt2:=h2.lt
 refine ⟨rfl,F6,V2,hen,h2.keep hu fun k hk hf => (h.vf k (h5 k hk)).1 hf,fun k hk => ⟨fun hf => ?_,(h.vf k (h5 k hk)).2⟩,fun k hk => ?_,h.upd.trans hu fun i hi hf => (h.sub i hf).elim id fun h9 => by omega⟩
 · rcases hsub k hf with h9 | h9 | h9
   · exact (h.vf k (h5 k hk)).1 h9
   · exact h3 k h9 hk
   · have:=hlt2 k hk; omega
 · rcases hsub k hk with h9 | h9 | h9
   · exact h.sub k h9
   · exact .inr (h.vf k (h4 k h9)).2
   · exact .inr (by omega)
theorem sy_commit2 (h:Sy w W F F5 V p m (acO (pa,a) :: acO (pb,b) :: T)) (htd:m.tidy) {A:Option Addr} {c:Nat} (hrow:Rd W 1 A 2 [.pointer (some ⟨pa,0,none⟩),.pointer (some ⟨pb,0,none⟩)]) (hg:∀ ad,A = some ad → ¬ F5 ad.block) (hc:2 ≤ c ∧ c ≤ maxLen) (hok:a.ok BB ∧ (a.jn.2.2 = 0 → a.jn = Jn.s0)) (hok2:b.ok BB ∧ (b.jn.2.2 = 0 → b.jn = Jn.s0)) (hne:a.out.own ≠ b.out.own)
 (hn:m.n + 200 ≤ 400000) (hroom:Gp.nbl (encL (chs [(0,a),(0,b)] none none)) ≤ m.bk.lg.count - m.bk.lg.used) :
 Calls Tryz.prog 54 #[.pointer (some ⟨p,0,none⟩),.agg #[.slice A 2 c,.pointer none,.pointer none,.slice none 0 0]] W fun e w' => e = .returned (.int .i64 0) ∧ ∃ F6 V',Sy w w' F F6 V' p (m.commit [(0,a),(0,b)] none none) T:=by
 obtain ⟨V1,V2,h1,h2,h3,h4,h5⟩:=Star.split (l1:=[acO (pa,a),acO (pb,b)]) (l2:=T) h.st
 have hs:=h.upd.size
 have hlt:=h.en.lt
 have hsz:sizeC (chs [(0,a),(0,b)] none none) ≤ 40000:=by
  have g1:=encA_le hok.1
  have g2:=encA_le hok2.1
  have g3:=akey_size a.out.own
  have g4:=hok.1.out.key.2
  have g5:=akey_size b.out.own
  have g6:=hok2.1.out.key.2
  have e:chs [(0,a),(0,b)] none none = [(akey a.out.own,encA a,freshB a),(akey b.out.own,encA b,freshB b)]:=rfl
  rw [e]
  simp [sizeC]
  omega
 refine (commit_ (F:=F5) (V:=V1) (ac:=[(pa,a),(pb,b)]) (qv:=none) (wv:=none) (A:=A) (c:=c) ⟨h.en,htd,h1,fun k hk => (h.vf k (h4 k hk)).1,hrow,fun _ => hg,hc,fun x hx => ?_,?_,fun x hx => (by cases hx),fun x hx => (by cases hx),by simp,by simp [chs],hsz,hroom,hn,.inl rfl⟩).mono ?_
 · rcases List.mem_cons.1 hx with rfl | hx
   · exact hok
   · rw [List.mem_singleton.1 hx]
     exact hok2
 · simp only [List.map_cons,List.map_nil]
   exact List.pairwise_cons.2 ⟨fun x hx => by rw [List.mem_singleton.1 hx]; exact hne,List.pairwise_singleton _ _⟩
 rintro e w' ⟨rfl,F6,hen,hu,hsub⟩
 rw [commit_two m pa 0 pb 0 a b] at hen
 have hs2:=hu.size
 have hlt2:=h2.lt
 refine ⟨rfl,F6,V2,hen,h2.keep hu fun k hk hf => (h.vf k (h5 k hk)).1 hf,fun k hk => ⟨fun hf => ?_,(h.vf k (h5 k hk)).2⟩,fun k hk => ?_,h.upd.trans hu fun i hi hf => (h.sub i hf).elim id fun h9 => by omega⟩
 · rcases hsub k hf with h9 | h9 | h9
   · exact (h.vf k (h5 k hk)).1 h9
   · exact h3 k h9 hk
   · have:=hlt2 k hk; omega
 · rcases hsub k hk with h9 | h9 | h9
   · exact h.sub k h9
   · exact .inr (h.vf k (h4 k h9)).2
   · exact .inr (by omega)
end
end Eg
end
section
namespace Pr
open Go.RowKit B Cm Cr Cw Ou Lt
open At (box2)
open Nd (Wo)
def PeOut (w:World) (k:Nat) (e:Ending) (w':World):Prop:=∃ bs v,e = .returned (.tuple #[v,.int .i64 0]) ∧ bs.length ≤ k ∧ Byte bs ∧ w'.ownsRow w.heap.size 5 1 v bs.length (nums .u8 bs) ∧ Upd No w w'
theorem PeOut.of {w:World} {k:Nat} {e:Ending} {w':World} (h:∃ bs v,e = .returned (.tuple #[v,.int .i64 0]) ∧ bs.length ≤ k ∧ Byte bs ∧ w'.ownsRow w.heap.size 5 1 v bs.length (nums .u8 bs) ∧ Upd No w w'):PeOut w k e w':=h
def Wk (w W:World) (q k:Nat):Prop:=∃ F bs,Wo w W F q bs ∧ bs.length ≤ k ∧ Byte bs
theorem Wk.upd {w W:World} {q k:Nat} (h:Wk w W q k):Upd No w W:=by
 obtain ⟨F,bs,h1,h2,h3⟩:=h
 exact h1.upd
theorem wk_number {w W:World} {q k:Nat} (h:Wk w W q k) (hk:k ≤ 100000) {n:Int} (h0:0 ≤ n) (h1:n ≤ 1000000):Calls Tryz.prog 105 #[.pointer (some ⟨q,0,none⟩),.int .u64 n] W fun e w' => e = .returned (.tuple #[]) ∧ Wk w w' q (k + 9):=by
 obtain ⟨F,bs,h2,h3,h4⟩:=h
 refine (number q bs n F W h2.wr h0 (by omega) (by omega)).mono ?_
 rintro e w' ⟨rfl,F',h5,h6⟩
 have:=(num_length n).2
 exact ⟨rfl,F',_,h2.moved h5 h6,by rw [List.length_append]; omega,Byte.append h4 (num_b n h0)⟩
theorem wk_int {w W:World} {q k:Nat} (h:Wk w W q k) (hk:k ≤ 100000) {n:Int} (hn:Jn.I64 n):Calls Tryz.prog 67 #[.pointer (some ⟨q,0,none⟩),.int .i64 n] W fun e w' => e = .returned (.tuple #[]) ∧ Wk w w' q (k + 9):=by
 obtain ⟨F,bs,h2,h3,h4⟩:=h
 refine (int_ q bs n F W h2.wr hn.1 hn.2 (by omega)).mono ?_
 rintro e w' ⟨rfl,F',h5,h6⟩
 have:=(num_length (zz n)).2
 exact ⟨rfl,F',_,h2.moved h5 h6,by rw [List.length_append]; omega,Byte.append h4 (num_b _ (zz_pos n))⟩
theorem wk_text {w W:World} {q k:Nat} (h:Wk w W q k) (hk:k ≤ 100000) {s:ByteArray} (hs:Kk s):Calls Tryz.prog 106 #[.pointer (some ⟨q,0,none⟩),.string s] W fun e w' => e = .returned (.tuple #[]) ∧ Wk w w' q (k + 49):=by
 obtain ⟨F,bs,h2,h3,h4⟩:=h
 have h9:=hs.2
 refine (text_ q bs s F W h2.wr (by omega)).mono ?_
 rintro e w' ⟨rfl,F',h5,h6⟩
 have h7:=(num_length (s.size:Int)).2
 have h8:=sb_length s
 refine ⟨rfl,F',_,h2.moved h5 h6,?_,?_⟩
 · simp only [List.length_append]
   omega
 · exact Byte.append (Byte.append h4 (num_b _ (by omega))) (sb_byte s)
theorem wk_bytes {w W:World} {q k:Nat} (h:Wk w W q k) (hk:k ≤ 100000):Calls Tryz.prog 68 #[.pointer (some ⟨q,0,none⟩)] W fun e w' => ∃ bs v,e = .returned v ∧ bs.length ≤ k ∧ Byte bs ∧ w'.ownsRow w.heap.size 5 1 v bs.length (nums .u8 bs) ∧ Upd No w w':=by
 obtain ⟨F,bs,h2,h3,h4⟩:=h
 refine (bytes_ q bs F W h2.wr (by omega)).mono ?_
 rintro e w' ⟨v,rfl,h5,h6⟩
 exact ⟨bs,v,rfl,h3,h4,own_base h5 h2.upd.size,h2.upd.next (Upd.of_below No h6)⟩
theorem wk_new (w W:World) (hu:Upd No w W):Wk w (W.alloc (.cells #[.slice none 0 0] 276)) W.heap.size 0:=
 ⟨_,[],⟨Wr.new W,fun k hk => by have:=hu.size; omega,hu.alloc _⟩,Nat.le_refl _,fun c hc => by cases hc⟩
def Wkb (w W:World) (q k g:Nat) (t:TypeId) (cs:Array Value):Prop:=∃ F bs,Wo w W F q bs ∧ bs.length ≤ k ∧ Byte bs ∧ Blk W g t cs ∧ ¬ F g
theorem wkb_new {w W W':World} {q k g:Nat} {t:TypeId} {cs:Array Value} (h:Wk w W q k) (hW:W' = W.alloc (.cells cs t)) (hg:g = W.heap.size):Wkb w W' q k g t cs:=by
 obtain ⟨F,bs,h1,h2,h3⟩:=h
 subst hW hg
 exact ⟨F,bs,h1.quiet ((Upd.refl _ _).alloc _),h2,h3,Blk.fresh _ _ _,fun hf => by have:=h1.wr.lt _ hf; omega⟩
theorem Wkb.wk {w W:World} {q k g:Nat} {t:TypeId} {cs:Array Value} (h:Wkb w W q k g t cs):Wk w W q k ∧ Blk W g t cs:=by
 obtain ⟨F,bs,h1,h2,h3,h4,h5⟩:=h
 exact ⟨⟨F,bs,h1,h2,h3⟩,h4⟩
theorem wkb_number {w W:World} {q k g:Nat} {t:TypeId} {cs:Array Value} (h:Wkb w W q k g t cs) (hk:k ≤ 100000) {n:Int} (h0:0 ≤ n) (h1:n ≤ 1000000):Calls Tryz.prog 105 #[.pointer (some ⟨q,0,none⟩),.int .u64 n] W fun e w' => e = .returned (.tuple #[]) ∧ Wkb w w' q (k + 9) g t cs:=by
 obtain ⟨F,bs,h2,h3,h4,h7,h8⟩:=h
 refine (number q bs n F W h2.wr h0 (by omega) (by omega)).mono ?_
 rintro e w' ⟨rfl,F',h5,h6⟩
 have:=(num_length n).2
 have hl:=h7.lt
 exact ⟨rfl,F',_,h2.moved h5 h6,by rw [List.length_append]; omega,Byte.append h4 (num_b n h0),h7.upd h6.upd h8,fun hf => (h6.sub g hf).elim h8 fun h9 => by omega⟩
set_option maxRecDepth 100000 in
theorem encode_ {u v:Value} {ns:List ByteArray} {cs:List Ins} {w:World} (h:Pg w u v ns cs) (hn:ns.length ≤ 8) (hc:cs.length ≤ 200) (hk:∀ s ∈ ns,Kk s) (hg:∀ i ∈ cs,Gi ns.length cs.length i) (hi:∀ i ∈ cs,Jn.I64 i.2 ∧ i.1 ≤ 100) :
 Calls Tryz.prog 41 #[.agg #[u,v]] w fun e w' => PeOut w (18 + 49 * ns.length + 18 * cs.length) e w':=by
 have HPg:=hid fun W (hu:Upd No w W) => formed_ (h.quiet hu) hn hc hk hg
 obtain ⟨A,a,B,b,rfl,rfl,h1,h2,h3,h4⟩:=h.ex
 obtain ⟨w1,pp,hw1,hpp⟩:∃ w1 pp,w1 = w.alloc (.cells #[.slice A ns.length a,.slice B cs.length b] 36) ∧ pp = w.heap.size:=⟨_,_,rfl,rfl⟩
 have hB:Blk w1 pp 36 #[.slice A ns.length a,.slice B cs.length b]:=by rw [hw1,hpp]; exact Blk.fresh _ _ _
 have hu:Upd No w w1:=by rw [hw1]; exact (Upd.refl _ _).alloc _
 have HU:=hid hu
 have HN:=hid fun W (hu:Upd No w W) => Rd.upd h1 (by omega) hu fun _ _ => no_ _
 have HC:=hid fun W (hu:Upd No w W) => Rd.upd h2 (by omega) hu fun _ _ => no_ _
 have HK:=hid hk
 have HI:=hid hi
 obtain ⟨c0,c1⟩:=box2 hB
 have hn0:(ns.length:Int) ≤ 8:=by omega
 have hc0:(cs.length:Int) ≤ 200:=by omega
 obtain ⟨n,hnn⟩:∃ n,n = ns.length:=⟨_,rfl⟩
 obtain ⟨c,hcc⟩:∃ c,c = cs.length:=⟨_,rfl⟩
 have HB:=hid (show Blk w1 pp 36 #[.slice A n a,.slice B c b] by rw [hnn,hcc]; exact hB)
 have HNn:=hid hnn
 have HCc:=hid hcc
 rw [← hnn,← hcc] at HPg
 rw [← hnn] at c0 hn0 hn ⊢
 rw [← hcc] at c1 hc0 hc ⊢
 rw [← hnn,← hcc] at hw1
 simp only [hw1,hpp] at c0 c1
 have HW1:=hid hw1
 have HPp:=hid hpp
 have hwn:IntKind.u64.wrap (n:Int) = (n:Int):=by rw [IntKind.wrap_u64]; omega
 have hwc:IntKind.u64.wrap (c:Int) = (c:Int):=by rw [IntKind.wrap_u64]; omega
 clear h h1 h2 h3 h4 hB hu hk hg hi hnn hcc hw1 hpp
 go_enter Tryz.func41,Tryz.ntmps41
 go_wp2_with (fail)
 try rw [← HW1.out]
 try rw [← HPp.out]
 clear HW1 HPp c0 c1
 refine Calls.mono (HPg.out w1 HU.out) ?_
 rintro e w2 ⟨rfl,hu2⟩
 have HU2:=hid (HU.out.next hu2)
 have HB2:=hid (HB.out.upd hu2 (no_ _))
 clear hu2 HPg
 go_wp2_with (fail)
 refine Calls.mono (newWriter w2) ?_
 rintro e w3 ⟨rfl,rfl⟩
 have HW:Hid (∃ w3 q,w3 = w2.alloc (.cells #[.slice none 0 0] 276) ∧ q = w2.heap.size ∧ Wk w2 w3 q 0):=hid ⟨_,_,rfl,rfl,wk_new w2 w2 (Upd.refl _ _)⟩
 obtain ⟨w3,q,hw3,hq,hk3⟩:=HW.out
 rw [← hw3,← hq]
 have HK3:=hid hk3
 obtain ⟨c0,c1⟩:=box2 (HB2.out.upd hk3.upd (no_ _))
 clear hw3 hq hk3 HW
 go_wp2_with (fail)
 refine Calls.mono (wk_number HK3.out (by omega) (n:=n) (by omega) (by omega)) ?_
 rintro e w4 ⟨rfl,hk4⟩
 have HK4:=hid hk4
 clear c0 c1
 obtain ⟨c0,c1⟩:=box2 (HB2.out.upd hk4.upd (no_ _))
 clear hk4 HK3
 go_wp2_with (fail)
 clear c0 c1
 go_loopw [22] (fun v22 W => ∃ j:Nat,j ≤ n ∧ v22 = .int .i64 j ∧ Hid (Wk w2 W q (0 + 9 + 49 * j))) (fun v22 _ => n - (intOf v22).toNat)
 case atStart => exact ⟨0,by omega,rfl,HK4⟩
 case round =>
  clear HK4
  obtain ⟨j,hj,rfl,HW⟩:=hrel
  by_cases hlt:j < n
  · have hj1:(0:Int) ≤ (j:Int):=by omega
    have hj2:(j:Int) < (n:Int):=by omega
    obtain ⟨ad,x,hA,hx,hcell⟩:=Rd.at_ (HN.out wr (HU2.out.next HW.out.upd)) (show j < ns.length by rw [← HNn.out]; exact hlt)
    subst hA
    have hl:=show j < ns.length by rw [← HNn.out]; exact hlt
    have hx':x = .string ns[j]:=by
     unfold At.strs at hx
     rw [List.getElem?_map,List.getElem?_eq_getElem hl] at hx
     simpa using hx.symm
    subst hx'
    have HKy:=hid (HK.out _ (List.getElem_mem hl))
    generalize ns[j] = nm at *
    clear hx hl
    go_wp2_with (fail)
    refine Calls.mono (wk_text HW.out (by omega) HKy.out) ?_
    rintro e w5 ⟨rfl,hk5⟩
    have HK5:=hid (show Wk w2 w5 q (0 + 9 + 49 * (j + 1)) from hk5)
    clear hk5 hcell HW
    go_wp2
    go_roundw
    case rel => exact ⟨j + 1,by omega,by go_num,HK5⟩
    case measure => simp [intOf]; omega
  · obtain rfl:j = n:=by omega
    obtain ⟨c0,c1⟩:=box2 (HB2.out.upd HW.out.upd (no_ _))
    go_wp2_with (fail)
    refine Calls.mono (wk_number HW.out (by omega) (n:=c) (by omega) (by omega)) ?_
    rintro e w5 ⟨rfl,hk5⟩
    have HK5:=hid hk5
    clear c0 c1
    obtain ⟨c0,c1⟩:=box2 (HB2.out.upd hk5.upd (no_ _))
    clear hk5 HW
    go_wp2_with (fail)
    clear c0 c1
    go_loopw [39] (fun v39 W => ∃ k:Nat,k ≤ c ∧ v39 = .int .i64 k ∧ Hid (Wk w2 W q (0 + 9 + 49 * j + 9 + 18 * k))) (fun v39 _ => c - (intOf v39).toNat)
    case atStart => exact ⟨0,by omega,rfl,HK5⟩
    case round =>
     clear HK5
     obtain ⟨k,hk,rfl,HW⟩:=hrel
     by_cases hlt2:k < c
     · have hk1:(0:Int) ≤ (k:Int):=by omega
       have hk2:(k:Int) < (c:Int):=by omega
       have hl:=show k < cs.length by rw [← HCc.out]; exact hlt2
       obtain ⟨ad,hA,x0,x1⟩:=ins_at (HC.out wr (HU2.out.next HW.out.upd)) hl
       subst hA
       have hgi:=HI.out _ (List.getElem_mem hl)
       generalize cs[k] = x at *
       obtain ⟨op,arg⟩:=x
       simp only at x0 x1 hgi
       obtain ⟨w5,pi,hw5,hpi⟩:∃ w5 pi,w5 = wr.alloc (.cells #[.int .i64 op,.int .i64 arg] 33) ∧ pi = wr.heap.size:=⟨_,_,rfl,rfl⟩
       have HK5:=hid (wkb_new HW.out hw5 hpi)
       obtain ⟨d0,d1⟩:=box2 HK5.out.wk.2
       simp only [hw5,hpi] at d0 d1
       have HW5:=hid hw5
       have HPi:=hid hpi
       have HG:=hid hgi
       have ho0:(0:Int) ≤ (op:Int):=by omega
       have ho1:(op:Int) ≤ 100:=by have:=hgi.2; omega
       have hwo:IntKind.u64.wrap (op:Int) = (op:Int):=by rw [IntKind.wrap_u64]; omega
       clear hw5 hpi hgi hl
       go_wp2_with (fail)
       try rw [← HW5.out]
       try rw [← HPi.out]
       clear HW5 HPi d0 d1 x0 x1
       refine Calls.mono (wkb_number HK5.out (by omega) ho0 (by omega)) ?_
       rintro e w6 ⟨rfl,hk6⟩
       have HK6:=hid hk6
       obtain ⟨d0,d1⟩:=box2 hk6.wk.2
       clear hk6 HK5
       go_wp2_with (fail)
       refine Calls.mono (wk_int HK6.out.wk.1 (by omega) HG.out.1) ?_
       rintro e w7 ⟨rfl,hk7⟩
       have HK7:=hid (show Wk w2 w7 q (0 + 9 + 49 * j + 9 + 18 * (k + 1)) from hk7)
       clear hk7 HK6 d0 d1 HW
       go_wp2
       go_roundw
       case rel => exact ⟨k + 1,by omega,by go_num,HK7⟩
       case measure => simp [intOf]; omega
     · obtain rfl:k = c:=by omega
       go_wp2_with (fail)
       refine Calls.mono (wk_bytes HW.out (by omega)) ?_
       rintro e w5 ⟨bs,v5,rfl,hb1,hb2,hb3,hb4⟩
       have HE:=hid (PeOut.of (w:=w) (k:=18 + 49 * j + 18 * k) ⟨bs,v5,rfl,by omega,hb2,own_base hb3 HU2.out.size,HU2.out.next hb4⟩)
       clear hb1 hb2 hb3 hb4 HW
       go_wp2
       go_ret2
       exact HE.out
theorem sclone_info:(Tryz.prog.info? 9).map (fun i => (i.zero,i.size,i.bytes)) = some (some (.string ⟨#[]⟩),1,16):=by kernel_rfl
theorem sclone (A:Option Addr) (n c:Nat) (xs:List Value) (w:World) (hr:Rd w 1 A n xs) (h1:∀ u ∈ xs,u.oneCell' = true) (hn:n * 16 ≤ 140737488355328) :
 Calls Tryz.prog 111 #[.slice A n c] w fun e w' => ∃ A' c',e = .returned (.slice A' n c') ∧ w'.ownsRow w.heap.size 9 1 (.slice A' n c') n xs ∧ Upd No w w' ∧ (A = none → A' = none):=by
 have q:∀ (w:World) (a:Option Addr) (n c n' c':Nat),(binOp .eql 31 (.slice a n c) (.slice none n' c')).run Tryz.prog w = .ok (.bool a.isNone) w:=fun w a n c n' c' => Go.Lib.run_eql_slice_nil w _ _ a n c n' c' Tryz.underlying31
 rcases A with _ | ad
 · obtain rfl:n = 0:=by
    rcases Nat.eq_zero_or_pos n with h0 | h0
    · exact h0
    · obtain ⟨ad,h,_⟩:=hr.2 h0
      cases h
   obtain rfl:xs = []:=List.eq_nil_of_length_eq_zero (by simpa using hr.1)
   go_enter Tryz.func111,Tryz.ntmps111
   go_wp2
   go_ret
   exact ⟨none,0,rfl,⟨by simp,.inl ⟨rfl,rfl⟩⟩,Upd.refl _ _,fun _ => rfl⟩
 · go_enter Tryz.func111,Tryz.ntmps111
   go_wp2_with (at_builtin; refine ap_row w.heap.size rfl _ _ 31 9 (.string ⟨#[]⟩) 1 16 rfl Tryz.underlying31 sclone_info rfl (by omega) (.slice (some ⟨w.heap.size,0,none⟩) 0 0) 0 [] (some ad) n c xs rfl rfl (World.ownsRow_made w #[] 0 (Nat.le_refl _) (Nat.zero_le _) rfl) (Rd.alloc hr (by omega) _) h1 (by omega) (by omega) (by simp) ?_; intro A1 c1 w1 ho hg hat; rw [Nat.zero_add,List.nil_append] at ho; rw [Nat.zero_add])
   go_wp2
   go_ret
   refine ⟨A1,c1,rfl,ho,?_,fun h => by cases h⟩
   have h5:Upd No w (w.alloc (.cells #[] 9)):=(Upd.refl _ _).alloc _
   exact h5.grown hg fun k hk => by
    have:w.heap.size = k:=by simpa [Value.ownBlock] using hk
    exact .inr (by omega)
theorem iclone_info:(Tryz.prog.info? 33).map (fun i => (i.zero,i.size,i.bytes)) = some (some (.agg #[.int .i64 0,.int .i64 0]),2,16):=by kernel_rfl
theorem iclone (A:Option Addr) (n c:Nat) (xs:List Value) (w:World) (hr:Rd w 2 A n xs) (h1:∀ u ∈ xs,u.oneCell' = true) (hn:n * 16 ≤ 140737488355328) :
 Calls Tryz.prog 112 #[.slice A n c] w fun e w' => ∃ A' c',e = .returned (.slice A' n c') ∧ w'.ownsRow w.heap.size 33 2 (.slice A' n c') n xs ∧ Upd No w w' ∧ (A = none → A' = none):=by
 have q:∀ (w:World) (a:Option Addr) (n c n' c':Nat),(binOp .eql 34 (.slice a n c) (.slice none n' c')).run Tryz.prog w = .ok (.bool a.isNone) w:=fun w a n c n' c' => Go.Lib.run_eql_slice_nil w _ _ a n c n' c' Tryz.underlying34
 rcases A with _ | ad
 · obtain rfl:n = 0:=by
    rcases Nat.eq_zero_or_pos n with h0 | h0
    · exact h0
    · obtain ⟨ad,h,_⟩:=hr.2 h0
      cases h
   obtain rfl:xs = []:=List.eq_nil_of_length_eq_zero (by simpa using hr.1)
   go_enter Tryz.func112,Tryz.ntmps112
   go_wp2
   go_ret
   exact ⟨none,0,rfl,⟨by simp,.inl ⟨rfl,rfl⟩⟩,Upd.refl _ _,fun _ => rfl⟩
 · go_enter Tryz.func112,Tryz.ntmps112
   go_wp2_with (at_builtin; refine ap_row w.heap.size rfl _ _ 34 33 (.agg #[.int .i64 0,.int .i64 0]) 2 16 rfl Tryz.underlying34 iclone_info rfl (by omega) (.slice (some ⟨w.heap.size,0,none⟩) 0 0) 0 [] (some ad) n c xs rfl rfl (World.ownsRow_made w #[] 0 (Nat.le_refl _) (Nat.zero_le _) rfl) (Rd.alloc hr (by omega) _) h1 (by omega) (by omega) (by simp) ?_; intro A1 c1 w1 ho hg hat; rw [Nat.zero_add,List.nil_append] at ho; rw [Nat.zero_add])
   go_wp2
   go_ret
   refine ⟨A1,c1,rfl,ho,?_,fun h => by cases h⟩
   have h5:Upd No w (w.alloc (.cells #[] 33)):=(Upd.refl _ _).alloc _
   exact h5.grown hg fun k hk => by
    have:w.heap.size = k:=by simpa [Value.ownBlock] using hk
    exact .inr (by omega)
theorem strs_one (l:List ByteArray):∀ u ∈ At.strs l,u.oneCell' = true:=by
 intro u hu
 obtain ⟨s,_,rfl⟩:=List.mem_map.1 hu
 rfl
theorem icells_one (l:List Ins):∀ u ∈ icells l,u.oneCell' = true:=by
 intro u hu
 obtain ⟨i,_,hu⟩:=List.mem_flatMap.1 hu
 simp only [ics,List.mem_cons,List.not_mem_nil,or_false] at hu
 rcases hu with rfl | rfl <;> rfl
def CpOut (w:World) (ns:List ByteArray) (cs:List Ins) (e:Ending) (w':World):Prop:=∃ u v,e = .returned (.agg #[u,v]) ∧ Pg w' u v ns cs ∧ (∀ k,u.ownBlock = some k ∨ v.ownBlock = some k → w.heap.size ≤ k ∧ k < w'.heap.size) ∧ Upd No w w'
theorem CpOut.of {w:World} {ns:List ByteArray} {cs:List Ins} {e:Ending} {w':World} (h:∃ u v,e = .returned (.agg #[u,v]) ∧ Pg w' u v ns cs ∧ (∀ k,u.ownBlock = some k ∨ v.ownBlock = some k → w.heap.size ≤ k ∧ k < w'.heap.size) ∧ Upd No w w'):CpOut w ns cs e w':=h
theorem copy_fin {w w2 w3 w4 W9:World} {pz c3 c4:Nat} {A3 A4:Option Addr} {ns:List ByteArray} {cs:List Ins} {cz:Array Value} (h0:Upd No w w2) (h3:w3.ownsRow w2.heap.size 9 1 (.slice A3 ns.length c3) ns.length (At.strs ns)) (h4:Upd No w2 w3)
 (h5:w4.ownsRow w3.heap.size 33 2 (.slice A4 cs.length c4) cs.length (icells cs)) (h6:Upd No w3 w4) (hbz:Blk w4 pz 36 cz) (hz:w.heap.size ≤ pz) (hW:W9 = w4.setRow pz #[.slice A3 ns.length c3,.slice A4 cs.length c4]) :
 Blk W9 pz 36 #[.slice A3 ns.length c3,.slice A4 cs.length c4] ∧ Pg W9 (.slice A3 ns.length c3) (.slice A4 cs.length c4) ns cs ∧ (∀ k,(Value.slice A3 ns.length c3).ownBlock = some k ∨ (Value.slice A4 cs.length c4).ownBlock = some k → w.heap.size ≤ k ∧ k < W9.heap.size) ∧ Upd No w W9:=by
 have hu:=Nd.Upd.setRow (w:=w4) pz #[.slice A3 ns.length c3,.slice A4 cs.length c4]
 rw [← hW] at hu
 have h34:=own_upd h3 h6 fun _ _ => no_ _
 have n3:=own_blk_ne h34 hbz (by decide)
 have n4:=own_blk_ne h5 hbz (by decide)
 have g3:=own_upd h34 hu fun g hg e => n3 (e ▸ hg)
 have g4:=own_upd h5 hu fun g hg e => n4 (e ▸ hg)
 have s0:=h0.size
 have s4:=h4.size
 have s6:=h6.size
 obtain ⟨_,_,e3,k3,m3⟩:=own_shape g3
 obtain ⟨_,_,e4,k4,m4⟩:=own_shape g4
 injection e3 with _ _ e3
 injection e4 with _ _ e4
 subst e3 e4
 refine ⟨by rw [hW]; exact Nd.Blk.row hbz _,⟨_,_,_,_,rfl,rfl,Rd.of_own g3,Rd.of_own g4,⟨k3,m3⟩,k4,m4⟩,fun k hk => ?_,((h0.next h4).next h6).trans hu fun i hi e => by omega⟩
 rcases hk with hk | hk
 · have:=(Sl.of_own g3).lt k hk
   omega
 · have:=(Sl.of_own g4).lt k hk
   omega
set_option maxRecDepth 100000 in
theorem copy_ {u v:Value} {ns:List ByteArray} {cs:List Ins} {w:World} (h:Pg w u v ns cs) (hn:ns.length ≤ 8) (hc:cs.length ≤ 200) :
 Calls Tryz.prog 43 #[.agg #[u,v]] w fun e w' => CpOut w ns cs e w':=by
 obtain ⟨A,a,B,b,rfl,rfl,h1,h2,h3,h4⟩:=h.ex
 have HN:=hid fun W (hu:Upd No w W) => sclone A ns.length a _ W (Rd.upd h1 (by omega) hu fun _ _ => no_ _) (strs_one _) (by omega)
 have HC:=hid fun W (hu:Upd No w W) => iclone B cs.length b _ W (Rd.upd h2 (by omega) hu fun _ _ => no_ _) (icells_one _) (by omega)
 obtain ⟨w1,pp,hw1,hpp⟩:∃ w1 pp,w1 = w.alloc (.cells #[.slice A ns.length a,.slice B cs.length b] 36) ∧ pp = w.heap.size:=⟨_,_,rfl,rfl⟩
 obtain ⟨w2,pz,hw2,hpz⟩:∃ w2 pz,w2 = w1.alloc (.cells #[.slice none 0 0,.slice none 0 0] 36) ∧ pz = w1.heap.size:=⟨_,_,rfl,rfl⟩
 have hb1:Blk w1 pp 36 #[.slice A ns.length a,.slice B cs.length b]:=by rw [hw1,hpp]; exact Blk.fresh _ _ _
 have hb2:Blk w2 pp 36 #[.slice A ns.length a,.slice B cs.length b]:=by rw [hw2]; exact hb1.alloc _
 have hb3:Blk w2 pz 36 #[.slice none 0 0,.slice none 0 0]:=by rw [hw2,hpz]; exact Blk.fresh _ _ _
 have hu:Upd No w w2:=by rw [hw2,hw1]; exact ((Upd.refl _ _).alloc _).alloc _
 have HU:=hid hu
 have HB:=hid (And.intro hb2.drew (And.intro hb3.drew (And.intro (show w.heap.size ≤ pz by rw [hpz,hw1]; simp) (show pz ≠ pp by have:=hb1.lt; omega))))
 clear h h1 h2 h3 h4 hb1 hb2 hb3 hu
 have HW:=hid (And.intro hw1 (And.intro hpp (And.intro hw2 (show pz = pp + 1 by rw [hpz,hw1,hpp]; simp))))
 clear hw1 hpp hw2 hpz
 go_enter Tryz.func43,Tryz.ntmps43
 go_wp2_with (fail)
 rw [← HW.out.1,← HW.out.2.2.1]
 try rw [← HW.out.2.1]
 try rw [← HW.out.2.2.2]
 clear HW
 refine wp_region_held_drew (S:=fun W => Blk W pp 36 #[.slice A ns.length a,.slice B cs.length b]) (by kernel_rfl) HB.out.1 (fun hS => ?_)
 refine zt 0 hS ?_
 refine zh 1 hS (fun w hw => (box2 hw).1) ?_
 refine zt 3 hS ?_
 refine zh 4 hS (fun w hw => (box2 hw).2) ?_
 refine zk 2 (fun K hK => ?_)
 go_simp
 refine Calls.mono (HN.out _ HU.out.drew) ?_
 rintro e w3 ⟨A3,c3,rfl,ho3,hu3,_⟩
 have HO3:=hid (And.intro ho3 hu3)
 clear ho3 hu3
 go_wp2_with (fail)
 refine hK.out _ _ ((by exact HB.out.1.upd HO3.out.2 (no_ _))) (fun hS => ?_)
 clear hK K
 try simp only [Act.put,zA,zB,zC]
 refine zk 5 (fun K hK => ?_)
 go_simp
 refine Calls.mono (HC.out _ (HU.out.drew.next HO3.out.2)) ?_
 rintro e w4 ⟨A4,c4,rfl,ho4,hu4,_⟩
 have HO4:=hid (And.intro ho4 hu4)
 have hbz:=(HB.out.2.1.upd HO3.out.2 (no_ _)).upd hu4 (no_ _)
 clear ho4 hu4
 go_wp2_with (fail)
 refine hK.out _ _ ((by exact (HB.out.1.upd HO3.out.2 (no_ _)).upd HO4.out.2 (no_ _))) (fun hS => ?_)
 clear hK K
 try simp only [Act.put,zA,zB,zC]
 refine zt 6 hS ?_
 refine zk 7 (fun K hK => ?_)
 refine wp_store_row 36 (.tmp 2) (.tmp 9) (by rfl) _ #[.slice A3 ns.length c3,.slice A4 cs.length c4] (by rfl) (by rfl) 36 _ hbz (by kernel_rfl) (by rfl) (by simp [Value.oneCell']) ?_
 refine hK.out _ _ ((by exact ((HB.out.1.upd HO3.out.2 (no_ _)).upd HO4.out.2 (no_ _)).upd (Nd.Upd.setRow (w:=w4) pz _) (fun e => HB.out.2.2.2 e.symm))) (fun hS => ?_)
 clear hK K
 try simp only [Act.put,zA,zB,zC]
 refine rg_world fun W9 hW9 => ?_
 have hFn:=copy_fin HU.out.drew HO3.out.1 HO3.out.2 HO4.out.1 HO4.out.2 hbz HB.out.2.2.1 hW9
 clear hW9
 refine wpAnyH_done (by kernel_rfl) ?_ _
 all_goals
  obtain ⟨q0,q1⟩:=box2 hFn.1
  have HP:=hid hFn.2
  clear hFn hS
  go_wp2
  exact bodyPost_ret (v:=.agg #[.slice A3 ns.length c3,.slice A4 cs.length c4]) (by simp [results,go_sem,q0,q1]) rfl (CpOut.of ⟨_,_,rfl,HP.out⟩)
end Pr
end
section
namespace Eg
open Go.RowKit B Cm Cr Cw Ou
open Ac (Am fresh fresh_ok encA encA_le encA_byte freshB)
open Bo (Bp Bm Cg bst La Vb Cl ccells bare encL sizeC Gd)
open Nd (Rm Inv Wo)
open Pr (Pg Ins Gi PeOut)
def kp:ByteArray:=⟨#[112]⟩
def prO (ns:List ByteArray) (cs:List Ins) (u v:Value):Ob:=
 ⟨fun w F => Pg w u v ns cs ∧ (∀ k,u.ownBlock = some k ∨ v.ownBlock = some k → F k) ∧ ∀ k,F k → k < w.heap.size,fun h hu hn => ⟨h.1.upd hu fun k hk => hn k (h.2.1 k hk),h.2.1,fun k hk => Nat.lt_of_lt_of_le (h.2.2 k hk) hu.size⟩,fun h => h.2.2⟩
def Em.taught (m:Em) (bs:List Int) (ns:List ByteArray) (cs:List Ins):Em:={ m with bk:=comB m.bk [(kp,bs,false)],n:=m.n + 100,po:=prO ns cs }
theorem akey_p {k:ByteArray} (h:Kk k):akey k ≠ kp:=fun e => by
 have h1:=akey_size k
 rw [e] at h1
 have h2:=h.1
 have:kp.size = 1:=rfl
 omega
theorem sizeP {bs:List Int} (h:bs.length ≤ 5000):sizeC [(kp,bs,false)] ≤ 40000:=by
 have e:sizeC [(kp,bs,false)] = kp.size + bs.length:=by simp [sizeC]
 have e2:kp.size = 1:=rfl
 omega
theorem roomP {bs:List Int} (h:bs.length ≤ 300):Gp.nbl (encL [(kp,bs,false)]) ≤ 2:=by
 have h1:=Bo.encL_le [(kp,bs,false)]
 have e:sizeC [(kp,bs,false)] = kp.size + bs.length:=by simp [sizeC]
 have e2:kp.size = 1:=rfl
 have e3:([(kp,bs,false)]:List Y).length = 1:=rfl
 unfold Gp.nbl
 omega
theorem taught_ok {m:Em} (h:m.ok) {bs:List Int} (hb:Byte bs) (hl:bs.length ≤ 5000) (hroom:Gp.nbl (encL [(kp,bs,false)]) ≤ m.bk.lg.count - m.bk.lg.used) (hn:m.n + 200 ≤ 400000) (ns:List ByteArray) (cs:List Ins):(m.taught bs ns cs).ok:=by
 have h1:=one_ok h (y:=(kp,bs,false)) m.clock hb (fun k hk => akey_p hk) (sizeP hl) hroom hn
 exact ⟨h1.bok,h1.few,h1.rm,h1.tl,h1.tie,h1.own,h1.inv,h1.zer,h1.pnd,h1.wok⟩
theorem gd_p (l:List Int) (v:Value) (hl:l.length ≤ 20000):Gd [(kp,l,false,v)]:=
 ⟨fun x hx => by rw [List.mem_singleton.1 hx]; exact ⟨show 1 ≤ kp.size by decide,show kp.size ≤ 64 by decide⟩,by simp,fun x hx => by rw [List.mem_singleton.1 hx]; exact hl,by simp⟩
theorem teach_com {w W:World} {F:Nat → Prop} {p:Nat} {e:Ep} {m:Em} {bs:List Int} {g c3:Nat} {A3:Option Addr} (hs:Star (est p e m) w F) (hok:m.ok) (hu:Upd No w W)
 (hc:Cl W (fun k => w.heap.size ≤ k ∧ k < W.heap.size) (.slice (some ⟨g,0,none⟩) 1 1) [(kp,bs,false,.slice A3 bs.length c3)]) (hl:bs.length ≤ 5000) (hroom:Gp.nbl (encL [(kp,bs,false)]) ≤ m.bk.lg.count - m.bk.lg.used) :
 Calls Tryz.prog 42 #[.pointer (some ⟨e.b.q,0,none⟩),.slice (some ⟨g,0,none⟩) 1 1] W fun e' w' => e' = .returned (.int .i64 0) ∧ ∃ F',Star (est p e { m with bk:=comB m.bk [(kp,bs,false)],n:=m.n + 100 }) w' F' ∧ Mv F F' W w':=by
 have h:=bcommit_ (hs.quiet hu) hok hc (fun k hk => ⟨fun hf => by have:=hs.lt k hf; omega,hk.2⟩) (gd_p _ _ (by omega)) (by simp) (sizeP hl) hroom (by simp)
 exact h
theorem teach_set {W:World} {F9:Nat → Prop} {p:Nat} {e:Ep} {m:Em} {u v:Value} {bs:List Int} {ns:List ByteArray} {cs:List Ins} (hs:Star (est p e { m with bk:=comB m.bk [(kp,bs,false)],n:=m.n + 100 }) W F9) (hp:Pg W u v ns cs)
 (hf:∀ k,u.ownBlock = some k ∨ v.ownBlock = some k → ¬ F9 k ∧ k < W.heap.size) (hok:(m.taught bs ns cs).ok) :
 ∃ F',En ((W.setCell ⟨p,6,none⟩ u).setCell ⟨p,7,none⟩ v) F' p (m.taught bs ns cs) ∧ Upd F9 W ((W.setCell ⟨p,6,none⟩ u).setCell ⟨p,7,none⟩ v) ∧ ∀ k,F' k → F9 k ∨ u.ownBlock = some k ∨ v.ownBlock = some k:=by
 obtain ⟨G,_,hG,hgrow⟩:=Star.grow hs 7 (o:=m.po e.v6 e.v7) rfl
 obtain ⟨F2,k1,k2⟩:=hgrow W (fun k => u.ownBlock = some k ∨ v.ownBlock = some k) (prO ns cs u v) (Upd.refl _ _) (fun k hk => .inr (hf k hk).1) ⟨hp,fun k hk => hk,fun k hk => (hf k hk).2⟩
 obtain ⟨B,hb,hB,hput⟩:=k1.at_ 0 (o:=Ob.blk p 104 (ecs e { m with bk:=comB m.bk [(kp,bs,false)],n:=m.n + 100 })) rfl
 obtain ⟨g1,g2⟩:=Ob.blk_put hb 6 u
 obtain ⟨h1,h2⟩:=Ob.blk_put g1 7 v
 have e1:((ecs e { m with bk:=comB m.bk [(kp,bs,false)],n:=m.n + 100 }).setIfInBounds 6 u).setIfInBounds 7 v = ecs { e with v6:=u,v7:=v } (m.taught bs ns cs):=by simp [ecs,Em.taught]
 rw [e1] at h1
 obtain ⟨F3,j1,j2⟩:=hput _ B (Ob.blk p 104 (ecs { e with v6:=u,v7:=v } (m.taught bs ns cs))) (g2.trans h2) h1
 have hBF:∀ k,B k → F9 k:=fun k hk => by
  obtain ⟨B0,hb0,hB0,_⟩:=hs.at_ 0 (o:=Ob.blk p 104 (ecs e { m with bk:=comB m.bk [(kp,bs,false)],n:=m.n + 100 })) rfl
  exact hB0 k ((hb0.2 k).2 ((hb.2 k).1 hk))
 refine ⟨F3,⟨⟨_,j1⟩,hok⟩,(g2.trans h2).upd.mono fun k _ hk => hBF k hk,fun k hk => ?_⟩
 rcases j2.sub k hk with h9 | h9
 · exact (k2 k h9)
 · have hl:=j1.lt k hk
   have hz:((W.setCell ⟨p,6,none⟩ u).setCell ⟨p,7,none⟩ v).heap.size = W.heap.size:=by simp [World.setCell]
   rw [hz] at hl
   omega
def TeOut (w:World) (F:Nat → Prop) (p:Nat) (m:Em) (k:Nat) (ns:List ByteArray) (cs:List Ins) (e:Ending) (w':World):Prop:=∃ bs,e = .returned (.int .i64 0) ∧ bs.length ≤ k ∧ Kept w F p (m.taught bs ns cs) w'
theorem TeOut.of {w:World} {F:Nat → Prop} {p:Nat} {m:Em} {k:Nat} {ns:List ByteArray} {cs:List Ins} {e:Ending} {w':World} (h:∃ bs,e = .returned (.int .i64 0) ∧ bs.length ≤ k ∧ Kept w F p (m.taught bs ns cs) w'):TeOut w F p m k ns cs e w':=h
set_option maxRecDepth 100000 in
theorem teach_ {w:World} {F:Nat → Prop} {p:Nat} {m:Em} {u v:Value} {ns:List ByteArray} {cs:List Ins} (h:En w F p m) (hp:Pg w u v ns cs) (hfu:∀ k,u.ownBlock = some k ∨ v.ownBlock = some k → ¬ F k) (hn8:ns.length ≤ 8) (hc:cs.length ≤ 200) (hk:∀ s ∈ ns,Kk s) (hg:∀ i ∈ cs,Gi ns.length cs.length i) (hi:∀ i ∈ cs,Jn.I64 i.2 ∧ i.1 ≤ 100)
 (hn:m.n + 200 ≤ 400000) {K:Nat} (hK:K = 18 + 49 * ns.length + 18 * cs.length) (hK2:K ≤ 5000) (hroom:∀ bs:List Int,bs.length ≤ K → Gp.nbl (encL [(kp,bs,false)]) ≤ m.bk.lg.count - m.bk.lg.used) :
 Calls Tryz.prog 8 #[.pointer (some ⟨p,0,none⟩),.agg #[u,v]] w fun e w' => TeOut w F p m K ns cs e w':=by
 have HH:=hid (And.intro h (And.intro hp (And.intro hfu (And.intro hn (And.intro hK2 hroom)))))
 have HEn:=hid fun W (hu:Upd No w W) => Pr.encode_ (hp.quiet hu) hn8 hc hk hg hi
 rw [← hK] at HEn
 have HCp:=hid fun W (hq:Pg W u v ns cs) => Pr.copy_ hq hn8 hc
 obtain ⟨w1,pp,hw1,hpp⟩:∃ w1 pp,w1 = w.alloc (.cells #[u,v] 36) ∧ pp = w.heap.size:=⟨_,_,rfl,rfl⟩
 have hb1:Blk w1 pp 36 #[u,v]:=by rw [hw1,hpp]; exact Blk.fresh _ _ _
 have hu1:Upd No w w1:=by rw [hw1]; exact (Upd.refl _ _).alloc _
 have HB1:=hid (And.intro hb1 (And.intro hu1 (show ¬ F pp from fun hf => by have:=h.lt _ hf; omega)))
 have HG:=hid (gone_ (h.quiet hu1))
 have HW1:=hid (And.intro hw1 hpp)
 obtain ⟨_,_,_,_,hue,hve,_⟩:=hp.ex
 subst hue hve
 clear h hp hfu hn8 hc hk hg hi hn hK hK2 hroom hw1 hpp hb1 hu1
 go_enter Tryz.func8,Tryz.ntmps8
 go_wp2_with (fail)
 rw [← HW1.out.1]
 try rw [← HW1.out.2]
 clear HW1
 refine Calls.mono HG.out ?_
 rintro e w2 ⟨rfl,rfl⟩
 obtain ⟨b0,b1⟩:=At.box2 HB1.out.1
 clear HG
 go_wp2_with (fail)
 refine Calls.mono (HEn.out w1 HB1.out.2.1) ?_
 rintro e w3 ⟨bs,v3,rfl,hl3,hby3,ho3,hu3⟩
 obtain ⟨A3,c3,rfl,hc3,hcm3⟩:=own_shape ho3
 obtain ⟨e3,hs1⟩:=(HH.out.1.quiet HB1.out.2.1).ex
 have HS1:=hid hs1
 have p0:=keep0 hs1 hu3
 have HV3:=hid ((Vb.of_own ho3 hby3).mono fun k hk => hk.1)
 have HL3:=hid (And.intro hl3 (And.intro hby3 hu3))
 have HC:=hid fun W (hW:W = w3.alloc (.cells #[.string kp,.slice A3 bs.length c3,.bool false] 128)) => teach_com (bs:=bs) (A3:=A3) (c3:=c3) (g:=w3.heap.size) hs1 (HH.out.1.quiet HB1.out.2.1).ok (show Upd No w1 W by rw [hW]; exact hu3.alloc _) (cl_one HV3.out hW hu3.size) (by have:=HH.out.2.2.2.2.1; omega) (HH.out.2.2.2.2.2 bs hl3)
 clear hl3 hby3 ho3 hu3 hs1 b0 b1 HEn
 go_wp2_with (fail)
 refine Calls.mono (HC.out _ rfl) ?_
 rintro e w4 ⟨rfl,F4,hs4,hm4⟩
 have HX4:Hid (Upd F w w4 ∧ Upd F w1 w4 ∧ (∀ k,F4 k → F k ∨ w.heap.size ≤ k)):=hid (by
  have hu:=(HL3.out.2.2.alloc (.cells #[.string kp,.slice A3 bs.length c3,.bool false] 128))
  have g1:=(hu.mono fun _ _ h => h.elim).next hm4.upd
  refine ⟨(HB1.out.2.1.mono fun _ _ h => h.elim).next g1,g1,fun k hk => (hm4.sub k hk).imp id fun h9 => ?_⟩
  have:=HB1.out.2.1.size
  have:=hu.size
  exact by first | omega | (simp at *; omega))
 have hb4:=HB1.out.1.upd HX4.out.2.1 HB1.out.2.2
 have HP4:=hid (HH.out.2.1.upd HX4.out.1 HH.out.2.2.1)
 have HS4:=hid hs4
 obtain ⟨b0,b1⟩:=At.box2 hb4
 clear hs4 hm4 hb4 HC HV3 p0
 go_wp2_with (fail)
 refine Calls.mono (HCp.out w4 HP4.out) ?_
 rintro e w5 ⟨u5,v5,rfl,hp5,hf5,hu5⟩
 obtain ⟨A5,a5,B5,b5,hue5,hve5,_⟩:=hp5.ex
 subst hue5 hve5
 have hs5:=HS4.out.quiet hu5
 obtain ⟨G5,hb5,_⟩:=Star.own hs5 0 rfl
 have c6:=(ecells hb5.1).2.2.1
 have c7:=(ecells hb5.1).2.2.2.1
 have f6:=hb5.1.free 6
 have f7:=hb5.1.free 7
 have HEn:Hid (∃ F',En ((w5.setCell ⟨p,6,none⟩ (.slice A5 ns.length a5)).setCell ⟨p,7,none⟩ (.slice B5 cs.length b5)) F' p (m.taught bs ns cs) ∧ Mv F F' w ((w5.setCell ⟨p,6,none⟩ (.slice A5 ns.length a5)).setCell ⟨p,7,none⟩ (.slice B5 cs.length b5))):=hid (by
  have hlt:=HS4.out.lt
  obtain ⟨F',g1,g2,g3⟩:=teach_set (bs:=bs) hs5 hp5 (fun k hk => ⟨fun hf => by have:=hlt k hf; have:=(hf5 k hk).1; omega,(hf5 k hk).2⟩) (taught_ok HH.out.1.ok HL3.out.2.1 (by have:=HL3.out.1; have:=HH.out.2.2.2.2.1; omega) (HH.out.2.2.2.2.2 bs HL3.out.1) HH.out.2.2.2.1 ns cs)
  have hs:=HX4.out.1.size
  refine ⟨F',g1,(HX4.out.1.trans hu5 fun _ _ h => h.elim).trans g2 fun i hi hf => (HX4.out.2.2 i hf).elim id fun h9 => by omega,fun k hk => (g3 k hk).elim (HX4.out.2.2 k) fun h9 => .inr ?_⟩
  have:=(hf5 k h9).1
  omega)
 clear hs5 hb5 hp5 hf5 hu5 b0 b1 HCp
 obtain ⟨F6,hen6,hm6⟩:=HEn.out
 have HN6:=hid (And.intro hen6 hm6)
 have HE6:=hid (end_ok hen6)
 clear hen6 hm6 HEn
 go_wp2_with (fail)
 refine Calls.mono HE6.out ?_
 rintro e w7 ⟨rfl,rfl⟩
 go_wp2
 go_ret
 exact .of ⟨bs,rfl,HL3.out.1,F6,HN6.out.1,HN6.out.2⟩
end Eg
end
section
namespace Eg
open Go.RowKit B Cm Cr Cw Ou Lt Lc Pk
open Ac (Am fresh fresh_ok encA encA_le encA_byte freshB Fit)
open Bo (Bp Bm Cg bst La Vb Cl ccells bare encL sizeC)
open Nd (Rm Inv)
def Only (k:ByteArray) (a:Am):Prop:=∃ X,Fit X ∧ a = { fresh k with inb:=X }
theorem only_enc {k:ByteArray} {a:Am} (hk:Kk k) (h:Only k a):(encA a).length ≤ 1300:=by
 obtain ⟨X,hX,rfl⟩:=h
 have h1:=(num_length ((0:Nat):Int)).2
 have h2:=txl_le (Jn.encJ Jn.s0)
 have h3:=txl_le (packL X)
 have h4:=txl_le (encO (newO k))
 have h5:=txl_le (packL [])
 have h6:=Jn.encJ_le Jn.s0 rfl
 have h7:=Ac.pack_le hX
 have h8:(encO (newO k)).length ≤ 80:=by
  have g1:=txt_le k
  have g2:=(num_length (((newO k).ser.length:Nat):Int)).2
  have g3:=(num_length (((newO k).lst.length:Nat):Int)).2
  have g4:(serb (newO k).ser).length = 0:=rfl
  have g5:(outb (newO k).lst).length = 0:=rfl
  have g6:(newO k).own = k:=rfl
  have g7:=hk.2
  unfold encO
  simp only [List.length_append,g6] at *
  omega
 have h9:(packL []).length ≤ 9:=by decide
 have h10:Jn.s0.2.1.length = 0:=rfl
 have e:encA { fresh k with inb:=X } = num ((0:Nat):Int) ++ (txl (Jn.encJ Jn.s0) ++ (txl (packL X) ++ (txl (encO (newO k)) ++ txl (packL [])))):=rfl
 rw [e]
 simp only [List.length_append]
 rw [h10] at h6
 omega
theorem cell_lt {w:World} {a:Addr} {v:Value} (h:w.cell? a = some v):a.block < w.heap.size:=by
 rcases Nat.lt_or_ge a.block w.heap.size with h1 | h1
 · exact h1
 · unfold World.cell? at h
   rw [Array.getElem?_eq_none h1] at h
   cases h
theorem cell_keep {F:Nat → Prop} {w w':World} {a:Addr} {v:Value} (h:w.cell? a = some v) (hu:Upd F w w') (hn:¬ F a.block):w'.cell? a = some v:=by
 have e:=hu.block a.block (cell_lt h) hn
 unfold World.cell? at h ⊢
 rw [e]
 exact h
end Eg
end
section
namespace Eg
open Go.RowKit B Cm Cr Ou
open Ac (Am fresh fresh_ok encA encA_le encA_byte freshB)
open Bo (Bp Bm bst bcs tbO chO dkO lgO)
open Nd (Rm Inv)
open Dk (Dm)
open Fr (d0 bm0)
set_option maxRecDepth 100000 in
theorem bkeys_ {w:World} {F:Nat → Prop} {b:Bp} {m:Bm} {R:Ob} {n1 n2:Nat} (h:Star (bst b m n1 n2 R) w F) (hn:n1 ≤ 1000000) (ht:m.tab = fun _ => none) (x y:ByteArray) :
 Calls Tryz.prog 98 #[.pointer (some ⟨b.q,0,none⟩),.string x,.string y] w fun e w' => e = .returned (.slice none 0 0) ∧ Upd No w w':=by
 obtain ⟨B,hb,_⟩:=Star.own h 0 rfl
 have c6:=(Bo.bcells hb.1).2.2.1
 obtain ⟨T,⟨mm,G,hms,hmt,_⟩,_⟩:=Star.own h 1 (o:=tbO b.b1 n1 m.tab) rfl
 have HSo:=hid (Tj.sortedB hms hn (ks:=[]) (by simp) (fun s hs => by
  have:=hmt s hs
  rw [ht] at this
  simp only at this
  simp [this]) (by simp))
 clear h hb hms hmt ht
 go_enter Tryz.func98,Tryz.ntmps98
 go_wp2_with (fail)
 refine Calls.mono (Tj.keysB b.b1 w) ?_
 rintro e w4 ⟨rfl,rfl⟩
 go_wp2_with (fail)
 refine Calls.mono HSo.out ?_
 rintro e w5 ⟨A5,c5,rfl,_,hu5⟩
 rw [List.length_nil]
 have HU:=hid (((Upd.refl No w).alloc (.cells #[.map (some b.b1)] 179)).next hu5)
 clear hu5 HSo c6
 go_wp2_with (fail)
 go_loopw [7,19] (fun v7 v19 W => v7 = .slice none 0 0 ∧ v19 = .int .i64 0 ∧ Hid (W = w5)) (fun _ _ _ => 0)
 case atStart => exact ⟨rfl,rfl,hid rfl⟩
 case round =>
  obtain ⟨rfl,rfl,hW⟩:=hrel
  obtain rfl:=hW.out
  go_wp2
  go_ret
  exact ⟨rfl,HU.out⟩
set_option maxRecDepth 100000 in
theorem ekeys_ {w:World} {F:Nat → Prop} {p:Nat} {e:Ep} {m:Em} (h:Star (est p e m) w F) (hn:m.n ≤ 1000000) (ht:m.bk.tab = fun _ => none) :
 Calls Tryz.prog 37 #[.pointer (some ⟨p,0,none⟩)] w fun e w' => e = .returned (.slice none 0 0) ∧ Upd No w w':=by
 obtain ⟨B,hb,_⟩:=Star.own h 0 rfl
 have c0:=(ecells hb.1).1.1
 obtain ⟨T,⟨n1,n2,hn1,hn2,hbs⟩,_⟩:=Star.own h 1 (o:=bkO e.b m.bk m.n (m.R e.b)) rfl
 have HK:=hid (bkeys_ hbs (by omega) ht ⟨#[97]⟩ ⟨#[98]⟩)
 clear h hb hbs ht
 go_enter Tryz.func37,Tryz.ntmps37
 go_wp2_with (fail)
 refine Calls.mono HK.out ?_
 rintro e w5 ⟨rfl,hu5⟩
 have HU:=hid hu5
 clear hu5 HK c0
 go_wp2_with (fail)
 go_loopw [3,14] (fun v3 v14 W => v3 = .slice none 0 0 ∧ v14 = .int .i64 0 ∧ Hid (W = w5)) (fun _ _ _ => 0)
 case atStart => exact ⟨rfl,rfl,hid rfl⟩
 case round =>
  obtain ⟨rfl,rfl,hW⟩:=hrel
  obtain rfl:=hW.out
  go_wp2
  go_ret
  exact ⟨rfl,HU.out⟩
def em0 (p nb:Nat) (res:Int):Em:=⟨bm0 nb,1000,At.clip res,[],fresh,⟨[],[]⟩,[],[],0,fun b => Ob.and (b.pd = p) (Ob.star []),fun _ _ => Ob.star []⟩
theorem em0_ok {p nb:Nat} {res:Int} (h:24 ≤ nb ∧ nb ≤ 65536):(em0 p nb res).ok:=by
 have hc:=At.clip_le res
 refine ⟨Fr.bm0_ok h,by show 1000 ≤ 400000; omega,?_,⟨by simp [em0],by simp [em0]⟩,fun k hk => .inr ⟨rfl,rfl⟩,fun k hk => rfl,⟨by simp [em0],by simp [em0],by simp [em0],by simp [em0]⟩,fun k hk _ => rfl,⟨Nat.zero_le _,Nat.zero_le _⟩,Wp.Ok.nil⟩
 show At.mst (At.clip res) ≤ 10000
 rw [At.mst_clip]
 exact hc.2
def EoOut (w:World) (D:Nat → Prop) (p nb:Nat) (res:Int) (e:Ending) (w':World):Prop:=∃ q F,e = .returned (.tuple #[.pointer (some ⟨q,0,none⟩),.int .i64 0]) ∧ En w' F q (em0 p nb res) ∧ (∀ k,F k → D k ∨ w.heap.size ≤ k) ∧ Upd No w w'
theorem EoOut.of {w:World} {D:Nat → Prop} {p nb:Nat} {res:Int} {e:Ending} {w':World} (h:∃ q F,e = .returned (.tuple #[.pointer (some ⟨q,0,none⟩),.int .i64 0]) ∧ En w' F q (em0 p nb res) ∧ (∀ k,F k → D k ∨ w.heap.size ≤ k) ∧ Upd No w w'):EoOut w D p nb res e w':=h
structure Ox (w W:World) (D:Nat → Prop) (l:List Ob):Prop where
 ex:∃ F,Star l W F ∧ ∀ k,F k → D k ∨ w.heap.size ≤ k
 upd:Upd No w W
theorem Ox.quiet {w W W':World} {D:Nat → Prop} {l:List Ob} (h:Ox w W D l) (hu:Upd No W W'):Ox w W' D l:=by
 obtain ⟨F,h1,h2⟩:=h.ex
 exact ⟨⟨F,h1.quiet hu,h2⟩,h.upd.next hu⟩
theorem Ox.push {w W W':World} {D G:Nat → Prop} {l:List Ob} {o:Ob} (h:Ox w W D l) (hu:Upd No W W') (ho:o.is W' G) (hG:∀ k,G k → W.heap.size ≤ k):Ox w W' D (o :: l):=by
 obtain ⟨F,h1,h2⟩:=h.ex
 obtain ⟨F',h3,h4⟩:=h1.push hu ho hG
 have hs:=h.upd.size
 exact ⟨⟨F',h3,fun k hk => (h4.sub k hk).elim (h2 k) fun h9 => .inr (by omega)⟩,h.upd.next hu⟩
theorem est_perm (p:Nat) (e:Ep) (m:Em):[Ob.blk p 104 (ecs e m),m.po e.v6 e.v7,Cn.ctO e.pc,wdO e.pw m.win m.n,qoO e.pq m.q,rsO e.ba m.n m.act m.wh,taO e.pt m.room m.tx,bkO e.b m.bk m.n (m.R e.b)].Perm (est p e m):=
 List.Perm.cons _ (List.reverse_perm _).symm
set_option maxRecDepth 100000 in
theorem open_ {w:World} {D:Nat → Prop} {p nb:Nat} (h:Dk.Dk w D p (d0 nb)) (hnb:24 ≤ nb ∧ nb ≤ 65536) (res:Int) (hres:-9223372036854775808 ≤ res ∧ res ≤ 9223372036854775807) :
 Calls Tryz.prog 6 #[.pointer (some ⟨p,0,none⟩),.int .i64 res] w fun e w' => EoOut w D p nb res e w':=by
 have HN:=hid hnb
 have HB:=hid (Fr.open_ h hnb)
 have hmk:=@run_makeMap Tryz.prog
 clear h hnb
 go_enter Tryz.func6,Tryz.ntmps6
 go_wp2_with (fail)
 refine Calls.mono HB.out ?_
 rintro e w1 ⟨b,F1,rfl,hpd,hst1,hF1,hu1⟩
 have HX1:Hid (Ox w w1 D [bkO b (bm0 nb) 1000 (Ob.and (b.pd = p) (Ob.star []))]):=hid ⟨⟨F1,⟨F1,No,⟨0,0,Nat.zero_le _,Nat.zero_le _,hst1⟩,(fun k hk => hk.elim),fun _ _ h => h,fun _ h => h,fun _ h => h.elim,hst1.lt⟩,hF1⟩,hu1⟩
 clear hst1 hF1 hu1 HB hpd
 go_wp2_with (fail)
 refine Calls.mono (At.new_ res w1) ?_
 rintro e w2 ⟨rfl,hta,hu2⟩
 have HX2:=hid (HX1.out.push (G:=fun k => k = w1.heap.size) hu2 (o:=taO w1.heap.size (At.clip res) []) hta (fun k hk => by rw [hk]; exact Nat.le_refl _))
 have HX3:=hid (HX2.out.push (G:=fun k => k = w2.heap.size) ((Upd.refl No w2).alloc (.map #[] 0)) (o:=rsO w2.heap.size 1000 fresh ⟨[],[]⟩) (Rs.made w2 fresh 1000 ⟨[],[]⟩) (fun k hk => by rw [hk]; exact Nat.le_refl _))
 obtain ⟨w3,hw3⟩:∃ w3,w3 = w2.alloc (.map #[] 0):=⟨_,rfl⟩
 clear hta hu2 HX1 HX2
 go_wp2_with (fail)
 rw [← hw3] at HX3 ⊢
 clear hw3
 refine Calls.mono (Nd.new_ w3) ?_
 rintro e w4 ⟨rfl,hw4⟩
 have HX4:=hid (HX3.out.push (G:=fun k => k = w3.heap.size) (W':=w4) (by rw [← hw4]; exact (Upd.refl _ _).alloc _) (o:=qoO w3.heap.size []) (by rw [← hw4]; exact Nd.Qo.new w3) (fun k hk => by rw [hk]; exact Nat.le_refl _))
 clear hw4 HX3
 go_wp2_with (fail)
 refine Calls.mono (Ww.new_ w4) ?_
 rintro e w5 ⟨rfl,hw5⟩
 have HX5:=hid (HX4.out.push (G:=fun k => k = w4.heap.size) (W':=w5) (by rw [hw5]; exact (Upd.refl _ _).alloc _) (o:=wdO w4.heap.size [] 1000) (by rw [hw5]; exact ⟨_,_,_,_,(Ww.Wx.new rfl).mono (Nat.zero_le _)⟩) (fun k hk => by rw [hk]; exact Nat.le_refl _))
 clear hw5 HX4
 go_wp2_with (fail)
 refine Calls.mono (Cn.new_ w5) ?_
 rintro e w6 ⟨rfl,hu6,hct⟩
 have HX6:=hid ((HX5.out.push (G:=fun k => k = w5.heap.size) hu6 (o:=Cn.ctO w5.heap.size) hct (fun k hk => by rw [hk]; exact Nat.le_refl _)).push (Upd.refl No w6) (o:=Ob.star []) (G:=No) (fun k hk => hk.elim) (fun k hk => hk.elim))
 clear hu6 hct HX5
 have HE:Hid (∃ w7 q e,w7 = w6.alloc (.cells #[.pointer (some ⟨b.q,0,none⟩),.pointer (some ⟨w1.heap.size,0,none⟩),.map (some w2.heap.size),.pointer (some ⟨w3.heap.size,0,none⟩),.pointer (some ⟨w4.heap.size,0,none⟩),.int .i64 0,.slice none 0 0,.slice none 0 0,.pointer (some ⟨w5.heap.size,0,none⟩),.bool false] 104) ∧ q = w6.heap.size ∧
  e.b = b ∧ Ox w w7 D (est q e (em0 p nb res))):=hid (by
  refine ⟨_,_,⟨b,w1.heap.size,w2.heap.size,w3.heap.size,w4.heap.size,w5.heap.size,.slice none 0 0,.slice none 0 0⟩,rfl,rfl,rfl,?_⟩
  have h7:=HX6.out.push ((Upd.refl No w6).alloc _) (Ob.blk_is (Blk.fresh w6 104 (ecs ⟨b,w1.heap.size,w2.heap.size,w3.heap.size,w4.heap.size,w5.heap.size,.slice none 0 0,.slice none 0 0⟩ (em0 p nb res)))) (fun k hk => by rw [hk]; exact Nat.le_refl _)
  obtain ⟨F7,g1,g2⟩:=h7.ex
  exact ⟨⟨F7,g1.perm (est_perm _ _ _),g2⟩,h7.upd⟩)
 clear HX6
 go_wp2_with (fail)
 obtain ⟨w7,q,e,hw7,hq,heb,hX7⟩:=HE.out
 rw [← hw7,← hq]
 subst heb
 have HX7:=hid hX7
 have HGt:Hid (∀ W k,Upd No w7 W → Ms.Ks k → Calls Tryz.prog 30 #[.pointer (some ⟨e.b.q,0,none⟩),.string k] W fun e w' => (∃ A c,e = .returned (.tuple #[.slice A 0 c,.bool false])) ∧ Upd No W w'):=hid fun W k hu hk => by
  obtain ⟨F7,g1,_⟩:=(hX7.quiet hu).ex
  obtain ⟨T,⟨n1,n2,hn1,hn2,hbs⟩,_⟩:=Star.own g1 1 (o:=bkO e.b (bm0 nb) 1000 (Ob.and (e.b.pd = p) (Ob.star []))) rfl
  refine (Bo.get hbs (by omega) hk (by simp [bm0])).mono ?_
  rintro e' w' ⟨A,c,rfl,_,_,hu'⟩
  exact ⟨⟨A,c,rfl⟩,hu'⟩
 have HKs:Hid (∀ W,Upd No w7 W → Calls Tryz.prog 37 #[.pointer (some ⟨q,0,none⟩)] W fun e w' => e = .returned (.slice none 0 0) ∧ Upd No W w'):=hid fun W hu => by
  obtain ⟨F7,g1,_⟩:=(hX7.quiet hu).ex
  exact ekeys_ g1 (by show 1000 ≤ 1000000; omega) rfl
 clear hw7 hq hX7 HE
 refine Calls.mono (HGt.out w7 _ (Upd.refl _ _) (by simp [Ms.Ks,maxLen]; decide)) ?_
 rintro e1 w8 ⟨⟨A8,c8,rfl⟩,hu8⟩
 go_wp2_with (fail)
 refine Calls.mono (HGt.out w8 _ hu8 (by simp [Ms.Ks,maxLen]; decide)) ?_
 rintro e1 w9 ⟨⟨A9,c9,rfl⟩,hu9⟩
 have hu9:=hu8.next hu9
 go_wp2_with (fail)
 refine Calls.mono (HGt.out w9 _ hu9 (by simp [Ms.Ks,maxLen]; decide)) ?_
 rintro e1 w10 ⟨⟨A10,c10,rfl⟩,hu10⟩
 have hu10:=hu9.next hu10
 go_wp2_with (fail)
 refine Calls.mono (HGt.out w10 _ hu10 (by simp [Ms.Ks,maxLen]; decide)) ?_
 rintro e1 w11 ⟨⟨A11,c11,rfl⟩,hu11⟩
 have hu11:=hu10.next hu11
 go_wp2_with (fail)
 refine Calls.mono (HKs.out w11 hu11) ?_
 rintro e1 w12 ⟨rfl,hu12⟩
 have HU12:=hid (hu11.next hu12)
 clear hu8 hu9 hu10 hu11 hu12 HGt HKs
 go_wp2_with (fail)
 go_loopw [9,127] (fun v9 v127 W => v9 = .bool true ∧ v127 = .int .i64 0 ∧ Hid (W = w12)) (fun _ _ _ => 0)
 case atStart => exact ⟨rfl,rfl,hid rfl⟩
 case round =>
  obtain ⟨rfl,rfl,hW⟩:=hrel
  obtain rfl:=hW.out
  go_wp2
  go_ret2
  obtain ⟨F,g1,g2⟩:=(HX7.out.quiet HU12.out).ex
  exact .of ⟨q,F,rfl,⟨⟨e,g1⟩,em0_ok HN.out⟩,g2,HX7.out.upd.next HU12.out⟩
end Eg
end
section
namespace Eg
open Go.RowKit B Cm Cr Ou
open Dk (Dm)
open Fr (d0 bm0)
theorem disk_ (nb:Nat) (w:World) (hn:nb ≤ 65536):Calls Tryz.prog 7 #[.int .i64 nb] w fun e w' => ∃ p D,e = .returned (.pointer (some ⟨p,0,none⟩)) ∧ Dk.Dk w' D p (d0 nb) ∧ (∀ k,D k → w.heap.size ≤ k) ∧ Upd No w w':=by
 have h:=Dk.new_ nb w
 rw [show (min (max (nb:Int) 0) 65536).toNat = nb from by omega] at h
 refine h.mono ?_
 rintro e w' ⟨p,D,rfl,h1,h2,h3⟩
 exact ⟨p,D,rfl,h1,h3,Upd.of_below No h2⟩
structure Wl (w W:World) (F:Nat → Prop) (q pe p:Nat) (m:Em):Prop where
 blk:Blk W q 168 #[.pointer (some ⟨p,0,none⟩),.pointer (some ⟨pe,0,none⟩),.int .i64 2]
 en:En W F pe m
 own:¬ F q ∧ w.heap.size ≤ q ∧ ∀ k,F k → w.heap.size ≤ k
 upd:Upd No w W
def WnOut (w:World) (e:Ending) (w':World):Prop:=∃ q pe p F,e = .returned (.tuple #[.pointer (some ⟨q,0,none⟩),.int .i64 0]) ∧ Wl w w' F q pe p (em0 p 200 2)
theorem WnOut.of {w:World} {e:Ending} {w':World} (h:∃ q pe p F,e = .returned (.tuple #[.pointer (some ⟨q,0,none⟩),.int .i64 0]) ∧ Wl w w' F q pe p (em0 p 200 2)):WnOut w e w':=h
set_option maxRecDepth 100000 in
theorem wnew_ (w:World):Calls Tryz.prog 23 #[.int .i64 200,.int .i64 2] w fun e w' => WnOut w e w':=by
 have HD:=hid (show Calls Tryz.prog 7 #[.int .i64 200] w _ from disk_ 200 w (by omega))
 go_enter Tryz.func23,Tryz.ntmps23
 go_wp2_with (fail)
 refine Calls.mono HD.out ?_
 rintro e w1 ⟨p,D,rfl,hdk,hD,hu1⟩
 have HB:Hid (∃ w2 q,w2 = w1.alloc (.cells #[.pointer (some ⟨p,0,none⟩),.pointer none,.int .i64 2] 168) ∧ q = w1.heap.size ∧ Blk w2 q 168 #[.pointer (some ⟨p,0,none⟩),.pointer none,.int .i64 2] ∧ Dk.Dk w2 D p (d0 200) ∧ ¬ D q ∧ (∀ k,D k → w.heap.size ≤ k) ∧ w.heap.size ≤ q ∧ Upd No w w2):=
  hid ⟨_,_,rfl,rfl,Blk.fresh _ _ _,hdk.upd ((Upd.refl No _).alloc _) fun _ _ => no_ _,fun hd => by have:=hdk.lt _ hd; omega,hD,hu1.size,hu1.alloc _⟩
 obtain ⟨w2,q,hw2,hq,hb2,hdk2,hn2,hD2,hlo,hu2⟩:=HB.out
 have c0:w2.cell? ⟨q,0,none⟩ = some (.pointer (some ⟨p,0,none⟩)):=by simpa using hb2.cell 0
 have HO:=hid (open_ hdk2 (by omega) 2 (by omega))
 have HX:=hid (And.intro hb2 (And.intro hn2 (And.intro hD2 (And.intro hlo hu2))))
 rw [hw2] at c0
 rw [hq] at c0
 clear hdk hD hu1 hb2 hdk2 hn2 hD2 hlo hu2 HD
 go_wp2_with (fail)
 rw [← hw2]
 try rw [← hq]
 clear c0 hw2 hq HB
 refine Calls.mono HO.out ?_
 rintro e w3 ⟨pe,F,rfl,hen,hF,hu3⟩
 obtain ⟨hb2,hn2,hD2,hlo,hu2⟩:=HX.out
 have hb3:=hb2.upd hu3 (no_ _)
 have f1:=hb3.free 1
 have o1:w3.cell? ⟨q,1,none⟩ = some (.pointer none):=by simpa using hb3.cell 1
 have hl2:=hb2.lt
 have hu4:Upd (fun k => k = q) w3 (w3.setCell ⟨q,1,none⟩ (.pointer (some ⟨pe,0,none⟩))):=Upd.set1 (Upd.refl _ _) _ _
 have hFq:¬ F q:=fun hf => (hF q hf).elim hn2 fun h9 => by omega
 have HW:Hid (Wl w (w3.setCell ⟨q,1,none⟩ (.pointer (some ⟨pe,0,none⟩))) F q pe p (em0 p 200 2)):=hid ⟨hb3.put 1 _,hen.upd hu4 fun k hk e => hFq (e ▸ hk),⟨hFq,hlo,fun k hk => (hF k hk).elim (hD2 k) fun h9 => by have:=hu2.size; omega⟩,(hu2.next hu3).trans hu4 fun i hi e => by omega⟩
 clear hb2 hn2 hD2 hlo hu2 hb3 hl2 hu4 hFq hen hF hu3 HX HO
 go_wp2
 go_ret2
 exact .of ⟨q,pe,p,F,rfl,HW.out⟩
end Eg
end
