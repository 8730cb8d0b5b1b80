/- Part 44: lemmas, no conditions. -/
import Derived.Test.YtclfmpieapbfnaaGreatDoorZ43
set_option maxHeartbeats 8000000
set_option linter.unusedVariables false
set_option linter.unusedSimpArgs false
section
namespace Go.Proofs.YtclfmpieapbfnaaGreatDoor.Eg
open Go.RowKit B Cm Cr Ou
open Ac (Am fresh fresh_ok encA encA_le encA_byte freshB)
open Bo (Bp Bm Cg bst La Vb Cl ccells bare encL sizeC)
open Nd (Rm Inv)
structure Pre (w:World) (F V:Nat → Prop) (p:Nat) (m:Em) (ac:List (Nat × Am)) (qv:Option (Nat × List Rm)) (wv:Option (Nat × Wp.St)) (A:Option Addr) (c:Nat):Prop where
 en:En w F p m
 tidy:m.tidy
 st:Star (ac.map acO ++ (qL qv ++ wL m.n wv)) w V
 vf:∀ k,V k → ¬ F k
 row:Rd w 1 A ac.length (ptrs ac)
 rowF:0 < ac.length → ∀ ad,A = some ad → ¬ F ad.block
 cap:ac.length ≤ c ∧ c ≤ maxLen
 ok:∀ x ∈ ac,x.2.ok BB ∧ (x.2.jn.2.2 = 0 → x.2.jn = Jn.s0)
 nd:(ac.map fun x => x.2.out.own).Pairwise (· ≠ ·)
 qok:∀ x,qv = some x → Inv x.2
 wok:∀ x,wv = some x → Wp.Ok x.2
 few:ac.length ≤ 40
 ne:chs ac qv wv ≠ []
 size:sizeC (chs ac qv wv) ≤ 40000
 room:Gp.nbl (encL (chs ac qv wv)) ≤ m.bk.lg.count - m.bk.lg.used
 n:m.n + 200 ≤ 400000
 one:qv = none ∨ wv = none
section
variable {w W:World} {F V:Nat → Prop} {p:Nat} {m:Em} {ac:List (Nat × Am)} {qv:Option (Nat × List Rm)} {wv:Option (Nat × Wp.St)} {A:Option Addr} {c:Nat}
theorem Pre.at_ (h:Pre w F V p m ac qv wv A c) (hu:Upd No w W) {j:Nat} (hj:j < ac.length):∃ G,Ac.At W G ac[j].1 ac[j].2 ∧ ∀ k,G k → V k:=by
 obtain ⟨G,h1,h2⟩:=Star.nth (h.st.quiet hu) (j:=j) (by simpa using hj)
 refine ⟨G,?_,h2⟩
 simpa [acO] using h1
theorem Pre.cell (h:Pre w F V p m ac qv wv A c) (hu:Upd No w W) {j:Nat} (hj:j < ac.length):∃ ad,A = some ad ∧ W.cell? (ad.add j) = some (.pointer (some ⟨ac[j].1,0,none⟩)):=by
 obtain ⟨ad,e,hc⟩:=(Rd.upd0 h.row (by omega) hu fun _ _ _ => no_ _).2 (by omega)
 exact ⟨ad,e,hc j _ (by simp [ptrs,hj])⟩
end
theorem step_of {w W:World} {pu:Nat} {sa vq vw vl' s2:Value} {xs:List Cg} {ac:List (Nat × Am)} {j q:Nat} {a:Am} {ea:List Int} (hx:xs.map bare = (ac.take j).map chA) (hl:xs.length = j) (ht:(ac.take (j + 1)).map chA = (ac.take j).map chA ++ [chA (q,a)]) (he:ea = encA a)
 (hc:Ci w W pu sa vq vw (xs ++ [(akey a.out.own,ea,freshB a,s2)]) vl'):∃ xs' vl',xs'.map bare = (ac.take (j + 1)).map chA ∧ xs'.length = j + 1 ∧ Ci w W pu sa vq vw xs' vl':=by
 refine ⟨_,_,?_,?_,hc⟩
 · rw [List.map_append,hx,ht,he]
   rfl
 · rw [List.length_append,hl]
   rfl
theorem encQ_small {l:List Rm} (h:Inv l):(Nd.encQ l).length ≤ 8009:=by
 have h1:=Nd.encQ_take_le h l.length
 rw [List.take_length] at h1
 have h3:=(num_length (l.length:Int)).2
 unfold Nd.encQ
 simp only [List.length_append]
 omega
theorem com_keep {W:World} {F:Nat → Prop} {p pu:Nat} {e:Ep} {m:Em} {sa vq vw vl:Value} (hs:Star (est p e m) W F) (hb:Blk W pu 143 #[sa,vq,vw,vl]) :
 W.cell? ⟨p,0,none⟩ = some (.pointer (some ⟨e.b.q,0,none⟩)) ∧ W.cell? ⟨pu,3,none⟩ = some vl:=by
 obtain ⟨B0,hb0,_⟩:=Star.own hs 0 rfl
 exact ⟨(ecells hb0.1).1.1,by simpa using hb.cell 3⟩
theorem qstep {w W:World} {pu q:Nat} {sa vq vw vl' s2:Value} {xs:List Cg} {ac:List (Nat × Am)} {l:List Rm} {eq:List Int} (hx:xs.map bare = ac.map chA) (hl:xs.length ≤ 40) (he:eq = Nd.encQ l)
 (hc:Ci w W pu sa vq vw (xs ++ [(kr,eq,false,s2)]) vl'):∃ vl xs',xs'.map bare = chs ac (some (q,l)) none ∧ xs'.length ≤ 41 ∧ Ci w W pu sa vq vw xs' vl:=by
 refine ⟨_,_,?_,?_,hc⟩
 · rw [List.map_append,hx,he]
   rfl
 · rw [List.length_append]
   simp only [List.length_singleton]
   omega
theorem wstep {w W:World} {pu q:Nat} {sa vq vw vl' s2:Value} {xs:List Cg} {ac:List (Nat × Am)} {x:Wp.St} {eq:List Int} (hx:xs.map bare = ac.map chA) (hl:xs.length ≤ 40) (he:eq = We.encX x)
 (hc:Ci w W pu sa vq vw (xs ++ [(kw,eq,false,s2)]) vl'):∃ vl xs',xs'.map bare = chs ac none (some (q,x)) ∧ xs'.length ≤ 41 ∧ Ci w W pu sa vq vw xs' vl:=by
 refine ⟨_,_,?_,?_,hc⟩
 · rw [List.map_append,hx,he]
   rfl
 · rw [List.length_append]
   simp only [List.length_singleton]
   omega
set_option maxRecDepth 100000 in
theorem commit_ {w:World} {F V:Nat → Prop} {p:Nat} {m:Em} {ac:List (Nat × Am)} {qv:Option (Nat × List Rm)} {wv:Option (Nat × Wp.St)} {A:Option Addr} {c:Nat} (h:Pre w F V p m ac qv wv A c) :
 Calls Tryz.prog 54 #[.pointer (some ⟨p,0,none⟩),.agg #[.slice A ac.length c,qP qv,wP wv,.slice none 0 0]] w fun e w' => CmOut w F V p m ac qv wv e w':=by
 have HP:=hid h
 have hfew:=h.few
 have HU:Hid (∃ w0 pu,w0 = w.alloc (.cells #[.slice A ac.length c,qP qv,wP wv,.slice none 0 0] 143) ∧ pu = w.heap.size ∧ Ci w w0 pu (.slice A ac.length c) (qP qv) (wP wv) [] (.slice none 0 0)):=
  hid ⟨_,_,rfl,rfl,Blk.fresh _ _ _,Sl.nil _ _ _ _,(fun _ h => by cases h),(Upd.refl _ _).alloc _,Nat.le_refl _⟩
 have hqo:(qP qv).oneCell' = true:=by cases qv <;> rfl
 have hwo:(wP wv).oneCell' = true:=by cases wv <;> rfl
 clear h
 go_enter Tryz.func54,Tryz.ntmps54
 obtain ⟨w0,pu,hw0,hpu,hC0⟩:=HU.out
 obtain ⟨k0,_⟩:=hC0.cells
 rw [hw0,hpu] at k0
 go_wp2_with (fail)
 rw [← hw0,← hpu]
 have HC:=hid (show Ci w w0 pu (.slice A ac.length c) (qP qv) (wP wv) [] (.slice none 0 0) from hC0)
 clear hC0 hw0 hpu k0 HU
 go_loopw [15] (fun v15 W => ∃ (j:Nat) (xs:List Cg) (vl:Value),j ≤ ac.length ∧ v15 = .int .i64 j ∧ Hid (xs.map bare = (ac.take j).map chA) ∧ Hid (xs.length = j) ∧ Hid (Ci w W pu (.slice A ac.length c) (qP qv) (wP wv) xs vl)) (fun v15 _ => ac.length - (intOf v15).toNat)
 case atStart => exact ⟨0,[],_,by omega,rfl,hid (by simp),hid rfl,HC⟩
 case round =>
  clear HC
  obtain ⟨j,xs,vl,hj,rfl,HX,HLn,HC⟩:=hrel
  by_cases hlt:j < ac.length
  · obtain ⟨ad,rfl,hcell⟩:=HP.out.cell HC.out.upd hlt
    have hk:Kk ac[j].2.out.own:=(HP.out.ok _ (List.getElem_mem hlt)).1.out.key
    have HAt:=hid (fun (W:World) (hu:Upd No w W) => HP.out.at_ hu hlt)
    have HAo:=hid (HP.out.ok _ (List.getElem_mem hlt)).1
    have HTk:=hid (show (ac.take (j + 1)).map chA = (ac.take j).map chA ++ [chA ac[j]] by
     rw [List.take_succ_eq_append_getElem hlt,List.map_append]
     rfl)
    generalize ac[j] = y at *
    obtain ⟨q,a⟩:=y
    simp only at hcell hk
    have HAt2:Hid (∀ W,Upd No w W → ∃ G,Ac.At W G q a):=hid fun W hu => (HAt.out W hu).imp fun _ h => h.1
    have HEn:=hid (fun (W:World) (hu:Upd No w W) => (HAt2.out W hu).elim fun _ h => Ac.encode h HAo.out (by unfold BB; omega))
    have HKy:=hid (fun (W:World) (hu:Upd No w W) => (HAt2.out W hu).elim fun _ h => Ac.key_ h)
    have HFr:=hid (fun (W:World) (hu:Upd No w W) => (HAt2.out W hu).elim fun _ h => Ac.fresh_ h HAo.out)
    have hj1:(0:Int) ≤ (j:Int):=by omega
    have hj2:(j:Int) < (ac.length:Int):=by omega
    have HE:=hid (HEn.out wr HC.out.upd)
    clear HAt
    go_wp2_with (fail)
    refine Calls.mono HE.out ?_
    rintro e w2 ⟨A2,c2,rfl,hc2,hcm2,hr2,hu2,hf2⟩
    have HV2:Hid (Vb w2 (fun k => wr.heap.size ≤ k) (.slice A2 (encA a).length c2) (encA a)):=hid ⟨A2,c2,rfl,hc2,hcm2,hr2,fun _ ad e => hf2 ad e,encA_byte HAo.out⟩
    have HU2:=hid hu2
    have hCd:=(HC.out.quiet hu2).quiet ((Upd.refl _ w2).drew)
    have hUd:Upd No w w2.drew:=hCd.upd
    have k3:=hCd.cells.2.2.2
    have HCd:=hid hCd
    have HCr:=hid HC.out
    have HCw:=hid (HC.out.quiet hu2)
    have hxl:xs.length ≤ 40:=by have:=HLn.out; omega
    have hcat:=fun W => akey_run a.out.own hk W
    have HKd:=hid (HKy.out _ hUd)
    have HFd:=hid (HFr.out _ hUd)
    have hle:=encA_le HAo.out
    obtain ⟨ea,hea⟩:∃ ea,ea = encA a:=⟨_,rfl⟩
    rw [← hea] at hle HV2
    have HEa:=hid hea
    rw [← hea]
    clear HE hc2 hcm2 hr2 hu2 hf2 hCd hcell hea
    go_wp2_with (fail)
    refine wp_region_held_drew (S:=fun _ => True) (by kernel_rfl) trivial (fun hS => ?_)
    refine zt 0 hS ?_
    refine zt 2 hS ?_
    refine zt 5 hS ?_
    refine zt 6 hS ?_
    refine rg_two 1 3 (by kernel_rfl) ?_ ?_
    focus
     refine zs 1 (fun K hK => ?_)
     go_simp
     refine hK.out _ _ (trivial) (fun hS => ?_)
     clear hK K
     try simp only [Act.put,zA,zB,zC]
     refine zk 3 (fun K hK => ?_)
     go_simp
     refine Calls.mono HKd.out ?_
     rintro e w3 ⟨rfl,rfl⟩
     go_wp2_with (fail)
     refine hK.out _ _ (trivial) (fun hS => ?_)
     clear hK K
     try simp only [Act.put,zA,zB,zC]
     refine zh 4 hS (fun w hw => hcat w) ?_
     refine zk 7 (fun K hK => ?_)
     go_simp
     refine Calls.mono HFd.out ?_
     rintro e w3 ⟨rfl,rfl⟩
     go_wp2_with (fail)
     refine hK.out _ _ (trivial) (fun hS => ?_)
     clear hK K
     try simp only [Act.put,zA,zB,zC]
     refine zt 8 hS ?_
     refine zk 9 (fun K hK => ?_)
     go_simp
     refine hK.out _ _ (trivial) (fun hS => ?_)
     clear hK K
     try simp only [Act.put,zA,zB,zC]
     refine rg_world fun W8 hW8 => ?_
     first | have hR:=boxed3 hW8 | have hR:=boxed3d hW8
     have hu8:Upd No w2 W8:=by rw [hW8]; first | exact ((Upd.refl _ _).drew).alloc _ | exact ((Upd.refl _ _).alloc _).drew
     have hC8:=HCw.out.quiet hu8
     have hO8:=hC8.sl
     have hb8:=hC8.upd.size
     have k8:=hC8.cells.2.2.2
     clear hW8
     refine zk 10 (fun K hK => ?_)
     refine wp_ap_sl w.heap.size (.tmp 25) (.tmp 33) 129 128 (.agg #[.string ⟨#[]⟩,.slice none 0 0,.bool false]) 3 48 (by rfl) Tryz.underlying129 ch_info rfl (by omega) vl xs.length (xs.flatMap ccells) (some ⟨_,0,none⟩) 1 1 [.string (akey a.out.own),.slice A2 ea.length c2,.bool (freshB a)] (by rfl) (by rfl) hO8 hR (by intro u hu; simp only [List.mem_cons,List.not_mem_nil,or_false] at hu; rcases hu with rfl | rfl | rfl <;> rfl) (by omega) (by omega) hb8 ?_
     intro A9 c9 w9 hO9 hu9 hat9
     have hB9:=hC8.blk.upd hu9 hC8.ne
     have g9:=hB9.free 3
     have k9:w9.cell? ⟨pu,3,none⟩ = some vl:=by simpa using hB9.cell 3
     refine hK.out _ _ (trivial) (fun hS => ?_)
     clear hK K
     try simp only [Act.put,zA,zB,zC]
     refine zt 11 hS ?_
     refine zk 12 (fun K hK => ?_)
     go_simp
     refine hK.out _ _ (trivial) (fun hS => ?_)
     clear hK K
     try simp only [Act.put,zA,zB,zC]
     refine rg_world fun W10 hW10 => ?_
     have hCp:=HCr.out.pushed (x:=(akey a.out.own,ea,freshB a,.slice A2 ea.length c2)) HU2.out HV2.out hu8 hO9 hu9 hat9
     have HN:=hid (step_of HX.out HLn.out HTk.out HEa.out (hW10 ▸ hCp))
     clear hCp
     clear hW10 hO9 hu9 hat9 hB9 g9 k9 hC8 hO8 hb8 hu8 hR
     refine wpAnyH_done (by kernel_rfl) ?_ _
    rotate_left 1
    focus
     refine zs 3 (fun K hK => ?_)
     go_simp
     refine Calls.mono HKd.out ?_
     rintro e w3 ⟨rfl,rfl⟩
     go_wp2_with (fail)
     refine hK.out _ _ (trivial) (fun hS => ?_)
     clear hK K
     try simp only [Act.put,zA,zB,zC]
     refine zh 4 hS (fun w hw => hcat w) ?_
     refine rg_two 1 7 (by kernel_rfl) ?_ ?_
     focus
      refine zs 1 (fun K hK => ?_)
      go_simp
      refine hK.out _ _ (trivial) (fun hS => ?_)
      clear hK K
      try simp only [Act.put,zA,zB,zC]
      refine zk 7 (fun K hK => ?_)
      go_simp
      refine Calls.mono HFd.out ?_
      rintro e w3 ⟨rfl,rfl⟩
      go_wp2_with (fail)
      refine hK.out _ _ (trivial) (fun hS => ?_)
      clear hK K
      try simp only [Act.put,zA,zB,zC]
      refine zt 8 hS ?_
      refine zk 9 (fun K hK => ?_)
      go_simp
      refine hK.out _ _ (trivial) (fun hS => ?_)
      clear hK K
      try simp only [Act.put,zA,zB,zC]
      refine rg_world fun W8 hW8 => ?_
      first | have hR:=boxed3 hW8 | have hR:=boxed3d hW8
      have hu8:Upd No w2 W8:=by rw [hW8]; first | exact ((Upd.refl _ _).drew).alloc _ | exact ((Upd.refl _ _).alloc _).drew
      have hC8:=HCw.out.quiet hu8
      have hO8:=hC8.sl
      have hb8:=hC8.upd.size
      have k8:=hC8.cells.2.2.2
      clear hW8
      refine zk 10 (fun K hK => ?_)
      refine wp_ap_sl w.heap.size (.tmp 25) (.tmp 33) 129 128 (.agg #[.string ⟨#[]⟩,.slice none 0 0,.bool false]) 3 48 (by rfl) Tryz.underlying129 ch_info rfl (by omega) vl xs.length (xs.flatMap ccells) (some ⟨_,0,none⟩) 1 1 [.string (akey a.out.own),.slice A2 ea.length c2,.bool (freshB a)] (by rfl) (by rfl) hO8 hR (by intro u hu; simp only [List.mem_cons,List.not_mem_nil,or_false] at hu; rcases hu with rfl | rfl | rfl <;> rfl) (by omega) (by omega) hb8 ?_
      intro A9 c9 w9 hO9 hu9 hat9
      have hB9:=hC8.blk.upd hu9 hC8.ne
      have g9:=hB9.free 3
      have k9:w9.cell? ⟨pu,3,none⟩ = some vl:=by simpa using hB9.cell 3
      refine hK.out _ _ (trivial) (fun hS => ?_)
      clear hK K
      try simp only [Act.put,zA,zB,zC]
      refine zt 11 hS ?_
      refine zk 12 (fun K hK => ?_)
      go_simp
      refine hK.out _ _ (trivial) (fun hS => ?_)
      clear hK K
      try simp only [Act.put,zA,zB,zC]
      refine rg_world fun W10 hW10 => ?_
      have hCp:=HCr.out.pushed (x:=(akey a.out.own,ea,freshB a,.slice A2 ea.length c2)) HU2.out HV2.out hu8 hO9 hu9 hat9
      have HN:=hid (step_of HX.out HLn.out HTk.out HEa.out (hW10 ▸ hCp))
      clear hCp
      clear hW10 hO9 hu9 hat9 hB9 g9 k9 hC8 hO8 hb8 hu8 hR
      refine wpAnyH_done (by kernel_rfl) ?_ _
     rotate_left 1
     focus
      refine zs 7 (fun K hK => ?_)
      go_simp
      refine Calls.mono HFd.out ?_
      rintro e w3 ⟨rfl,rfl⟩
      go_wp2_with (fail)
      refine hK.out _ _ (trivial) (fun hS => ?_)
      clear hK K
      try simp only [Act.put,zA,zB,zC]
      refine zt 8 hS ?_
      refine rg_two 1 9 (by kernel_rfl) ?_ ?_
      focus
       refine zs 1 (fun K hK => ?_)
       go_simp
       refine hK.out _ _ (trivial) (fun hS => ?_)
       clear hK K
       try simp only [Act.put,zA,zB,zC]
       refine zk 9 (fun K hK => ?_)
       go_simp
       refine hK.out _ _ (trivial) (fun hS => ?_)
       clear hK K
       try simp only [Act.put,zA,zB,zC]
       refine rg_world fun W8 hW8 => ?_
       first | have hR:=boxed3 hW8 | have hR:=boxed3d hW8
       have hu8:Upd No w2 W8:=by rw [hW8]; first | exact ((Upd.refl _ _).drew).alloc _ | exact ((Upd.refl _ _).alloc _).drew
       have hC8:=HCw.out.quiet hu8
       have hO8:=hC8.sl
       have hb8:=hC8.upd.size
       have k8:=hC8.cells.2.2.2
       clear hW8
       refine zk 10 (fun K hK => ?_)
       refine wp_ap_sl w.heap.size (.tmp 25) (.tmp 33) 129 128 (.agg #[.string ⟨#[]⟩,.slice none 0 0,.bool false]) 3 48 (by rfl) Tryz.underlying129 ch_info rfl (by omega) vl xs.length (xs.flatMap ccells) (some ⟨_,0,none⟩) 1 1 [.string (akey a.out.own),.slice A2 ea.length c2,.bool (freshB a)] (by rfl) (by rfl) hO8 hR (by intro u hu; simp only [List.mem_cons,List.not_mem_nil,or_false] at hu; rcases hu with rfl | rfl | rfl <;> rfl) (by omega) (by omega) hb8 ?_
       intro A9 c9 w9 hO9 hu9 hat9
       have hB9:=hC8.blk.upd hu9 hC8.ne
       have g9:=hB9.free 3
       have k9:w9.cell? ⟨pu,3,none⟩ = some vl:=by simpa using hB9.cell 3
       refine hK.out _ _ (trivial) (fun hS => ?_)
       clear hK K
       try simp only [Act.put,zA,zB,zC]
       refine zt 11 hS ?_
       refine zk 12 (fun K hK => ?_)
       go_simp
       refine hK.out _ _ (trivial) (fun hS => ?_)
       clear hK K
       try simp only [Act.put,zA,zB,zC]
       refine rg_world fun W10 hW10 => ?_
       have hCp:=HCr.out.pushed (x:=(akey a.out.own,ea,freshB a,.slice A2 ea.length c2)) HU2.out HV2.out hu8 hO9 hu9 hat9
       have HN:=hid (step_of HX.out HLn.out HTk.out HEa.out (hW10 ▸ hCp))
       clear hCp
       clear hW10 hO9 hu9 hat9 hB9 g9 k9 hC8 hO8 hb8 hu8 hR
       refine wpAnyH_done (by kernel_rfl) ?_ _
      rotate_left 1
      focus
       refine zs 9 (fun K hK => ?_)
       go_simp
       refine hK.out _ _ (trivial) (fun hS => ?_)
       clear hK K
       try simp only [Act.put,zA,zB,zC]
       refine rg_world fun W8 hW8 => ?_
       first | have hR:=boxed3 hW8 | have hR:=boxed3d hW8
       have hu8:Upd No w2 W8:=by rw [hW8]; first | exact ((Upd.refl _ _).drew).alloc _ | exact ((Upd.refl _ _).alloc _).drew
       have hC8:=HCw.out.quiet hu8
       have hO8:=hC8.sl
       have hb8:=hC8.upd.size
       have k8:=hC8.cells.2.2.2
       clear hW8
       refine zk 1 (fun K hK => ?_)
       go_simp
       refine hK.out _ _ (trivial) (fun hS => ?_)
       clear hK K
       try simp only [Act.put,zA,zB,zC]
       refine zk 10 (fun K hK => ?_)
       refine wp_ap_sl w.heap.size (.tmp 25) (.tmp 33) 129 128 (.agg #[.string ⟨#[]⟩,.slice none 0 0,.bool false]) 3 48 (by rfl) Tryz.underlying129 ch_info rfl (by omega) vl xs.length (xs.flatMap ccells) (some ⟨_,0,none⟩) 1 1 [.string (akey a.out.own),.slice A2 ea.length c2,.bool (freshB a)] (by rfl) (by rfl) hO8 hR (by intro u hu; simp only [List.mem_cons,List.not_mem_nil,or_false] at hu; rcases hu with rfl | rfl | rfl <;> rfl) (by omega) (by omega) hb8 ?_
       intro A9 c9 w9 hO9 hu9 hat9
       have hB9:=hC8.blk.upd hu9 hC8.ne
       have g9:=hB9.free 3
       have k9:w9.cell? ⟨pu,3,none⟩ = some vl:=by simpa using hB9.cell 3
       refine hK.out _ _ (trivial) (fun hS => ?_)
       clear hK K
       try simp only [Act.put,zA,zB,zC]
       refine zt 11 hS ?_
       refine zk 12 (fun K hK => ?_)
       go_simp
       refine hK.out _ _ (trivial) (fun hS => ?_)
       clear hK K
       try simp only [Act.put,zA,zB,zC]
       refine rg_world fun W10 hW10 => ?_
       have hCp:=HCr.out.pushed (x:=(akey a.out.own,ea,freshB a,.slice A2 ea.length c2)) HU2.out HV2.out hu8 hO9 hu9 hat9
       have HN:=hid (step_of HX.out HLn.out HTk.out HEa.out (hW10 ▸ hCp))
       clear hCp
       clear hW10 hO9 hu9 hat9 hB9 g9 k9 hC8 hO8 hb8 hu8 hR
       refine wpAnyH_done (by kernel_rfl) ?_ _
    all_goals
     obtain ⟨xs',vl',hx',hl',hc'⟩:=HN.out
     have HX':=hid hx'
     have HL':=hid hl'
     have HC':=hid hc'
     clear hx' hl' hc' HN HCr HCw HCd HC
     go_wp2
     go_roundw
     case rel => exact ⟨j + 1,xs',vl',by omega,by go_num,HX',HL',HC'⟩
     case measure => simp [intOf]; omega
  · obtain rfl:j = ac.length:=by omega
    rw [List.take_length] at HX
    have hxl:xs.length ≤ 40:=by have:=HLn.out; omega
    rcases qv with _ | ⟨q,l⟩
    case' some =>
     obtain rfl:wv = none:=HP.out.one.resolve_left (by simp)
     have HQ:=hid (show ∀ W,Upd No w W → ∃ Q,Nd.Qo W Q q l from fun W hu => by
      obtain ⟨Q,h1,_⟩:=Star.own (HP.out.st.quiet hu) ac.length (o:=qoO q l) (by simp [qL])
      exact ⟨Q,h1⟩)
     have HI:=hid (HP.out.qok _ rfl)
     have HEn:=hid (fun (W:World) (hu:Upd No w W) => (HQ.out W hu).elim fun _ h => Nd.encode_ h HI.out)
     have HC1:=hid (show Ci w wr pu (.slice A ac.length c) (.pointer (some ⟨q,0,none⟩)) (.pointer none) xs vl from HC.out)
     have k1:=HC1.out.cells.2.1
     have HX1:=hid HX.out
     clear HX HC
     go_wp2_with (fail)
     refine merge9 40 (fun W => ∃ vl xs',xs'.map bare = chs ac (some (q,l)) none ∧ xs'.length ≤ 41 ∧ Ci w W pu (.slice A ac.length c) (.pointer (some ⟨q,0,none⟩)) (.pointer none) xs' vl) ?_ ?_
     case' refine_2 =>
      rintro v1 v2 v3 v4 v5 v6 v7 v8 v9 W ⟨vl',xs',hx',hl',hc'⟩
      have HC2:=hid hc'
      have HX2:=hid hx'
      have HL2:=hid hl'
      clear hx' hl' hc' HC1 HX1 k1
      obtain ⟨_,_,k2,_⟩:=HC2.out.cells
      simp only [put9,Act.put,List.setIfInBounds_toArray,List.set_cons_zero,List.set_cons_succ,Nat.reduceAdd]
      go_wp2_with (fail)
      clear k2
     case' refine_1 =>
      clear k1
      have hCd:=HC1.out.quiet ((Upd.refl _ wr).drew)
      have hUd:Upd No w wr.drew:=hCd.upd
      have k3:=hCd.cells.2.2.2
      have HEd:=hid (HEn.out _ hUd)
      have hel:=encQ_small HI.out
      have HBy:=hid (Nd.encQ_byte HI.out)
      obtain ⟨eq,heq⟩:∃ eq,eq = Nd.encQ l:=⟨_,rfl⟩
      rw [← heq] at hel HEd HBy
      have HEq:=hid heq
      have HCr:=hid HC1.out
      have HCd:=hid hCd
      clear heq hCd
      refine wp_region_held_drew (S:=fun W => W.cell? ⟨pu,1,none⟩ = some (.pointer (some ⟨q,0,none⟩))) (by kernel_rfl) HCd.out.cells.2.1 (fun hS => ?_)
      refine zt 0 hS ?_
      refine zt 2 hS ?_
      refine zh 3 hS (fun w hw => hw) ?_
      refine rg_two 1 4 (by kernel_rfl) ?_ ?_
      focus
       refine zs 1 (fun K hK => ?_)
       go_simp
       refine hK.out _ _ ((by exact hS)) (fun hS => ?_)
       clear hK K
       try simp only [Act.put,zA,zB,zC]
       refine zk 4 (fun K hK => ?_)
       go_simp
       refine Calls.mono HEd.out ?_
       rintro e w3 ⟨A3,c3,rfl,hc3,hcm3,hr3,hu3,hf3⟩
       have HV3:Hid (Vb w3 (fun k => wr.heap.size ≤ k) (.slice A3 eq.length c3) eq):=hid ⟨A3,c3,rfl,hc3,hcm3,hr3,fun _ ad e => hf3 ad e,HBy.out⟩
       have HU3:=hid hu3
       have hC3:=HCd.out.quiet hu3
       replace k3:=hC3.cells.2.2.2
       clear hc3 hcm3 hr3 hu3 hf3
       go_wp2_with (fail)
       refine hK.out _ _ (hC3.cells.2.1) (fun hS => ?_)
       clear hK K
       try simp only [Act.put,zA,zB,zC]
       refine zt 5 hS ?_
       refine zk 6 (fun K hK => ?_)
       go_simp
       refine hK.out _ _ ((by exact (hC3.quiet ((Upd.refl _ _).alloc _)).cells.2.1)) (fun hS => ?_)
       clear hK K
       try simp only [Act.put,zA,zB,zC]
       refine rg_world fun W8 hW8 => ?_
       have hR:=boxed3 hW8
       have hu8:Upd No w3 W8:=by rw [hW8]; exact (Upd.refl _ _).alloc _
       have hC8:=hC3.quiet hu8
       have hO8:=hC8.sl
       have hb8:=hC8.upd.size
       have k8:=hC8.cells.2.2.2
       replace hS:W8.cell? ⟨pu,1,none⟩ = some (.pointer (some ⟨q,0,none⟩)):=hC8.cells.2.1
       clear hW8
       refine zk 7 (fun K hK => ?_)
       refine wp_ap_sl w.heap.size (.tmp 41) (.tmp 46) 129 128 (.agg #[.string ⟨#[]⟩,.slice none 0 0,.bool false]) 3 48 (by rfl) Tryz.underlying129 ch_info rfl (by omega) vl xs.length (xs.flatMap ccells) (some ⟨_,0,none⟩) 1 1 [.string kr,.slice A3 eq.length c3,.bool false] (by rfl) (by rfl) hO8 hR (by intro u hu; simp only [List.mem_cons,List.not_mem_nil,or_false] at hu; rcases hu with rfl | rfl | rfl <;> rfl) (by omega) (by omega) hb8 ?_
       intro A9 c9 w9 hO9 hu9 hat9
       have hB9:=hC8.blk.upd hu9 hC8.ne
       have g9:=hB9.free 3
       have k9:w9.cell? ⟨pu,3,none⟩ = some vl:=by simpa using hB9.cell 3
       have k91:w9.cell? ⟨pu,1,none⟩ = some (.pointer (some ⟨q,0,none⟩)):=by simpa using hB9.cell 1
       refine hK.out _ _ (k91) (fun hS => ?_)
       clear hK K
       try simp only [Act.put,zA,zB,zC]
       refine zt 8 hS ?_
       refine zk 9 (fun K hK => ?_)
       go_simp
       refine hK.out _ _ ((by simpa using (hB9.put 3 _).cell 1)) (fun hS => ?_)
       clear hK K
       try simp only [Act.put,zA,zB,zC]
       refine rg_world fun W10 hW10 => ?_
       have hCp:=HCr.out.pushed (x:=(kr,eq,false,.slice A3 eq.length c3)) (((Upd.refl _ _).drew).next HU3.out) HV3.out hu8 hO9 hu9 hat9
       have HN:=hid (qstep (q:=q) HX1.out hxl HEq.out (hW10 ▸ hCp))
       clear hCp hW10 hO9 hu9 hat9 hB9 g9 k9 k91 hC8 hO8 hb8 hu8 hR
       refine wpAnyH_done (by kernel_rfl) ?_ _
      rotate_left 1
      focus
       refine zs 4 (fun K hK => ?_)
       go_simp
       refine Calls.mono HEd.out ?_
       rintro e w3 ⟨A3,c3,rfl,hc3,hcm3,hr3,hu3,hf3⟩
       have HV3:Hid (Vb w3 (fun k => wr.heap.size ≤ k) (.slice A3 eq.length c3) eq):=hid ⟨A3,c3,rfl,hc3,hcm3,hr3,fun _ ad e => hf3 ad e,HBy.out⟩
       have HU3:=hid hu3
       have hC3:=HCd.out.quiet hu3
       replace k3:=hC3.cells.2.2.2
       clear hc3 hcm3 hr3 hu3 hf3
       go_wp2_with (fail)
       refine hK.out _ _ (hC3.cells.2.1) (fun hS => ?_)
       clear hK K
       try simp only [Act.put,zA,zB,zC]
       refine zt 5 hS ?_
       refine rg_two 1 6 (by kernel_rfl) ?_ ?_
       focus
        refine zs 1 (fun K hK => ?_)
        go_simp
        refine hK.out _ _ ((by exact hS)) (fun hS => ?_)
        clear hK K
        try simp only [Act.put,zA,zB,zC]
        refine zk 6 (fun K hK => ?_)
        go_simp
        refine hK.out _ _ ((by exact (hC3.quiet ((Upd.refl _ _).alloc _)).cells.2.1)) (fun hS => ?_)
        clear hK K
        try simp only [Act.put,zA,zB,zC]
        refine rg_world fun W8 hW8 => ?_
        have hR:=boxed3 hW8
        have hu8:Upd No w3 W8:=by rw [hW8]; exact (Upd.refl _ _).alloc _
        have hC8:=hC3.quiet hu8
        have hO8:=hC8.sl
        have hb8:=hC8.upd.size
        have k8:=hC8.cells.2.2.2
        replace hS:W8.cell? ⟨pu,1,none⟩ = some (.pointer (some ⟨q,0,none⟩)):=hC8.cells.2.1
        clear hW8
        refine zk 7 (fun K hK => ?_)
        refine wp_ap_sl w.heap.size (.tmp 41) (.tmp 46) 129 128 (.agg #[.string ⟨#[]⟩,.slice none 0 0,.bool false]) 3 48 (by rfl) Tryz.underlying129 ch_info rfl (by omega) vl xs.length (xs.flatMap ccells) (some ⟨_,0,none⟩) 1 1 [.string kr,.slice A3 eq.length c3,.bool false] (by rfl) (by rfl) hO8 hR (by intro u hu; simp only [List.mem_cons,List.not_mem_nil,or_false] at hu; rcases hu with rfl | rfl | rfl <;> rfl) (by omega) (by omega) hb8 ?_
        intro A9 c9 w9 hO9 hu9 hat9
        have hB9:=hC8.blk.upd hu9 hC8.ne
        have g9:=hB9.free 3
        have k9:w9.cell? ⟨pu,3,none⟩ = some vl:=by simpa using hB9.cell 3
        have k91:w9.cell? ⟨pu,1,none⟩ = some (.pointer (some ⟨q,0,none⟩)):=by simpa using hB9.cell 1
        refine hK.out _ _ (k91) (fun hS => ?_)
        clear hK K
        try simp only [Act.put,zA,zB,zC]
        refine zt 8 hS ?_
        refine zk 9 (fun K hK => ?_)
        go_simp
        refine hK.out _ _ ((by simpa using (hB9.put 3 _).cell 1)) (fun hS => ?_)
        clear hK K
        try simp only [Act.put,zA,zB,zC]
        refine rg_world fun W10 hW10 => ?_
        have hCp:=HCr.out.pushed (x:=(kr,eq,false,.slice A3 eq.length c3)) (((Upd.refl _ _).drew).next HU3.out) HV3.out hu8 hO9 hu9 hat9
        have HN:=hid (qstep (q:=q) HX1.out hxl HEq.out (hW10 ▸ hCp))
        clear hCp hW10 hO9 hu9 hat9 hB9 g9 k9 k91 hC8 hO8 hb8 hu8 hR
        refine wpAnyH_done (by kernel_rfl) ?_ _
       rotate_left 1
       focus
        refine zs 6 (fun K hK => ?_)
        go_simp
        refine hK.out _ _ ((by exact (hC3.quiet ((Upd.refl _ _).alloc _)).cells.2.1)) (fun hS => ?_)
        clear hK K
        try simp only [Act.put,zA,zB,zC]
        refine rg_world fun W8 hW8 => ?_
        have hR:=boxed3 hW8
        have hu8:Upd No w3 W8:=by rw [hW8]; exact (Upd.refl _ _).alloc _
        have hC8:=hC3.quiet hu8
        have hO8:=hC8.sl
        have hb8:=hC8.upd.size
        have k8:=hC8.cells.2.2.2
        replace hS:W8.cell? ⟨pu,1,none⟩ = some (.pointer (some ⟨q,0,none⟩)):=hC8.cells.2.1
        clear hW8
        refine zk 1 (fun K hK => ?_)
        go_simp
        refine hK.out _ _ ((by exact hS)) (fun hS => ?_)
        clear hK K
        try simp only [Act.put,zA,zB,zC]
        refine zk 7 (fun K hK => ?_)
        refine wp_ap_sl w.heap.size (.tmp 41) (.tmp 46) 129 128 (.agg #[.string ⟨#[]⟩,.slice none 0 0,.bool false]) 3 48 (by rfl) Tryz.underlying129 ch_info rfl (by omega) vl xs.length (xs.flatMap ccells) (some ⟨_,0,none⟩) 1 1 [.string kr,.slice A3 eq.length c3,.bool false] (by rfl) (by rfl) hO8 hR (by intro u hu; simp only [List.mem_cons,List.not_mem_nil,or_false] at hu; rcases hu with rfl | rfl | rfl <;> rfl) (by omega) (by omega) hb8 ?_
        intro A9 c9 w9 hO9 hu9 hat9
        have hB9:=hC8.blk.upd hu9 hC8.ne
        have g9:=hB9.free 3
        have k9:w9.cell? ⟨pu,3,none⟩ = some vl:=by simpa using hB9.cell 3
        have k91:w9.cell? ⟨pu,1,none⟩ = some (.pointer (some ⟨q,0,none⟩)):=by simpa using hB9.cell 1
        refine hK.out _ _ (k91) (fun hS => ?_)
        clear hK K
        try simp only [Act.put,zA,zB,zC]
        refine zt 8 hS ?_
        refine zk 9 (fun K hK => ?_)
        go_simp
        refine hK.out _ _ ((by simpa using (hB9.put 3 _).cell 1)) (fun hS => ?_)
        clear hK K
        try simp only [Act.put,zA,zB,zC]
        refine rg_world fun W10 hW10 => ?_
        have hCp:=HCr.out.pushed (x:=(kr,eq,false,.slice A3 eq.length c3)) (((Upd.refl _ _).drew).next HU3.out) HV3.out hu8 hO9 hu9 hat9
        have HN:=hid (qstep (q:=q) HX1.out hxl HEq.out (hW10 ▸ hCp))
        clear hCp hW10 hO9 hu9 hat9 hB9 g9 k9 k91 hC8 hO8 hb8 hu8 hR
        refine wpAnyH_done (by kernel_rfl) ?_ _
      all_goals exact ⟨⟨_,_,_,_,_,_,_,_,_,by simp only [put9,Act.put,List.setIfInBounds_toArray,List.set_cons_zero,List.set_cons_succ,Nat.reduceAdd]; rfl⟩,HN.out⟩
    case' none =>
     rcases wv with _ | ⟨q,x⟩
     case' none =>
      have HC2:=hid (show Ci w wr pu (.slice A ac.length c) (.pointer none) (.pointer none) xs vl from HC.out)
      have HX2:=hid (show xs.map bare = chs ac none none by simpa [chs,qC,wC] using HX.out)
      have HL2:=hid (show xs.length ≤ 41 by omega)
      clear HX HLn HC hxl
      generalize wr = W at *
      obtain ⟨_,k1,k2,_⟩:=HC2.out.cells
      go_wp2_with (fail)
      clear k1 k2
      obtain ⟨vl',xs',hx',hl',hc'⟩:∃ vl' xs',xs'.map bare = chs ac none none ∧ xs'.length ≤ 41 ∧ Ci w W pu (.slice A ac.length c) (.pointer none) (.pointer none) xs' vl':=⟨vl,xs,HX2.out,HL2.out,HC2.out⟩
      clear HX2 HL2 HC2
      have HC2:=hid hc'
      have HX2:=hid hx'
      have HL2:=hid hl'
      clear hx' hl' hc'
     case' some =>
      have HQ:=hid (show ∀ W,Upd No w W → ∃ Q,Ww.Wd W Q q x m.n from fun W hu => by
       obtain ⟨Q,h1,_⟩:=Star.own (HP.out.st.quiet hu) ac.length (o:=wdO q x m.n) (by simp [qL,wL])
       exact ⟨Q,h1⟩)
      have HI:=hid (HP.out.wok _ rfl)
      have HEn:=hid (fun (W:World) (hu:Upd No w W) => (HQ.out W hu).elim fun _ h => We.encode h HI.out)
      have HC1:=hid (show Ci w wr pu (.slice A ac.length c) (.pointer none) (.pointer (some ⟨q,0,none⟩)) xs vl from HC.out)
      obtain ⟨_,k1,k2,_⟩:=HC1.out.cells
      have HX1:=hid HX.out
      clear HX HC
      go_wp2_with (fail)
      refine merge9 52 (fun W => ∃ vl xs',xs'.map bare = chs ac none (some (q,x)) ∧ xs'.length ≤ 41 ∧ Ci w W pu (.slice A ac.length c) (.pointer none) (.pointer (some ⟨q,0,none⟩)) xs' vl) ?_ ?_
      case' refine_2 =>
       rintro v1 v2 v3 v4 v5 v6 v7 v8 v9 W ⟨vl',xs',hx',hl',hc'⟩
       have HC2:=hid hc'
       have HX2:=hid hx'
       have HL2:=hid hl'
       clear hx' hl' hc' HC1 HX1 k1 k2
       simp only [put9,Act.put,List.setIfInBounds_toArray,List.set_cons_zero,List.set_cons_succ,Nat.reduceAdd]
       go_wp2_with (fail)
      case' refine_1 =>
       clear k1 k2
       have hCd:=HC1.out.quiet ((Upd.refl _ wr).drew)
       have hUd:Upd No w wr.drew:=hCd.upd
       have k3:=hCd.cells.2.2.2
       have HEd:=hid (HEn.out _ hUd)
       have hel:=encX_le HI.out
       have HBy:=hid (We.encX_byte HI.out)
       obtain ⟨eq,heq⟩:∃ eq,eq = We.encX x:=⟨_,rfl⟩
       rw [← heq] at hel HEd HBy
       have HEq:=hid heq
       have HCr:=hid HC1.out
       have HCd:=hid hCd
       clear heq hCd
       refine wp_region_held_drew (S:=fun W => W.cell? ⟨pu,2,none⟩ = some (.pointer (some ⟨q,0,none⟩))) (by kernel_rfl) HCd.out.cells.2.2.1 (fun hS => ?_)
       refine zt 0 hS ?_
       refine zt 2 hS ?_
       refine zh 3 hS (fun w hw => hw) ?_
       refine rg_two 1 4 (by kernel_rfl) ?_ ?_
       focus
        refine zs 1 (fun K hK => ?_)
        go_simp
        refine hK.out _ _ ((by exact hS)) (fun hS => ?_)
        clear hK K
        try simp only [Act.put,zA,zB,zC]
        refine zk 4 (fun K hK => ?_)
        go_simp
        refine Calls.mono HEd.out ?_
        rintro e w3 ⟨A3,c3,rfl,hc3,hcm3,hr3,hu3,hf3⟩
        have HV3:Hid (Vb w3 (fun k => wr.heap.size ≤ k) (.slice A3 eq.length c3) eq):=hid ⟨A3,c3,rfl,hc3,hcm3,hr3,fun _ ad e => hf3 ad e,HBy.out⟩
        have HU3:=hid hu3
        have hC3:=HCd.out.quiet hu3
        replace k3:=hC3.cells.2.2.2
        clear hc3 hcm3 hr3 hu3 hf3
        go_wp2_with (fail)
        refine hK.out _ _ (hC3.cells.2.2.1) (fun hS => ?_)
        clear hK K
        try simp only [Act.put,zA,zB,zC]
        refine zt 5 hS ?_
        refine zk 6 (fun K hK => ?_)
        go_simp
        refine hK.out _ _ ((by exact (hC3.quiet ((Upd.refl _ _).alloc _)).cells.2.2.1)) (fun hS => ?_)
        clear hK K
        try simp only [Act.put,zA,zB,zC]
        refine rg_world fun W8 hW8 => ?_
        have hR:=boxed3 hW8
        have hu8:Upd No w3 W8:=by rw [hW8]; exact (Upd.refl _ _).alloc _
        have hC8:=hC3.quiet hu8
        have hO8:=hC8.sl
        have hb8:=hC8.upd.size
        have k8:=hC8.cells.2.2.2
        replace hS:W8.cell? ⟨pu,2,none⟩ = some (.pointer (some ⟨q,0,none⟩)):=hC8.cells.2.2.1
        clear hW8
        refine zk 7 (fun K hK => ?_)
        refine wp_ap_sl w.heap.size (.tmp 53) (.tmp 58) 129 128 (.agg #[.string ⟨#[]⟩,.slice none 0 0,.bool false]) 3 48 (by rfl) Tryz.underlying129 ch_info rfl (by omega) vl xs.length (xs.flatMap ccells) (some ⟨_,0,none⟩) 1 1 [.string kw,.slice A3 eq.length c3,.bool false] (by rfl) (by rfl) hO8 hR (by intro u hu; simp only [List.mem_cons,List.not_mem_nil,or_false] at hu; rcases hu with rfl | rfl | rfl <;> rfl) (by omega) (by omega) hb8 ?_
        intro A9 c9 w9 hO9 hu9 hat9
        have hB9:=hC8.blk.upd hu9 hC8.ne
        have g9:=hB9.free 3
        have k9:w9.cell? ⟨pu,3,none⟩ = some vl:=by simpa using hB9.cell 3
        have k91:w9.cell? ⟨pu,2,none⟩ = some (.pointer (some ⟨q,0,none⟩)):=by simpa using hB9.cell 2
        refine hK.out _ _ (k91) (fun hS => ?_)
        clear hK K
        try simp only [Act.put,zA,zB,zC]
        refine zt 8 hS ?_
        refine zk 9 (fun K hK => ?_)
        go_simp
        refine hK.out _ _ ((by simpa using (hB9.put 3 _).cell 2)) (fun hS => ?_)
        clear hK K
        try simp only [Act.put,zA,zB,zC]
        refine rg_world fun W10 hW10 => ?_
        have hCp:=HCr.out.pushed (x:=(kw,eq,false,.slice A3 eq.length c3)) (((Upd.refl _ _).drew).next HU3.out) HV3.out hu8 hO9 hu9 hat9
        have HN:=hid (wstep (q:=q) HX1.out hxl HEq.out (hW10 ▸ hCp))
        clear hCp hW10 hO9 hu9 hat9 hB9 g9 k9 k91 hC8 hO8 hb8 hu8 hR
        refine wpAnyH_done (by kernel_rfl) ?_ _
       rotate_left 1
       focus
        refine zs 4 (fun K hK => ?_)
        go_simp
        refine Calls.mono HEd.out ?_
        rintro e w3 ⟨A3,c3,rfl,hc3,hcm3,hr3,hu3,hf3⟩
        have HV3:Hid (Vb w3 (fun k => wr.heap.size ≤ k) (.slice A3 eq.length c3) eq):=hid ⟨A3,c3,rfl,hc3,hcm3,hr3,fun _ ad e => hf3 ad e,HBy.out⟩
        have HU3:=hid hu3
        have hC3:=HCd.out.quiet hu3
        replace k3:=hC3.cells.2.2.2
        clear hc3 hcm3 hr3 hu3 hf3
        go_wp2_with (fail)
        refine hK.out _ _ (hC3.cells.2.2.1) (fun hS => ?_)
        clear hK K
        try simp only [Act.put,zA,zB,zC]
        refine zt 5 hS ?_
        refine rg_two 1 6 (by kernel_rfl) ?_ ?_
        focus
         refine zs 1 (fun K hK => ?_)
         go_simp
         refine hK.out _ _ ((by exact hS)) (fun hS => ?_)
         clear hK K
         try simp only [Act.put,zA,zB,zC]
         refine zk 6 (fun K hK => ?_)
         go_simp
         refine hK.out _ _ ((by exact (hC3.quiet ((Upd.refl _ _).alloc _)).cells.2.2.1)) (fun hS => ?_)
         clear hK K
         try simp only [Act.put,zA,zB,zC]
         refine rg_world fun W8 hW8 => ?_
         have hR:=boxed3 hW8
         have hu8:Upd No w3 W8:=by rw [hW8]; exact (Upd.refl _ _).alloc _
         have hC8:=hC3.quiet hu8
         have hO8:=hC8.sl
         have hb8:=hC8.upd.size
         have k8:=hC8.cells.2.2.2
         replace hS:W8.cell? ⟨pu,2,none⟩ = some (.pointer (some ⟨q,0,none⟩)):=hC8.cells.2.2.1
         clear hW8
         refine zk 7 (fun K hK => ?_)
         refine wp_ap_sl w.heap.size (.tmp 53) (.tmp 58) 129 128 (.agg #[.string ⟨#[]⟩,.slice none 0 0,.bool false]) 3 48 (by rfl) Tryz.underlying129 ch_info rfl (by omega) vl xs.length (xs.flatMap ccells) (some ⟨_,0,none⟩) 1 1 [.string kw,.slice A3 eq.length c3,.bool false] (by rfl) (by rfl) hO8 hR (by intro u hu; simp only [List.mem_cons,List.not_mem_nil,or_false] at hu; rcases hu with rfl | rfl | rfl <;> rfl) (by omega) (by omega) hb8 ?_
         intro A9 c9 w9 hO9 hu9 hat9
         have hB9:=hC8.blk.upd hu9 hC8.ne
         have g9:=hB9.free 3
         have k9:w9.cell? ⟨pu,3,none⟩ = some vl:=by simpa using hB9.cell 3
         have k91:w9.cell? ⟨pu,2,none⟩ = some (.pointer (some ⟨q,0,none⟩)):=by simpa using hB9.cell 2
         refine hK.out _ _ (k91) (fun hS => ?_)
         clear hK K
         try simp only [Act.put,zA,zB,zC]
         refine zt 8 hS ?_
         refine zk 9 (fun K hK => ?_)
         go_simp
         refine hK.out _ _ ((by simpa using (hB9.put 3 _).cell 2)) (fun hS => ?_)
         clear hK K
         try simp only [Act.put,zA,zB,zC]
         refine rg_world fun W10 hW10 => ?_
         have hCp:=HCr.out.pushed (x:=(kw,eq,false,.slice A3 eq.length c3)) (((Upd.refl _ _).drew).next HU3.out) HV3.out hu8 hO9 hu9 hat9
         have HN:=hid (wstep (q:=q) HX1.out hxl HEq.out (hW10 ▸ hCp))
         clear hCp hW10 hO9 hu9 hat9 hB9 g9 k9 k91 hC8 hO8 hb8 hu8 hR
         refine wpAnyH_done (by kernel_rfl) ?_ _
        rotate_left 1
        focus
         refine zs 6 (fun K hK => ?_)
         go_simp
         refine hK.out _ _ ((by exact (hC3.quiet ((Upd.refl _ _).alloc _)).cells.2.2.1)) (fun hS => ?_)
         clear hK K
         try simp only [Act.put,zA,zB,zC]
         refine rg_world fun W8 hW8 => ?_
         have hR:=boxed3 hW8
         have hu8:Upd No w3 W8:=by rw [hW8]; exact (Upd.refl _ _).alloc _
         have hC8:=hC3.quiet hu8
         have hO8:=hC8.sl
         have hb8:=hC8.upd.size
         have k8:=hC8.cells.2.2.2
         replace hS:W8.cell? ⟨pu,2,none⟩ = some (.pointer (some ⟨q,0,none⟩)):=hC8.cells.2.2.1
         clear hW8
         refine zk 1 (fun K hK => ?_)
         go_simp
         refine hK.out _ _ ((by exact hS)) (fun hS => ?_)
         clear hK K
         try simp only [Act.put,zA,zB,zC]
         refine zk 7 (fun K hK => ?_)
         refine wp_ap_sl w.heap.size (.tmp 53) (.tmp 58) 129 128 (.agg #[.string ⟨#[]⟩,.slice none 0 0,.bool false]) 3 48 (by rfl) Tryz.underlying129 ch_info rfl (by omega) vl xs.length (xs.flatMap ccells) (some ⟨_,0,none⟩) 1 1 [.string kw,.slice A3 eq.length c3,.bool false] (by rfl) (by rfl) hO8 hR (by intro u hu; simp only [List.mem_cons,List.not_mem_nil,or_false] at hu; rcases hu with rfl | rfl | rfl <;> rfl) (by omega) (by omega) hb8 ?_
         intro A9 c9 w9 hO9 hu9 hat9
         have hB9:=hC8.blk.upd hu9 hC8.ne
         have g9:=hB9.free 3
         have k9:w9.cell? ⟨pu,3,none⟩ = some vl:=by simpa using hB9.cell 3
         have k91:w9.cell? ⟨pu,2,none⟩ = some (.pointer (some ⟨q,0,none⟩)):=by simpa using hB9.cell 2
         refine hK.out _ _ (k91) (fun hS => ?_)
         clear hK K
         try simp only [Act.put,zA,zB,zC]
         refine zt 8 hS ?_
         refine zk 9 (fun K hK => ?_)
         go_simp
         refine hK.out _ _ ((by simpa using (hB9.put 3 _).cell 2)) (fun hS => ?_)
         clear hK K
         try simp only [Act.put,zA,zB,zC]
         refine rg_world fun W10 hW10 => ?_
         have hCp:=HCr.out.pushed (x:=(kw,eq,false,.slice A3 eq.length c3)) (((Upd.refl _ _).drew).next HU3.out) HV3.out hu8 hO9 hu9 hat9
         have HN:=hid (wstep (q:=q) HX1.out hxl HEq.out (hW10 ▸ hCp))
         clear hCp hW10 hO9 hu9 hat9 hB9 g9 k9 k91 hC8 hO8 hb8 hu8 hR
         refine wpAnyH_done (by kernel_rfl) ?_ _
       all_goals exact ⟨⟨_,_,_,_,_,_,_,_,_,by simp only [put9,Act.put,List.setIfInBounds_toArray,List.set_cons_zero,List.set_cons_succ,Nat.reduceAdd]; rfl⟩,HN.out⟩
    all_goals
     obtain ⟨Av,cv,hvl,hcl⟩:=HC2.out.cl
     subst hvl
     have HE2:=hid (HP.out.en.quiet (HC2.out.upd.drew))
     obtain ⟨e,hs⟩:=HE2.out.ex
     obtain ⟨B0,hb0,hB0F⟩:=Star.own hs 0 rfl
     have HFp0:=hid (hB0F p ((hb0.2 p).2 rfl))
     obtain ⟨⟨c0,_⟩,_⟩:=ecells hb0.1
     have hgd:=gd_of HX2.out (fun x hx => (HP.out.ok x hx).1) HP.out.nd HP.out.qok HP.out.wok HP.out.few
     have hpuF:∀ k,k = pu → ¬ F k:=fun k hk hf => by have:=HC2.out.pu; have:=HP.out.en.lt k hf; omega
     have hbc:=(bcommit_ hs HP.out.en.ok (hcl.quiet (Upd.refl _ _).drew) (fun k hk => ⟨fun hf => by have:=HP.out.en.lt k hf; omega,hk.2⟩) hgd (fun e' => HP.out.ne (by rw [← HX2.out,e']; rfl)) (by rw [HX2.out]; exact HP.out.size) (by rw [HX2.out]; exact HP.out.room) (by have:=HL2.out; omega))
     rw [HX2.out] at hbc
     have HBc:=hid hbc
     clear hbc
     have HS0:=hid (And.intro c0 (HC2.out.quiet (Upd.refl _ _).drew).cells.2.2.2)
     have HBp:Hid (Blk W.drew pu 143 _):=hid (HC2.out.quiet (Upd.refl _ _).drew).blk
     have HU0:Hid (Upd No w W.drew):=hid HC2.out.upd.drew
     clear hcl hs hb0 hgd c0
     refine wp_region_held_drew (S:=fun W' => W'.cell? ⟨p,0,none⟩ = some (.pointer (some ⟨e.b.q,0,none⟩)) ∧ W'.cell? ⟨pu,3,none⟩ = some (.slice Av xs'.length cv)) (by kernel_rfl) HS0.out (fun hS => ?_)
     refine zt 0 hS ?_
     refine zt 1 hS ?_
     refine zt 2 hS ?_
     refine zh 3 hS (fun w hw => hw.1) ?_
     refine zt 4 hS ?_
     refine zh 5 hS (fun w hw => hw.2) ?_
     refine zk 6 (fun K hK => ?_)
     go_simp
     refine Calls.mono HBc.out ?_
     rintro e6 W5 ⟨rfl,F5,hs5,hm5⟩
     have HB5:=hid (And.intro hs5 hm5)
     clear hs5 hm5 HBc
     go_wp2_with (fail)
     refine hK.out _ _ ((by exact com_keep HB5.out.1 (HBp.out.upd HB5.out.2.upd (hpuF pu rfl)))) (fun hS => ?_)
     clear hK K
     try simp only [Act.put,zA,zB,zC]
     refine zt 7 hS ?_
     refine wpAnyH_done (by kernel_rfl) ?_ _
     obtain ⟨V1,V2,G3,hbh,hv2,hvV,huF⟩:=bh_of (p:=p) (pu:=pu) HP.out.st HP.out.vf HP.out.row HP.out.rowF HU0.out HB5.out.1 HB5.out.2
     have HBh:=hid hbh
     have HV2:=hid (And.intro hv2 (And.intro hvV huF))
     have HPt0:=hid (hbh.start HP.out.tidy)
     have hB5:=HBp.out.upd HB5.out.2.upd (hpuF pu rfl)
     have HC2p:=hid (show pu < W.drew.heap.size from HC2.out.blk.lt)
     have HFp:=hid (show F p from HFp0.out)
     have HB5b:=hid hB5
     have k0:W5.cell? ⟨pu,0,none⟩ = some (.slice A ac.length c):=by simpa using hB5.cell 0
     clear hbh hv2 hvV huF hB5 HC2 HX2 HL2 HBp HS0 hS
     go_wp2_with (fail)
     go_loopw [74] (fun v74 W' => ∃ (j:Nat),j ≤ ac.length ∧ v74 = .int .i64 j ∧ Hid (Pt W5 W' e.ba (m.n + 100) (actN m.act ac) m.tx ac G3 V1 j)) (fun v74 _ => ac.length - (intOf v74).toNat)
     case atStart => exact ⟨0,by omega,rfl,HPt0⟩
     case' round =>
      clear HPt0 k0
      obtain ⟨j,hj,rfl,HPt⟩:=hrel
      by_cases hlt:j < ac.length
      case' pos =>
       obtain ⟨ad,hA,hcell⟩:=HBh.out.cell HPt.out.upd hlt
       obtain ⟨GA,ha5,_,hGA⟩:=HBh.out.actor HPt.out.upd hlt
       have HNA:=actN_at m.act HP.out.nd (List.getElem_mem hlt)
       have hk:Kk ac[j].2.out.own:=(HP.out.ok _ (List.getElem_mem hlt)).1.out.key
       have HAct:=hid (fun (W:World) (hu:Upd (fun k => k = e.ba) W5 W) => HBh.out.actor hu hlt)
       have HPut:=hid (fun (W:World) (hu:Upd No wr W) (htx:ac[j].2.out.own ∈ m.tx) => (HPt.out.quiet hu).put hlt HNA htx ha5 hGA HBh.out.ba.1)
       have HSkip:=hid (fun (W:World) (hu:Upd No wr W) (htx:ac[j].2.out.own ∉ m.tx) => (HPt.out.quiet hu).skip hlt htx)
       have hks:=kk_ks hk
       have hmn:=HP.out.n
       have hc40:=HP.out.few
       have hj1:(0:Int) ≤ (j:Int):=by omega
       have hj2:(j:Int) < (ac.length:Int):=by omega
       have HUw:=hid HPt.out.upd
       clear HNA ha5 hGA
       generalize ac[j] = y at *
       obtain ⟨q7,a⟩:=y
       simp only at hcell hk hks
       have HKy:=hid (fun (W:World) (hu:Upd (fun k => k = e.ba) W5 W) => (HAct.out W hu).elim fun _ h => Ac.key_ h.2.1)
       have HHas:=hid (fun (W:World) (hu:Upd (fun k => k = e.ba) W5 W) => (HBh.out.table hu).elim fun _ h => At.has_ a.out.own h)
       have HEng:=hid (fun (W:World) (hu:Upd (fun k => k = e.ba) W5 W) => (ecells (HBh.out.eng hu)).1)
       subst hA
       go_wp2_with (fail)
       refine wp_region_held_drew (S:=fun W' => Upd (fun k => k = e.ba) W5 W') (by kernel_rfl) HUw.out.drew (fun hS => ?_)
       refine zt 0 hS ?_
       refine zt 1 hS ?_
       refine zt 2 hS ?_
       refine zh 3 hS (fun w hw => (HEng.out w hw).2.1) ?_
       refine zt 4 hS ?_
       refine zk 5 (fun K hK => ?_)
       go_simp
       refine Calls.mono (HKy.out _ hS) ?_
       rintro e7 w7 ⟨rfl,rfl⟩
       go_wp2_with (fail)
       refine hK.out _ _ ((by exact hS)) (fun hS => ?_)
       clear hK K
       try simp only [Act.put,zA,zB,zC]
       refine zk 6 (fun K hK => ?_)
       go_simp
       refine Calls.mono (HHas.out _ hS) ?_
       rintro e7 w7 ⟨rfl,rfl⟩
       go_wp2_with (fail)
       refine hK.out _ _ ((by exact hS)) (fun hS => ?_)
       clear hK K
       try simp only [Act.put,zA,zB,zC]
       refine wpAnyH_done (by kernel_rfl) ?_ _
       rcases hh:At.hasK m.tx a.out.own with _ | _
       case' false =>
        have HN:=hid (HSkip.out wr.drew ((Upd.refl _ _).drew) (fun hm => by rw [hasK_mem.2 hm] at hh; cases hh))
        clear hS HPt HPut HSkip HUw hcell
        go_wp2
        go_roundw
        case rel => exact ⟨j + 1,by omega,by go_num,HN⟩
        case measure => simp [intOf]; omega
       case' true =>
        obtain ⟨n',T,hn',hM,hput⟩:=HPut.out wr.drew ((Upd.refl _ _).drew) (hasK_mem.1 hh)
        have HPu:=hid hput
        have hnm:n' < maxLen:=by simp only [maxLen]; omega
        clear hput hS HPt HPut HSkip hcell
        go_wp2_with (fail)
        refine wp_region_held_drew (S:=fun W' => Upd (fun k => k = e.ba) W5 W') (by kernel_rfl) HUw.out.drew.drew (fun hS => ?_)
        refine zt 0 hS ?_
        refine zt 1 hS ?_
        refine zt 2 hS ?_
        refine zh 3 hS (fun w hw => (HEng.out w hw).2.2.1) ?_
        refine zt 4 hS ?_
        refine zt 6 hS ?_
        refine zk 5 (fun K hK => ?_)
        go_simp
        refine Calls.mono (HKy.out _ hS) ?_
        rintro e7 w7 ⟨rfl,rfl⟩
        go_wp2_with (fail)
        refine hK.out _ _ ((by exact hS)) (fun hS => ?_)
        clear hK K
        try simp only [Act.put,zA,zB,zC]
        refine zk 7 (fun K hK => ?_)
        refine Ms.wp_store (.tmp 88) (.tmp 90) (.tmp 91) 96 9 49 (by rfl) Tryz.underlying9 Tryz.underlying96 e.ba n' T a.out.own (.pointer (some ⟨q7,0,none⟩)) (by rfl) (by rfl) (by rfl) hM.drew hnm hks ?_
        intro w9 hM9 hu9
        replace hu9:=Upd.of_drew hu9
        refine hK.out _ _ ((by exact HUw.out.drew.next hu9)) (fun hS => ?_)
        clear hK K
        try simp only [Act.put,zA,zB,zC]
        refine wpAnyH_done (by kernel_rfl) ?_ _
        have HN:=hid (HPu.out w9 hu9 hM9)
        clear hS HPu HUw hM hM9 hu9
        go_wp2
        go_roundw
        case rel => exact ⟨j + 1,by omega,by go_num,HN⟩
        case measure => simp [intOf]; omega
      case' neg =>
       obtain rfl:j = ac.length:=by omega
       have hc40:=HP.out.few
       obtain ⟨F6,hs6,hf6,hu6⟩:=HBh.out.fin (n:=m.n + 150) HPt.out (by simp only; omega)
       have hpB:pu ≠ e.ba:=fun e' => by
        have h1:=HBh.out.g3 _ (e' ▸ HBh.out.rs.here)
        have h2:=HC2p.out
        rcases HB5.out.2.sub _ h1 with h | h
        · exact hpuF pu rfl h
        · omega
       have hBu:=HB5b.out.upd HPt.out.upd hpB
       obtain ⟨e1,e2⟩:wr.cell? ⟨pu,1,none⟩ = _ ∧ wr.cell? ⟨pu,2,none⟩ = _:=⟨hBu.cell 1,hBu.cell 2⟩
       simp only [List.getElem?_toArray,List.getElem?_cons_succ,List.getElem?_cons_zero] at e1 e2
       have hBe:=HBh.out.eng HPt.out.upd
       obtain ⟨⟨_,_,_,g3,g4⟩,_⟩:=ecells hBe
       have f3:=hBe.free 3
       have f4:=hBe.free 4
       have HLs:=hid (⟨hs6,commit_ok HP.out.en.ok HP.out.ok HP.out.nd HP.out.qok HP.out.wok HP.out.few HP.out.ne HP.out.size HP.out.room HP.out.n,hf6,fun k hk => (HB5.out.2.sub k hk).imp id fun h => Nat.le_trans HU0.out.size h,HV2.out.2.1,HBh.out.v12,HBh.out.v5,HV2.out.2.2,hu6,HV2.out.1,HFp.out⟩:Ls w W5 wr F F5 F6 V V1 V2 p e m ac _ _)
       clear hs6 hf6 hu6 hBu hBe HPt
       have HFi:=HLs.out.end_ HP.out.one
       simp only [finW] at HFi
       have HFi:=hid HFi
       clear HLs
       go_wp2
       go_ret
       exact HFi.out
end Go.Proofs.YtclfmpieapbfnaaGreatDoor.Eg
end
