/-
  The walk of window.Add.
-/
import Derived.Test.YtogijfgfcdmbnaaWw
set_option linter.unusedVariables false
set_option linter.unusedSimpArgs false
namespace Go.Proofs.Ytogijfgfcdmbnaa.Ww
open Go.RowKit Go.Proofs.Ytogijfgfcdmbnaa.B Go.Proofs.Ytogijfgfcdmbnaa.Df Go.Proofs.Ytogijfgfcdmbnaa.Ws Go.Proofs.Ytogijfgfcdmbnaa.Mp Go.Proofs.Ytogijfgfcdmbnaa.Wp
theorem box1 {w : World} {g : Nat} {t : TypeId} {a : Value} (h : Blk w g t #[a]) : w.cell? ⟨g, 0, none⟩ = some a := by simpa using h.cell 0
theorem box2 {w : World} {g : Nat} {t : TypeId} {a b : Value} (h : Blk w g t #[a, b]) : w.cell? ⟨g, 0, none⟩ = some a ∧ w.cell? ⟨g, 1, none⟩ = some b := ⟨by simpa using h.cell 0, by simpa using h.cell 1⟩
theorem boxed {W8 W : World} {e : TypeId} {u : Value} (h : W8 = W.alloc (.cells #[u] e)) : Rd W8 1 (some ⟨W.heap.size, 0, none⟩) 1 [u] := by
  rw [h]
  exact Rd_lit W e 1 1 [u] rfl
theorem boxed_drew {W8 W : World} {e : TypeId} {u : Value} (h : W8 = (W.alloc (.cells #[u] e)).drew) : Rd W8 1 (some ⟨W.heap.size, 0, none⟩) 1 [u] := by
  rw [h]
  exact Rd_lit W e 1 1 [u] rfl
theorem ownb (A : Option Addr) (n c n' c' : Nat) : (Value.slice A n c).ownBlock = (Value.slice A n' c').ownBlock := by cases A <;> rfl
theorem val_of {w6 : World} {base g6 N c6 D : Nat} {l5 : List Int} {s : Int} {A7 : Option Addr} (ho6 : w6.ownsRow base 22 1 (.slice (some ⟨g6, 0, none⟩) N c6) N (nums .u64 l5 ++ [.int .u64 s])) (hN : N = l5.length + 1) (hD : D = N - 4)
    (hA7 : A7 = if c6 = D then some ⟨g6, 0, none⟩ else Option.map (fun x : Addr => x.add D) (some ⟨g6, 0, none⟩)) : Vl w6 (fun k => k = g6) (.slice A7 (N - D) (c6 - D)) (cut4 (l5 ++ [s])) := by
  have hl : (l5 ++ [s]).length = N := by rw [hN]; simp
  obtain ⟨_, _, hv, h1, h2⟩ := own_shape ho6
  simp only [Value.slice.injEq, true_and] at hv
  obtain ⟨_, rfl⟩ := hv
  have hR : Rn w6 .u64 (some ⟨g6, 0, none⟩) (l5 ++ [s]) := by
    have := Rd.of_own ho6
    unfold Rn
    rw [hl, nums_append]
    exact this
  have hcut : cut4 (l5 ++ [s]) = (l5 ++ [s]).drop D := by rw [cut4, hl, hD]
  refine ⟨A7, c6 - D, by rw [hcut, List.length_drop, hl], by rw [hcut, List.length_drop, hl]; omega, by omega, ?_, fun ad h => ?_⟩
  · rw [hcut, hA7]
    exact Rn.drop (i := D) (c := c6) hR (by omega) (by omega)
  · rw [hA7] at h
    obtain ⟨ad', h1, h2⟩ := cut_block h
    injection h1 with h1
    rw [h2, ← h1]
theorem Vl.mono {w : World} {G H : Nat → Prop} {v : Value} {l : List Int} (h : Vl w G v l) (hg : ∀ k, G k → H k) : Vl w H v l := by
  obtain ⟨A, c, h1, h2, h3, h4, h5⟩ := h
  exact ⟨A, c, h1, h2, h3, h4, fun ad e => hg _ (h5 ad e)⟩
theorem Vl.nil (w : World) (G : Nat → Prop) : Vl w G nl [] := ⟨none, 0, rfl, Nat.le_refl _, by simp, Rd.nil_ _ _ _, fun ad h => by cases h⟩
theorem first_cell {w : World} {t : TypeId} {A : Option Addr} {n c : Nat} {u : Value} {r : List Value} (h : Sl w 0 t 1 (.slice A (n + 1) c) (n + 1) (u :: r)) : ∃ g off, A = some ⟨g, off, none⟩ ∧ w.cell? ⟨g, off, none⟩ = some u ∧ g < w.heap.size := by
  rcases h.2 with ⟨_, h⟩ | ⟨g, off, cap, cur, hv, _, hh, _, _, _, hc⟩
  · omega
  · simp only [Value.slice.injEq, true_and] at hv
    obtain ⟨rfl, rfl⟩ := hv
    exact ⟨g, off, rfl, by rw [hh.cell]; exact hc 0 u rfl, hh.lt⟩
theorem Wx.fvb {w : World} {F : Nat → Prop} {p n : Nat} {x : St} {b : Nat} {v : Value} {m : Int → Value} {G : Nat → Prop} (h : Wx w F p x n (some b) v m G) : ∀ k, v.ownBlock = some k → k ≠ b := fun k hk e => (h.fv k hk).2.2 (by rw [e])
theorem u64_info : (Try.prog.info? 22).map (fun i => (i.zero, i.size, i.bytes)) = some (some (.int .u64 0), 1, 8) := by kernel_rfl
def AddOut (w : World) (F : Nat → Prop) (p n : Nat) (x : St) (r : Bool × St) (e : Ending) (w' : World) : Prop := e = .returned (.bool r.1) ∧ ∃ F', Wd w' F' p r.2 (n + 1) ∧ Mv F F' w w'
theorem AddOut.of {w : World} {F : Nat → Prop} {p n : Nat} {x : St} {r : Bool × St} {e : Ending} {w' : World} (h : e = .returned (.bool r.1) ∧ ∃ F', Wd w' F' p r.2 (n + 1) ∧ Mv F F' w w') : AddOut w F p n x r e w' := h
theorem Wx.mono {w : World} {F : Nat → Prop} {p n n' : Nat} {x : St} {mo : Option Nat} {v : Value} {m : Int → Value} {G : Nat → Prop} (h : Wx w F p x n mo v m G) (hn : n ≤ n') : Wx w F p x n' mo v m G :=
  { h with map := fun b hb => (h.map b hb).mono hn }
/-- Behind Add. -/
theorem Wx.fin {w w4 wz : World} {F F4 G' : Nat → Prop} {p n n' nz b g6 : Nat} {x z : St} {v vz : Value} {m' mz : Int → Value} (h : Wx w4 F4 p x n' (some b) v m' G') (hM : Mv F F4 w w4)
    (hB : Blk wz p 41 #[.map (some b), vz]) (hO : Sl wz 0 22 1 vz (ks z).length (nums .u64 (ks z))) (hMp : Mp.Mp Try.prog wz 22 b nz mz) (hnz : nz ≤ n + 1)
    (hu : Upd (fun k => k = p ∨ k = b ∨ v.ownBlock = some k) w4 wz)
    (hval : ∀ c, Wp.Key c → (mz c = m' c ∧ sr z c = sr x c) ∨ Vl wz (fun k => k = g6) (mz c) (sr z c))
    (hg6 : w4.heap.size ≤ g6 ∧ g6 < wz.heap.size) (hvz : ∀ k, vz.ownBlock = some k → (v.ownBlock = some k ∨ w4.heap.size ≤ k) ∧ k ≠ g6) :
    ∃ F', Wd wz F' p z (n + 1) ∧ Mv F F' w wz := by
  have hz := hu.size
  have hfb := h.fb b rfl
  have hpl := h.lt p h.fp
  have hbl := h.lt b hfb.1
  refine ⟨fun k => F4 k ∨ k = g6 ∨ vz.ownBlock = some k, ⟨some b, vz, mz, fun k => G' k ∨ k = g6, hB, hO, fun b' hb' => ?_, fun h => (by cases h), fun c hc => ?_, .inl h.fp, fun b' hb' => ?_, fun k hk => ?_, fun k hk => ?_, fun k hk => ?_⟩, ⟨hM.upd.trans hu ?_, fun k hk => ?_⟩⟩
  · injection hb' with hb'
    subst hb'
    exact hMp.mono hnz
  · rcases hval c hc with ⟨h1, h2⟩ | h1
    · rw [h1, h2]
      obtain ⟨A, k, e1, e2, e3, e4, e5⟩ := (h.val c hc).upd hu (fun k hk => by
        obtain ⟨_, h1, h2, h3⟩ := h.fg k hk
        rintro (h4 | h4 | h4)
        · exact h1 h4
        · exact h3 (by rw [h4])
        · exact h2 h4)
      exact ⟨A, k, e1, e2, e3, e4, fun ad e => .inl (e5 ad e)⟩
    · obtain ⟨A, k, e1, e2, e3, e4, e5⟩ := h1
      exact ⟨A, k, e1, e2, e3, e4, fun ad e => .inr (e5 ad e)⟩
  · injection hb' with hb'
    subst hb'
    exact ⟨.inl hfb.1, hfb.2⟩
  · obtain ⟨h1, h2⟩ := hvz k hk
    refine ⟨.inr (.inr hk), ?_, fun e => ?_⟩
    · rcases h1 with h1 | h1
      · exact (h.fv k h1).2.1
      · omega
    · injection e with e
      rcases h1 with h1 | h1
      · exact (h.fv k h1).2.2 (by rw [e])
      · omega
  · rcases hk with hk | rfl
    · obtain ⟨h0, h1, h2, h3⟩ := h.fg k hk
      have := h.lt k h0
      exact ⟨.inl h0, h1, fun e => (hvz k e).1.elim h2 fun h => by omega, h3⟩
    · exact ⟨.inr (.inl rfl), by omega, fun e => (hvz _ e).2 rfl, fun e => by injection e with e; omega⟩
  · rcases hk with hk | rfl | hk
    · have := h.lt k hk; omega
    · exact hg6.2
    · exact (hO.lt k hk).2
  · rintro i hi (rfl | rfl | hk)
    · exact (hM.sub _ h.fp).elim id fun h => by omega
    · exact (hM.sub _ hfb.1).elim id fun h => by omega
    · exact (hM.sub _ (h.fv i hk).1).elim id fun h => by omega
  · have hs := hM.upd.size
    rcases hk with hk | rfl | hk
    · exact hM.sub k hk
    · exact .inr (by omega)
    · rcases (hvz k hk).1 with h1 | h1
      · exact hM.sub k (h.fv k h1).1
      · exact .inr (by omega)
set_option maxHeartbeats 1000000 in
theorem add_seen {w : World} {F : Nat → Prop} {p n : Nat} {x : St} (c s : Int) (h : Wd w F p x n) (hc : Wp.Key c) (hs : s ∈ sr x c) :
    Calls Try.prog 11 #[.pointer (some ⟨p, 0, none⟩), .int .u64 c, .int .u64 s] w fun e w' => AddOut w F p n x (addX x c s) e w' := by
  have hu1 : Upd No w (w.alloc (.cells #[.int .u64 c] 22)) := (Upd.refl _ _).alloc _
  have hb1 := (Blk.fresh w 22 #[.int .u64 c]).cell 0
  simp at hb1
  have HS := hid (seen c s (h.upd hu1 fun _ _ => no_ _) hc)
  have HT : Hid (addX x c s = (false, x) ∧ decide (s ∈ sr x c) = true) := hid ⟨by simp [addX, hs], by simpa using hs⟩
  rw [HT.out.2] at HS
  have HE : Hid (Wd (w.alloc (.cells #[.int .u64 c] 22)) F p x (n + 1) ∧ Mv F F w (w.alloc (.cells #[.int .u64 c] 22))) := by
    obtain ⟨mo, v, m, G, h⟩ := h
    exact hid ⟨⟨mo, v, m, G, (h.upd hu1 fun _ _ => no_ _).mono (by omega)⟩, ⟨hu1.mono fun _ _ h => h.elim, fun k hk => .inl hk⟩⟩
  rw [HT.out.1]
  clear hs h HT
  go_enter Try.func11, Try.ntmps11
  go_wp2_with (fail)
  refine Calls.mono HS.out ?_
  rintro e w' ⟨rfl, rfl⟩
  go_wp2
  go_ret
  exact .of ⟨rfl, F, HE.out⟩
set_option maxHeartbeats 2000000 in
set_option maxRecDepth 100000 in
theorem add_new {w : World} {F : Nat → Prop} {p n : Nat} {x : St} (c s : Int) (h : Wd w F p x n) (hc : Wp.Key c) (hsk : Wp.Key s) (hs : s ∉ sr x c) (hok : Ok x) (hn : n ≤ 1000000) :
    Calls Try.prog 11 #[.pointer (some ⟨p, 0, none⟩), .int .u64 c, .int .u64 s] w fun e w' => AddOut w F p n x (addX x c s) e w' := by
  have hu1 : Upd No w (w.alloc (.cells #[.int .u64 c] 22)) := (Upd.refl _ _).alloc _
  have hb1 := Blk.fresh w 22 #[.int .u64 c]
  have HS := hid (seen c s (h.upd hu1 fun _ _ => no_ _) hc)
  have hT : decide (s ∈ sr x c) = false := by simpa using hs
  rw [hT] at HS
  have HA : Hid (addX x c s = (true, cut64 (laid x c s))) := hid (by simp [addX, hs])
  rw [HA.out]
  have qm := fun (w : World) (r : Option Nat) => run_eql_map_nil (P := Try.prog) w 39 22 27 r Try.underlying39
  have hmk := @run_makeMap Try.prog
  obtain ⟨mo, v, m, G, h⟩ := h
  have hX1 := h.upd hu1 fun _ _ => no_ _
  have c0 := hX1.blk.cell 0
  have f0 := hX1.blk.free 0
  have c1 := hX1.blk.cell 1
  simp at c0 c1
  have HX1 := hid hX1
  have hpl := h.lt p h.fp
  have HL := hid h.lt
  clear hT hs hX1
  go_enter Try.func11, Try.ntmps11
  go_wp2_with (fail)
  generalize hw1 : w.alloc (.cells #[.int .u64 c] 22) = w1 at *
  refine Calls.mono HS.out ?_
  rintro e w' ⟨rfl, rfl⟩
  have d1 := hb1.cell 0
  simp at d1
  have hs1 : w.heap.size < w1.heap.size := by rw [← hw1]; simp
  clear hw1
  rcases mo with _ | b
  case' none =>
    have hB2 := HX1.out.blk.alloc (.map #[] 0)
    have k0 := hB2.cell 0
    have g0 := hB2.free 0
    simp at k0
    have hD2 := (hb1.alloc (.map #[] 0)).far (p := ⟨p, 0, none⟩) (by simp; omega) (.map (some w1.heap.size))
    have hD3 := hD2.cell 0
    simp only [List.getElem?_toArray, List.getElem?_cons_zero] at hD3
    have HW : Hid (∃ (b n' : Nat) (m' : Int → Value) (F4 G' : Nat → Prop), n' ≤ n ∧ b = w1.heap.size ∧ Wx ((w1.alloc (.map #[] 0)).setCell ⟨p, 0, none⟩ (.map (some w1.heap.size))) F4 p x n' (some b) v m' G' ∧ Mv F F4 w ((w1.alloc (.map #[] 0)).setCell ⟨p, 0, none⟩ (.map (some w1.heap.size))) ∧ (∀ k, F4 k → k ≠ w.heap.size)) := by
      have h := HX1.out
      have hx0 := (h.non rfl).1
      have hp1 := h.lt p h.fp
      refine hid ⟨_, 0, fun _ => nl, fun k => F k ∨ k = w1.heap.size, G, by omega, rfl, ⟨?_, ?_, fun b' hb' => ?_, fun h => (by cases h), fun c hc => ?_, .inl h.fp, fun b' hb' => ?_, fun k hk => ?_, fun k hk => ?_, fun k hk => ?_⟩, ⟨?_, fun k hk => ?_⟩, fun k hk => ?_⟩
      · simpa using (h.blk.alloc (.map #[] 0)).put 0 (.map (some w1.heap.size))
      · exact (h.ord.alloc _).upd ((Upd.refl _ _).set1 0 _) fun g hg => (h.fv g hg).2.1
      · injection hb' with hb'
        subst hb'
        exact (Mp.made Try.prog w1 22).upd ((Upd.refl (fun k => k = p) _).set1 0 _) (by omega)
      · rw [hx0]
        exact Vl.nil _ _
      · injection hb' with hb'
        subst hb'
        exact ⟨.inr rfl, by omega⟩
      · obtain ⟨h1, h2, _⟩ := h.fv k hk
        have := h.lt k h1
        exact ⟨.inl h1, h2, fun e => by injection e with e; omega⟩
      · obtain ⟨h1, h2, h3, _⟩ := h.fg k hk
        have := h.lt k h1
        exact ⟨.inl h1, h2, h3, fun e => by injection e with e; omega⟩
      · rcases hk with hk | rfl
        · have := h.lt k hk
          simp [World.setCell]
          omega
        · simp [World.setCell]
      · exact ((hu1.mono fun _ _ h => h.elim).alloc _).set (p := ⟨p, 0, none⟩) (.inl h.fp) _
      · rcases hk with hk | rfl
        · exact .inl hk
        · exact .inr (by omega)
      · rcases hk with hk | rfl
        · have := HL.out k hk; omega
        · omega
    go_wp2_with (fail)
    generalize (w1.alloc (.map #[] 0)).setCell ⟨p, 0, none⟩ (.map (some w1.heap.size)) = w4 at *
    obtain ⟨b, n', m', F4, G', hn', hb, hX4, hM4, hF4⟩ := HW.out
    rw [← hb]
    have HD4 := hid hD2
    clear hb hD2 hB2 k0 g0
  case' some b =>
    go_wp2_with (fail)
    obtain ⟨n', m', F4, G', hn', hX4, hM4, hF4⟩ : ∃ (n' : Nat) (m' : Int → Value) (F4 G' : Nat → Prop), n' ≤ n ∧ Wx w1 F4 p x n' (some b) v m' G' ∧ Mv F F4 w w1 ∧ (∀ k, F4 k → k ≠ w.heap.size) := ⟨n, m, F, G, by omega, HX1.out, ⟨hu1.mono fun _ _ h => h.elim, fun k hk => .inl hk⟩, fun k hk => by have := h.lt k hk; omega⟩
    have HD4 := hid hb1
    obtain ⟨w4, rfl⟩ : ∃ w4, w4 = w1 := ⟨_, rfl⟩
  all_goals
    clear HS c0 f0 c1 d1 hs1 HX1 hb1 hu1 h
    have hsrl := hok.sr_le c
    have HSe := hid (serials c ⟨some b, v, m', G', hX4⟩ hc hsrl)
    have e4 := box1 HD4.out
    refine Calls.mono HSe.out ?_
    rintro e w5 ⟨A5, c5, rfl, ho5, hu5⟩
    obtain ⟨l5, hl5⟩ : ∃ l5, l5 = sr x c := ⟨_, rfl⟩
    rw [← hl5] at ho5 hsrl ⊢
    have HL5 := hid hl5
    clear hl5 HSe e4
    go_wp2_with (at_builtin; go_must (refine ap_one rfl (.tmp 27) (.tmp 29) 27 22 (.int .u64 0) 8 rfl Try.underlying27 u64_info rfl (.slice A5 l5.length c5) l5.length (nums .u64 l5) (.int .u64 s) rfl rfl (Blk.fresh _ _ _) rfl (ho5.alloc _) (by omega) (by omega) ?_ (by have := hu5.size; simp; omega)); intro g6 c6 w6 ho6 hg6 hat6)
    have hu46 : Upd No w4 w6 := (hu5.alloc _).grown hg6 fun k hk => .inr (ho5.lt k hk).1
    have hg6l := (ho6.lt g6 rfl)
    have hX6 := hX4.upd hu46 fun _ _ => no_ _
    have HD6 := hid (HD4.out.upd hu46 (no_ _))
    have hfb := hX4.fb b rfl
    have hFl := hX4.lt
    have hbF := hX4.lt b hfb.1
    obtain ⟨N, hN⟩ : ∃ N, N = l5.length + 1 := ⟨_, rfl⟩
    rw [← hN] at ho6
    have hcap := own_len ho6
    obtain ⟨D, hD⟩ : ∃ D, D = N - 4 := ⟨_, rfl⟩
    obtain ⟨A7, hA7, hcut⟩ := cut_from (P := Try.prog) 27 22 .i64 Try.underlying27 (by kernel_rfl) (some ⟨g6, 0, none⟩) N c6 D (D : Int) rfl (by omega)
    have hN' : ((l5.length + 1 : Nat) : Int) = (N : Int) := by rw [hN]
    have HN := hid hN
    have HD := hid hD
    have HA7 := hid hA7
    have HN1 : 1 ≤ N ∧ N ≤ 5 := by omega
    have hwr : IntKind.i64.wrap ((N : Int) - 4) = (N : Int) - 4 := IntWalk.i64_in _ (by omega)
    have e9 : (if IntKind.i64.wrap ((N : Int) - 4) < 0 then 0 else IntKind.i64.wrap ((N : Int) - 4)) = (D : Int) := by
      rw [hwr]
      split <;> omega
    rw [← hN]
    clear hN hD hA7 hN' hwr
    clear hu5 ho5 hg6 hat6
    go_wp2_with (fail)
    refine wp_region_held_drew (S := fun W => Upd (fun k => k = b) w6 W) (by kernel_rfl) (Upd.refl _ _).drew (fun hS => ?_)
    refine rg_at 0 (by decide) (fun oi hoi => ?_)
    have ho2 := hoi; simp only [List.getElem?_toArray, List.getElem?_cons_succ, List.getElem?_cons_zero, Option.some.injEq] at ho2; subst ho2
    refine rg_take (v := ?_) 0 hoi (by kernel_rfl) (by kernel_rfl) (by kernel_rfl) (fun _ _ _ h => h) (by rfl) ?_ hS ?_
    rotate_left
    · intro w _; go_simp; try with_reducible rfl
    clear hoi; try simp only [Act.put, List.setIfInBounds_toArray, List.set_cons_zero, List.set_cons_succ]
    refine rg_at 1 (by decide) (fun oi hoi => ?_)
    have ho2 := hoi; simp only [List.getElem?_toArray, List.getElem?_cons_succ, List.getElem?_cons_zero, Option.some.injEq] at ho2; subst ho2
    refine rg_take (v := ?_) 1 hoi (by kernel_rfl) (by kernel_rfl) (by kernel_rfl) (fun _ _ _ h => h) (by rfl) ?_ hS ?_
    rotate_left
    · intro w _; go_simp; try with_reducible rfl
    clear hoi; try simp only [Act.put, List.setIfInBounds_toArray, List.set_cons_zero, List.set_cons_succ]
    refine rg_at 2 (by decide) (fun oi hoi => ?_)
    have ho2 := hoi; simp only [List.getElem?_toArray, List.getElem?_cons_succ, List.getElem?_cons_zero, Option.some.injEq] at ho2; subst ho2
    refine rg_take (v := ?_) 2 hoi (by kernel_rfl) (by kernel_rfl) (by kernel_rfl) (fun _ _ _ h => h) (by rfl) ?_ hS ?_
    rotate_left
    · intro w _; go_simp; try with_reducible rfl
    clear hoi; try simp only [Act.put, List.setIfInBounds_toArray, List.set_cons_zero, List.set_cons_succ]
    refine rg_at 3 (by decide) (fun oi hoi => ?_)
    have ho2 := hoi; simp only [List.getElem?_toArray, List.getElem?_cons_succ, List.getElem?_cons_zero, Option.some.injEq] at ho2; subst ho2
    refine rg_take (v := ?_) 3 hoi (by kernel_rfl) (by kernel_rfl) (by kernel_rfl) (fun _ _ _ h => h) (by rfl) ?_ hS ?_
    rotate_left
    · intro w hw; have hf := (box2 (hX6.blk.upd hw (Ne.symm hfb.2))).1; clear hw; go_simp; try with_reducible rfl
    clear hoi; try simp only [Act.put, List.setIfInBounds_toArray, List.set_cons_zero, List.set_cons_succ]
    refine rg_at 4 (by decide) (fun oi hoi => ?_)
    have ho2 := hoi; simp only [List.getElem?_toArray, List.getElem?_cons_succ, List.getElem?_cons_zero, Option.some.injEq] at ho2; subst ho2
    refine rg_take (v := ?_) 4 hoi (by kernel_rfl) (by kernel_rfl) (by kernel_rfl) (fun _ _ _ h => h) (by rfl) ?_ hS ?_
    rotate_left
    · intro w hw; have hf := box1 (HD6.out.upd hw (fun e => hF4 b hfb.1 e.symm)); clear hw; go_simp; try with_reducible rfl
    clear hoi; try simp only [Act.put, List.setIfInBounds_toArray, List.set_cons_zero, List.set_cons_succ]
    refine rg_at 5 (by decide) (fun oi hoi => ?_)
    have ho2 := hoi; simp only [List.getElem?_toArray, List.getElem?_cons_succ, List.getElem?_cons_zero, Option.some.injEq] at ho2; subst ho2
    refine rg_take (v := ?_) 5 hoi (by kernel_rfl) (by kernel_rfl) (by kernel_rfl) (fun _ _ _ h => h) (by rfl) ?_ hS ?_
    rotate_left
    · intro w _; go_simp; try with_reducible rfl
    clear hoi; try simp only [Act.put, List.setIfInBounds_toArray, List.set_cons_zero, List.set_cons_succ]
    refine rg_at 6 (by decide) (fun oi hoi => ?_)
    have ho2 := hoi; simp only [List.getElem?_toArray, List.getElem?_cons_succ, List.getElem?_cons_zero, Option.some.injEq] at ho2; subst ho2
    refine rg_take (v := ?_) 6 hoi (by kernel_rfl) (by kernel_rfl) (by kernel_rfl) (fun _ _ _ h => h) (by rfl) ?_ hS ?_
    rotate_left
    · intro w _; go_simp; try with_reducible rfl
    clear hoi; try simp only [Act.put, List.setIfInBounds_toArray, List.set_cons_zero, List.set_cons_succ]
    refine rg_at 7 (by decide) (fun oi hoi => ?_)
    have ho2 := hoi; simp only [List.getElem?_toArray, List.getElem?_cons_succ, List.getElem?_cons_zero, Option.some.injEq] at ho2; subst ho2
    refine rg_take (v := ?_) 7 hoi (by kernel_rfl) (by kernel_rfl) (by kernel_rfl) (fun _ _ _ h => h) (by rfl) ?_ hS ?_
    rotate_left
    · intro w _; go_simp; try with_reducible rfl
    clear hoi; try simp only [Act.put, List.setIfInBounds_toArray, List.set_cons_zero, List.set_cons_succ]
    refine rg_at 8 (by decide) (fun oi hoi => ?_)
    have ho2 := hoi; simp only [List.getElem?_toArray, List.getElem?_cons_succ, List.getElem?_cons_zero, Option.some.injEq] at ho2; subst ho2
    refine rg_take (v := ?_) 8 hoi (by kernel_rfl) (by kernel_rfl) (by kernel_rfl) (fun _ _ _ h => h) (by rfl) ?_ hS ?_
    rotate_left
    · intro w _; go_simp; try with_reducible rfl
    clear hoi; try simp only [Act.put, List.setIfInBounds_toArray, List.set_cons_zero, List.set_cons_succ]
    refine rg_at 9 (by decide) (fun oi hoi => ?_)
    have ho2 := hoi; simp only [List.getElem?_toArray, List.getElem?_cons_succ, List.getElem?_cons_zero, Option.some.injEq] at ho2; subst ho2
    refine rg_take (v := ?_) 9 hoi (by kernel_rfl) (by kernel_rfl) (by kernel_rfl) (fun _ _ _ h => h) (by rfl) ?_ hS ?_
    rotate_left
    · intro w _; go_simp; try with_reducible rfl
    clear hoi; try simp only [Act.put, List.setIfInBounds_toArray, List.set_cons_zero, List.set_cons_succ]
    refine rg_at 10 (by decide) (fun oi hoi => ?_)
    have ho2 := hoi; simp only [List.getElem?_toArray, List.getElem?_cons_succ, List.getElem?_cons_zero, Option.some.injEq] at ho2; subst ho2
    refine rg_take (v := ?_) 10 hoi (by kernel_rfl) (by kernel_rfl) (by kernel_rfl) (fun _ _ _ h => h) (by rfl) ?_ hS ?_
    rotate_left
    · intro w _; go_simp; try with_reducible rfl
    clear hoi; try simp only [Act.put, List.setIfInBounds_toArray, List.set_cons_zero, List.set_cons_succ]
    refine rg_at 11 (by decide) (fun oi hoi => ?_)
    have ho2 := hoi; simp only [List.getElem?_toArray, List.getElem?_cons_succ, List.getElem?_cons_zero, Option.some.injEq] at ho2; subst ho2
    refine rg_call 11 (by kernel_rfl) hoi (by rfl) (fun K hK => ?_)
    clear hoi
    refine Mp.wp_store (.tmp 34) (.tmp 35) (.tmp 41) 39 22 27 (by rfl) Try.underlying22 Try.underlying39 b n' m' c (.slice A7 (N - D) (c6 - D)) (by rfl) (by rfl) (by rfl) (hX6.map b rfl).drew (by simp only [maxLen]; omega) hc ?_
    intro w7 hM7 hu7
    replace hu7 := Upd.of_drew hu7
    refine hK.out _ _ ((by exact hu7)) (fun hS => ?_)
    clear hK K
    try simp only [Act.put, List.setIfInBounds_toArray, List.set_cons_zero, List.set_cons_succ]
    refine wpAnyH_done (by kernel_rfl) ?_ _
    have hB7 := hX6.blk.upd hu7 (Ne.symm hfb.2)
    have hO7 := hX6.ord.upd hu7 (fun g hg e => (hX6.fv g hg).2.2 (by rw [e]))
    have hD7 := HD6.out.upd hu7 (fun e => hF4 b hfb.1 e.symm)
    have hfv := hX4.fv
    have hb0F : ∀ k, v.ownBlock = some k → k ≠ w.heap.size ∧ k ≠ p := fun k hk => ⟨hF4 k (hfv k hk).1, (hfv k hk).2.1⟩
    have hpF := hF4 p hX4.fp
    obtain ⟨Av, cv, hv, hcv1, hcv2⟩ := hO7.shape
    have HB := hid (And.intro hX4 (And.intro hX6 hM7))
    have hkl : (ks x).length ≤ 64 := by rw [ks_length]; exact hok.len
    rw [hv] at hO7 hb0F hB7
    have HV := hid hv
    obtain ⟨fl, hfl⟩ : ∃ fl, fl = (ks x).filter (fun y => !decide (y = c)) := ⟨_, rfl⟩
    have hC7 := fun (W : World) (hu7W : Upd No w7 W) => u_del (q := fun y => decide (y = c)) (c := cv) (w := W) 0 w.heap.size (hO7.upd hu7W fun _ _ => no_ _) (by omega) (hid fun W' hu y hy => add1 _ c y W' (box1 ((hD7.upd hu7W (no_ _)).upd hu (fun e => (hb0F _ e).1 rfl))))
    simp only [← hfl] at hC7
    have HC7 := hid hC7
    have hfll : fl.length ≤ 64 := by
      rw [hfl]
      have := List.length_filter_le (fun y => !decide (y = c)) (ks x)
      omega
    have HFL := hid hfl
    have hN : Upd No w7 w7.drew := (Upd.refl _ _).drew
    have hU : Upd (fun k => (Value.slice Av (ks x).length cv).ownBlock = some k) w7 w7.drew := (Upd.refl _ _).drew
    have hD := hD7.drew
    have hB := hB7.drew
    have hob : ∀ k, (Value.slice Av (ks x).length cv).ownBlock = some k → k < w7.heap.size := fun k hk => (hO7.lt k hk).2
    clear hv hfl hC7 e9 hcut hX6 hX4 hfv hfb hM7 hD7 hB7 hO7
    go_wp2_with (fail)
    refine wp_region_held_drew (S := fun W => Blk W w.heap.size 22 #[.int .u64 c]) (by kernel_rfl) hD (fun hS => ?_)
    refine rg_at 0 (by decide) (fun oi hoi => ?_)
    have ho2 := hoi; simp only [List.getElem?_toArray, List.getElem?_cons_succ, List.getElem?_cons_zero, Option.some.injEq] at ho2; subst ho2
    refine rg_take (v := ?_) 0 hoi (by kernel_rfl) (by kernel_rfl) (by kernel_rfl) (fun _ _ _ h => h) (by rfl) ?_ hS ?_
    rotate_left
    · intro w _; go_simp; try with_reducible rfl
    clear hoi; try simp only [Act.put, List.setIfInBounds_toArray, List.set_cons_zero, List.set_cons_succ]
    refine rg_at 1 (by decide) (fun oi hoi => ?_)
    have ho2 := hoi; simp only [List.getElem?_toArray, List.getElem?_cons_succ, List.getElem?_cons_zero, Option.some.injEq] at ho2; subst ho2
    refine rg_take (v := ?_) 1 hoi (by kernel_rfl) (by kernel_rfl) (by kernel_rfl) (fun _ _ _ h => h) (by rfl) ?_ hS ?_
    rotate_left
    · intro w _; go_simp; try with_reducible rfl
    clear hoi; try simp only [Act.put, List.setIfInBounds_toArray, List.set_cons_zero, List.set_cons_succ]
    refine rg_at 2 (by decide) (fun oi hoi => ?_)
    have ho2 := hoi; simp only [List.getElem?_toArray, List.getElem?_cons_succ, List.getElem?_cons_zero, Option.some.injEq] at ho2; subst ho2
    refine rg_take (v := ?_) 2 hoi (by kernel_rfl) (by kernel_rfl) (by kernel_rfl) (fun _ _ _ h => h) (by rfl) ?_ hS ?_
    rotate_left
    · intro w _; go_simp; try with_reducible rfl
    clear hoi; try simp only [Act.put, List.setIfInBounds_toArray, List.set_cons_zero, List.set_cons_succ]
    refine rg_at 3 (by decide) (fun oi hoi => ?_)
    have ho2 := hoi; simp only [List.getElem?_toArray, List.getElem?_cons_succ, List.getElem?_cons_zero, Option.some.injEq] at ho2; subst ho2
    refine rg_take (v := ?_) 3 hoi (by kernel_rfl) (by kernel_rfl) (by kernel_rfl) (fun _ _ _ h => h) (by rfl) ?_ hS ?_
    rotate_left
    · intro w _; go_simp; try with_reducible rfl
    clear hoi; try simp only [Act.put, List.setIfInBounds_toArray, List.set_cons_zero, List.set_cons_succ]
    refine rg_at 5 (by decide) (fun oi hoi => ?_)
    have ho2 := hoi; simp only [List.getElem?_toArray, List.getElem?_cons_succ, List.getElem?_cons_zero, Option.some.injEq] at ho2; subst ho2
    refine rg_take (v := ?_) 5 hoi (by kernel_rfl) (by kernel_rfl) (by kernel_rfl) (fun _ _ _ h => h) (by rfl) ?_ hS ?_
    rotate_left
    · intro w _; go_simp; try with_reducible rfl
    clear hoi; try simp only [Act.put, List.setIfInBounds_toArray, List.set_cons_zero, List.set_cons_succ]
    refine rg_at 7 (by decide) (fun oi hoi => ?_)
    have ho2 := hoi; simp only [List.getElem?_toArray, List.getElem?_cons_succ, List.getElem?_cons_zero, Option.some.injEq] at ho2; subst ho2
    refine rg_take (v := ?_) 7 hoi (by kernel_rfl) (by kernel_rfl) (by kernel_rfl) (fun _ _ _ h => h) (by rfl) ?_ hS ?_
    rotate_left
    · intro w hw; have hf := box1 hw; clear hw; go_simp; try with_reducible rfl
    clear hoi; try simp only [Act.put, List.setIfInBounds_toArray, List.set_cons_zero, List.set_cons_succ]
    refine rg_two 4 8 (by kernel_rfl) ?_ ?_
    focus
      refine rg_op_at 4 (by decide) (fun oi hoi => ?_)
      have ho2 := hoi; simp only [List.getElem?_toArray, List.getElem?_cons_succ, List.getElem?_cons_zero, Option.some.injEq] at ho2; subst ho2
      refine rg_step 4 hoi (by rfl) (fun K hK => ?_)
      clear hoi
      have k4 := (box2 hB).2
      go_simp
      refine hK.out _ _ (hD) (fun hS => ?_)
      clear hK K
      try simp only [Act.put, List.setIfInBounds_toArray, List.set_cons_zero, List.set_cons_succ]
      refine rg_two 6 8 (by kernel_rfl) ?_ ?_
      focus
        refine rg_op_at 6 (by decide) (fun oi hoi => ?_)
        have ho2 := hoi; simp only [List.getElem?_toArray, List.getElem?_cons_succ, List.getElem?_cons_zero, Option.some.injEq] at ho2; subst ho2
        refine rg_step 6 hoi (by rfl) (fun K hK => ?_)
        clear hoi
        go_simp
        with_reducible refine Calls.mono (HC7.out _ hN) ?_
        rintro e w8 ⟨rfl, hO8, hu8⟩
        replace hD := hD.upd hu8 (fun e => (hb0F _ e).1 rfl)
        replace hB := hB.upd hu8 (fun e => (hb0F _ e).2 rfl)
        replace hU := hU.next hu8
        try (replace hR := Rd.upd hR (by omega) hu8 (fun ad had h => by cases had; exact absurd (hob _ h) (Nat.lt_irrefl _)))
        go_wp2_with (fail)
        refine hK.out _ _ (hD) (fun hS => ?_)
        clear hK K
        try simp only [Act.put, List.setIfInBounds_toArray, List.set_cons_zero, List.set_cons_succ]
        refine rg_at 8 (by decide) (fun oi hoi => ?_)
        have ho2 := hoi; simp only [List.getElem?_toArray, List.getElem?_cons_succ, List.getElem?_cons_zero, Option.some.injEq] at ho2; subst ho2
        refine rg_call 8 (by kernel_rfl) hoi (by rfl) (fun K hK => ?_)
        clear hoi
        skip
        go_simp
        refine hK.out _ _ ((hD.alloc _)) (fun hS => ?_)
        clear hK K
        try simp only [Act.put, List.setIfInBounds_toArray, List.set_cons_zero, List.set_cons_succ]
        refine rg_world fun W8 hW8 => ?_
        first | have hR := boxed hW8 | have hR := boxed_drew hW8
        replace hD : Blk W8 w.heap.size 22 #[.int .u64 c] := by rw [hW8]; exact hD.alloc _
        replace hB : Blk W8 p 41 #[.map (some b), .slice Av (ks x).length cv] := by rw [hW8]; exact hB.alloc _
        replace hU : Upd (fun k => (Value.slice Av (ks x).length cv).ownBlock = some k) w7 W8 := by rw [hW8]; exact hU.alloc _
        try (replace hN : Upd No w7 W8 := by rw [hW8]; exact hN.alloc _)
        try (replace hO8 : Sl W8 0 22 1 (.slice Av fl.length cv) fl.length (nums .u64 fl) := by rw [hW8]; exact Sl.alloc hO8 _)
        replace hS := hD
        clear hW8
        refine rg_at 9 (by decide) (fun oi hoi => ?_)
        have ho2 := hoi; simp only [List.getElem?_toArray, List.getElem?_cons_succ, List.getElem?_cons_zero, Option.some.injEq] at ho2; subst ho2
        refine rg_call 9 (by kernel_rfl) hoi (by rfl) (fun K hK => ?_)
        clear hoi
        refine wp_ap_sl 0 (.tmp 48) (.tmp 50) 27 22 (.int .u64 0) 1 8 (by rfl) Try.underlying27 u64_info rfl (by omega) (.slice Av fl.length cv) fl.length (nums .u64 fl) (some ⟨_, 0, none⟩) 1 1 [.int .u64 c] (by rfl) (by rfl) hO8 hR (by intro u hu; obtain rfl := List.mem_singleton.1 hu; rfl) (by omega) (by omega) (Nat.zero_le _) ?_
        intro A9 c9 w9 hO9 hu9 hat9
        have hzz := hU.size
        simp only [ownb Av fl.length cv (ks x).length cv] at hu9 hat9
        replace hU := hU.next (hu9.mono fun k _ h => h)
        replace hD := hD.upd hu9 (fun e => (hb0F _ e).1 rfl)
        replace hB := hB.upd hu9 (fun e => (hb0F _ e).2 rfl)
        have hat : ∀ k, (Value.slice A9 (fl.length + 1) c9).ownBlock = some k → (Value.slice Av (ks x).length cv).ownBlock = some k ∨ w7.heap.size ≤ k := fun k hk => (hat9 k hk).imp id fun h => Nat.le_trans hzz h
        have k9 := (box2 hB).2
        have g9 := hB.free 1
        refine hK.out _ _ ((by exact hD)) (fun hS => ?_)
        clear hK K
        try simp only [Act.put, List.setIfInBounds_toArray, List.set_cons_zero, List.set_cons_succ]
        refine rg_at 10 (by decide) (fun oi hoi => ?_)
        have ho2 := hoi; simp only [List.getElem?_toArray, List.getElem?_cons_succ, List.getElem?_cons_zero, Option.some.injEq] at ho2; subst ho2
        refine rg_take (v := ?_) 10 hoi (by kernel_rfl) (by kernel_rfl) (by kernel_rfl) (fun _ _ _ h => h) (by rfl) ?_ hS ?_
        rotate_left
        · intro w _; go_simp; try with_reducible rfl
        clear hoi; try simp only [Act.put, List.setIfInBounds_toArray, List.set_cons_zero, List.set_cons_succ]
        refine rg_at 11 (by decide) (fun oi hoi => ?_)
        have ho2 := hoi; simp only [List.getElem?_toArray, List.getElem?_cons_succ, List.getElem?_cons_zero, Option.some.injEq] at ho2; subst ho2
        refine rg_take (v := ?_) 11 hoi (by kernel_rfl) (by kernel_rfl) (by kernel_rfl) (fun _ _ _ h => h) (by rfl) ?_ hS ?_
        rotate_left
        · intro w _; go_simp; try with_reducible rfl
        clear hoi; try simp only [Act.put, List.setIfInBounds_toArray, List.set_cons_zero, List.set_cons_succ]
        refine rg_at 12 (by decide) (fun oi hoi => ?_)
        have ho2 := hoi; simp only [List.getElem?_toArray, List.getElem?_cons_succ, List.getElem?_cons_zero, Option.some.injEq] at ho2; subst ho2
        refine rg_call 12 (by kernel_rfl) hoi (by rfl) (fun K hK => ?_)
        clear hoi
        skip
        go_simp
        refine hK.out _ _ ((by exact hD.far (by simp; omega) _)) (fun hS => ?_)
        clear hK K
        try simp only [Act.put, List.setIfInBounds_toArray, List.set_cons_zero, List.set_cons_succ]
        refine rg_world fun w10 hw10 => ?_
        have hne : ∀ k, (Value.slice A9 (fl.length + 1) c9).ownBlock = some k → k ≠ p := fun k hk => (hat k hk).elim (fun h => (hb0F k h).2) fun h => by have h1 := hu7.size; have h2 := hM4.upd.size; have h3 := hu46.size; omega
        have hB10 : Blk w10 p 41 #[.map (some b), .slice A9 (fl.length + 1) c9] := by rw [hw10]; simpa using hB.put 1 (.slice A9 (fl.length + 1) c9)
        have hO10 : Sl w10 0 22 1 (.slice A9 (fl.length + 1) c9) (fl.length + 1) (nums .u64 fl ++ [.int .u64 c]) := by rw [hw10]; exact hO9.upd ((Upd.refl _ _).set1 1 _) fun g hg e => hne g hg e
        have hu10 : Upd (fun k => k = p ∨ (Value.slice Av (ks x).length cv).ownBlock = some k) w7 w10 := by rw [hw10]; exact (hU.mono fun _ _ h => .inr h).set (p := ⟨p, 1, none⟩) (.inl (.inl rfl)) _
        replace hS : Blk w10 w.heap.size 22 #[.int .u64 c] := by rw [hw10]; exact hD.far (by simp; omega) _
        clear hw10 hB hD hU hO9 hu9 hat9 k9 g9
        refine wpAnyH_done (by kernel_rfl) ?_ _
      rotate_left 1
      focus
        refine rg_op_at 8 (by decide) (fun oi hoi => ?_)
        have ho2 := hoi; simp only [List.getElem?_toArray, List.getElem?_cons_succ, List.getElem?_cons_zero, Option.some.injEq] at ho2; subst ho2
        refine rg_step 8 hoi (by rfl) (fun K hK => ?_)
        clear hoi
        skip
        go_simp
        refine hK.out _ _ ((hD.alloc _)) (fun hS => ?_)
        clear hK K
        try simp only [Act.put, List.setIfInBounds_toArray, List.set_cons_zero, List.set_cons_succ]
        refine rg_world fun W8 hW8 => ?_
        first | have hR := boxed hW8 | have hR := boxed_drew hW8
        replace hD : Blk W8 w.heap.size 22 #[.int .u64 c] := by rw [hW8]; exact hD.alloc _
        replace hB : Blk W8 p 41 #[.map (some b), .slice Av (ks x).length cv] := by rw [hW8]; exact hB.alloc _
        replace hU : Upd (fun k => (Value.slice Av (ks x).length cv).ownBlock = some k) w7 W8 := by rw [hW8]; exact hU.alloc _
        try (replace hN : Upd No w7 W8 := by rw [hW8]; exact hN.alloc _)
        try (replace hO8 : Sl W8 0 22 1 (.slice Av fl.length cv) fl.length (nums .u64 fl) := by rw [hW8]; exact Sl.alloc hO8 _)
        replace hS := hD
        clear hW8
        refine rg_at 6 (by decide) (fun oi hoi => ?_)
        have ho2 := hoi; simp only [List.getElem?_toArray, List.getElem?_cons_succ, List.getElem?_cons_zero, Option.some.injEq] at ho2; subst ho2
        refine rg_call 6 (by kernel_rfl) hoi (by rfl) (fun K hK => ?_)
        clear hoi
        go_simp
        with_reducible refine Calls.mono (HC7.out _ hN) ?_
        rintro e w8 ⟨rfl, hO8, hu8⟩
        replace hD := hD.upd hu8 (fun e => (hb0F _ e).1 rfl)
        replace hB := hB.upd hu8 (fun e => (hb0F _ e).2 rfl)
        replace hU := hU.next hu8
        try (replace hR := Rd.upd hR (by omega) hu8 (fun ad had h => by cases had; exact absurd (hob _ h) (Nat.lt_irrefl _)))
        go_wp2_with (fail)
        refine hK.out _ _ (hD) (fun hS => ?_)
        clear hK K
        try simp only [Act.put, List.setIfInBounds_toArray, List.set_cons_zero, List.set_cons_succ]
        refine rg_at 9 (by decide) (fun oi hoi => ?_)
        have ho2 := hoi; simp only [List.getElem?_toArray, List.getElem?_cons_succ, List.getElem?_cons_zero, Option.some.injEq] at ho2; subst ho2
        refine rg_call 9 (by kernel_rfl) hoi (by rfl) (fun K hK => ?_)
        clear hoi
        refine wp_ap_sl 0 (.tmp 48) (.tmp 50) 27 22 (.int .u64 0) 1 8 (by rfl) Try.underlying27 u64_info rfl (by omega) (.slice Av fl.length cv) fl.length (nums .u64 fl) (some ⟨_, 0, none⟩) 1 1 [.int .u64 c] (by rfl) (by rfl) hO8 hR (by intro u hu; obtain rfl := List.mem_singleton.1 hu; rfl) (by omega) (by omega) (Nat.zero_le _) ?_
        intro A9 c9 w9 hO9 hu9 hat9
        have hzz := hU.size
        simp only [ownb Av fl.length cv (ks x).length cv] at hu9 hat9
        replace hU := hU.next (hu9.mono fun k _ h => h)
        replace hD := hD.upd hu9 (fun e => (hb0F _ e).1 rfl)
        replace hB := hB.upd hu9 (fun e => (hb0F _ e).2 rfl)
        have hat : ∀ k, (Value.slice A9 (fl.length + 1) c9).ownBlock = some k → (Value.slice Av (ks x).length cv).ownBlock = some k ∨ w7.heap.size ≤ k := fun k hk => (hat9 k hk).imp id fun h => Nat.le_trans hzz h
        have k9 := (box2 hB).2
        have g9 := hB.free 1
        refine hK.out _ _ ((by exact hD)) (fun hS => ?_)
        clear hK K
        try simp only [Act.put, List.setIfInBounds_toArray, List.set_cons_zero, List.set_cons_succ]
        refine rg_at 10 (by decide) (fun oi hoi => ?_)
        have ho2 := hoi; simp only [List.getElem?_toArray, List.getElem?_cons_succ, List.getElem?_cons_zero, Option.some.injEq] at ho2; subst ho2
        refine rg_take (v := ?_) 10 hoi (by kernel_rfl) (by kernel_rfl) (by kernel_rfl) (fun _ _ _ h => h) (by rfl) ?_ hS ?_
        rotate_left
        · intro w _; go_simp; try with_reducible rfl
        clear hoi; try simp only [Act.put, List.setIfInBounds_toArray, List.set_cons_zero, List.set_cons_succ]
        refine rg_at 11 (by decide) (fun oi hoi => ?_)
        have ho2 := hoi; simp only [List.getElem?_toArray, List.getElem?_cons_succ, List.getElem?_cons_zero, Option.some.injEq] at ho2; subst ho2
        refine rg_take (v := ?_) 11 hoi (by kernel_rfl) (by kernel_rfl) (by kernel_rfl) (fun _ _ _ h => h) (by rfl) ?_ hS ?_
        rotate_left
        · intro w _; go_simp; try with_reducible rfl
        clear hoi; try simp only [Act.put, List.setIfInBounds_toArray, List.set_cons_zero, List.set_cons_succ]
        refine rg_at 12 (by decide) (fun oi hoi => ?_)
        have ho2 := hoi; simp only [List.getElem?_toArray, List.getElem?_cons_succ, List.getElem?_cons_zero, Option.some.injEq] at ho2; subst ho2
        refine rg_call 12 (by kernel_rfl) hoi (by rfl) (fun K hK => ?_)
        clear hoi
        skip
        go_simp
        refine hK.out _ _ ((by exact hD.far (by simp; omega) _)) (fun hS => ?_)
        clear hK K
        try simp only [Act.put, List.setIfInBounds_toArray, List.set_cons_zero, List.set_cons_succ]
        refine rg_world fun w10 hw10 => ?_
        have hne : ∀ k, (Value.slice A9 (fl.length + 1) c9).ownBlock = some k → k ≠ p := fun k hk => (hat k hk).elim (fun h => (hb0F k h).2) fun h => by have h1 := hu7.size; have h2 := hM4.upd.size; have h3 := hu46.size; omega
        have hB10 : Blk w10 p 41 #[.map (some b), .slice A9 (fl.length + 1) c9] := by rw [hw10]; simpa using hB.put 1 (.slice A9 (fl.length + 1) c9)
        have hO10 : Sl w10 0 22 1 (.slice A9 (fl.length + 1) c9) (fl.length + 1) (nums .u64 fl ++ [.int .u64 c]) := by rw [hw10]; exact hO9.upd ((Upd.refl _ _).set1 1 _) fun g hg e => hne g hg e
        have hu10 : Upd (fun k => k = p ∨ (Value.slice Av (ks x).length cv).ownBlock = some k) w7 w10 := by rw [hw10]; exact (hU.mono fun _ _ h => .inr h).set (p := ⟨p, 1, none⟩) (.inl (.inl rfl)) _
        replace hS : Blk w10 w.heap.size 22 #[.int .u64 c] := by rw [hw10]; exact hD.far (by simp; omega) _
        clear hw10 hB hD hU hO9 hu9 hat9 k9 g9
        refine wpAnyH_done (by kernel_rfl) ?_ _
    rotate_left 2
    focus
      refine rg_op_at 8 (by decide) (fun oi hoi => ?_)
      have ho2 := hoi; simp only [List.getElem?_toArray, List.getElem?_cons_succ, List.getElem?_cons_zero, Option.some.injEq] at ho2; subst ho2
      refine rg_step 8 hoi (by rfl) (fun K hK => ?_)
      clear hoi
      skip
      go_simp
      refine hK.out _ _ ((hD.alloc _)) (fun hS => ?_)
      clear hK K
      try simp only [Act.put, List.setIfInBounds_toArray, List.set_cons_zero, List.set_cons_succ]
      refine rg_world fun W8 hW8 => ?_
      first | have hR := boxed hW8 | have hR := boxed_drew hW8
      replace hD : Blk W8 w.heap.size 22 #[.int .u64 c] := by rw [hW8]; exact hD.alloc _
      replace hB : Blk W8 p 41 #[.map (some b), .slice Av (ks x).length cv] := by rw [hW8]; exact hB.alloc _
      replace hU : Upd (fun k => (Value.slice Av (ks x).length cv).ownBlock = some k) w7 W8 := by rw [hW8]; exact hU.alloc _
      try (replace hN : Upd No w7 W8 := by rw [hW8]; exact hN.alloc _)
      try (replace hO8 : Sl W8 0 22 1 (.slice Av fl.length cv) fl.length (nums .u64 fl) := by rw [hW8]; exact Sl.alloc hO8 _)
      replace hS := hD
      clear hW8
      refine rg_at 4 (by decide) (fun oi hoi => ?_)
      have ho2 := hoi; simp only [List.getElem?_toArray, List.getElem?_cons_succ, List.getElem?_cons_zero, Option.some.injEq] at ho2; subst ho2
      refine rg_call 4 (by kernel_rfl) hoi (by rfl) (fun K hK => ?_)
      clear hoi
      have k4 := (box2 hB).2
      go_simp
      refine hK.out _ _ (hD) (fun hS => ?_)
      clear hK K
      try simp only [Act.put, List.setIfInBounds_toArray, List.set_cons_zero, List.set_cons_succ]
      refine rg_at 6 (by decide) (fun oi hoi => ?_)
      have ho2 := hoi; simp only [List.getElem?_toArray, List.getElem?_cons_succ, List.getElem?_cons_zero, Option.some.injEq] at ho2; subst ho2
      refine rg_call 6 (by kernel_rfl) hoi (by rfl) (fun K hK => ?_)
      clear hoi
      go_simp
      with_reducible refine Calls.mono (HC7.out _ hN) ?_
      rintro e w8 ⟨rfl, hO8, hu8⟩
      replace hD := hD.upd hu8 (fun e => (hb0F _ e).1 rfl)
      replace hB := hB.upd hu8 (fun e => (hb0F _ e).2 rfl)
      replace hU := hU.next hu8
      try (replace hR := Rd.upd hR (by omega) hu8 (fun ad had h => by cases had; exact absurd (hob _ h) (Nat.lt_irrefl _)))
      go_wp2_with (fail)
      refine hK.out _ _ (hD) (fun hS => ?_)
      clear hK K
      try simp only [Act.put, List.setIfInBounds_toArray, List.set_cons_zero, List.set_cons_succ]
      refine rg_at 9 (by decide) (fun oi hoi => ?_)
      have ho2 := hoi; simp only [List.getElem?_toArray, List.getElem?_cons_succ, List.getElem?_cons_zero, Option.some.injEq] at ho2; subst ho2
      refine rg_call 9 (by kernel_rfl) hoi (by rfl) (fun K hK => ?_)
      clear hoi
      refine wp_ap_sl 0 (.tmp 48) (.tmp 50) 27 22 (.int .u64 0) 1 8 (by rfl) Try.underlying27 u64_info rfl (by omega) (.slice Av fl.length cv) fl.length (nums .u64 fl) (some ⟨_, 0, none⟩) 1 1 [.int .u64 c] (by rfl) (by rfl) hO8 hR (by intro u hu; obtain rfl := List.mem_singleton.1 hu; rfl) (by omega) (by omega) (Nat.zero_le _) ?_
      intro A9 c9 w9 hO9 hu9 hat9
      have hzz := hU.size
      simp only [ownb Av fl.length cv (ks x).length cv] at hu9 hat9
      replace hU := hU.next (hu9.mono fun k _ h => h)
      replace hD := hD.upd hu9 (fun e => (hb0F _ e).1 rfl)
      replace hB := hB.upd hu9 (fun e => (hb0F _ e).2 rfl)
      have hat : ∀ k, (Value.slice A9 (fl.length + 1) c9).ownBlock = some k → (Value.slice Av (ks x).length cv).ownBlock = some k ∨ w7.heap.size ≤ k := fun k hk => (hat9 k hk).imp id fun h => Nat.le_trans hzz h
      have k9 := (box2 hB).2
      have g9 := hB.free 1
      refine hK.out _ _ ((by exact hD)) (fun hS => ?_)
      clear hK K
      try simp only [Act.put, List.setIfInBounds_toArray, List.set_cons_zero, List.set_cons_succ]
      refine rg_at 10 (by decide) (fun oi hoi => ?_)
      have ho2 := hoi; simp only [List.getElem?_toArray, List.getElem?_cons_succ, List.getElem?_cons_zero, Option.some.injEq] at ho2; subst ho2
      refine rg_take (v := ?_) 10 hoi (by kernel_rfl) (by kernel_rfl) (by kernel_rfl) (fun _ _ _ h => h) (by rfl) ?_ hS ?_
      rotate_left
      · intro w _; go_simp; try with_reducible rfl
      clear hoi; try simp only [Act.put, List.setIfInBounds_toArray, List.set_cons_zero, List.set_cons_succ]
      refine rg_at 11 (by decide) (fun oi hoi => ?_)
      have ho2 := hoi; simp only [List.getElem?_toArray, List.getElem?_cons_succ, List.getElem?_cons_zero, Option.some.injEq] at ho2; subst ho2
      refine rg_take (v := ?_) 11 hoi (by kernel_rfl) (by kernel_rfl) (by kernel_rfl) (fun _ _ _ h => h) (by rfl) ?_ hS ?_
      rotate_left
      · intro w _; go_simp; try with_reducible rfl
      clear hoi; try simp only [Act.put, List.setIfInBounds_toArray, List.set_cons_zero, List.set_cons_succ]
      refine rg_at 12 (by decide) (fun oi hoi => ?_)
      have ho2 := hoi; simp only [List.getElem?_toArray, List.getElem?_cons_succ, List.getElem?_cons_zero, Option.some.injEq] at ho2; subst ho2
      refine rg_call 12 (by kernel_rfl) hoi (by rfl) (fun K hK => ?_)
      clear hoi
      skip
      go_simp
      refine hK.out _ _ ((by exact hD.far (by simp; omega) _)) (fun hS => ?_)
      clear hK K
      try simp only [Act.put, List.setIfInBounds_toArray, List.set_cons_zero, List.set_cons_succ]
      refine rg_world fun w10 hw10 => ?_
      have hne : ∀ k, (Value.slice A9 (fl.length + 1) c9).ownBlock = some k → k ≠ p := fun k hk => (hat k hk).elim (fun h => (hb0F k h).2) fun h => by have h1 := hu7.size; have h2 := hM4.upd.size; have h3 := hu46.size; omega
      have hB10 : Blk w10 p 41 #[.map (some b), .slice A9 (fl.length + 1) c9] := by rw [hw10]; simpa using hB.put 1 (.slice A9 (fl.length + 1) c9)
      have hO10 : Sl w10 0 22 1 (.slice A9 (fl.length + 1) c9) (fl.length + 1) (nums .u64 fl ++ [.int .u64 c]) := by rw [hw10]; exact hO9.upd ((Upd.refl _ _).set1 1 _) fun g hg e => hne g hg e
      have hu10 : Upd (fun k => k = p ∨ (Value.slice Av (ks x).length cv).ownBlock = some k) w7 w10 := by rw [hw10]; exact (hU.mono fun _ _ h => .inr h).set (p := ⟨p, 1, none⟩) (.inl (.inl rfl)) _
      replace hS : Blk w10 w.heap.size 22 #[.int .u64 c] := by rw [hw10]; exact hD.far (by simp; omega) _
      clear hw10 hB hD hU hO9 hu9 hat9 k9 g9
      refine wpAnyH_done (by kernel_rfl) ?_ _
    all_goals
      have hL : Hid (ks (laid x c s) = fl ++ [c]) := hid (by rw [HFL.out]; exact laid_keys x c s)
      have hVal := val_of ho6 HN.out HD.out HA7.out
      rw [HL5.out] at hVal
      obtain ⟨hX4, hX6, hM7⟩ := HB.out
      have hgF : ∀ k, k = g6 → ¬ (k = p ∨ k = b ∨ v.ownBlock = some k) := by
        rintro k rfl (h | h | h)
        · have := hFl p hX4.fp; omega
        · omega
        · have := hFl k (hX4.fv k h).1; omega
      have hu710 : Upd (fun k => k = p ∨ k = b ∨ v.ownBlock = some k) w7 w10 := hu10.mono fun k _ h => h.imp id fun h => .inr (by rw [HV.out]; exact h)
      have hu6 : Upd (fun k => k = p ∨ k = b ∨ v.ownBlock = some k) w6 w10 := (hu7.mono fun k _ h => .inr (.inl h)).next hu710
      have hu4 : Upd (fun k => k = p ∨ k = b ∨ v.ownBlock = some k) w4 w10 := (hu46.mono fun k _ h => h.elim).next hu6
      have hVal10 := hVal.upd hu6 hgF
      have hM10 := hM7.upd hu10 (by
        rintro (h | h)
        · exact (hX4.fb b rfl).2 h
        · exact hX4.fvb b (by rw [HV.out]; exact h) rfl)
      have hM74 : w4.heap.size ≤ w7.heap.size := Nat.le_trans hu46.size hu7.size
      have hat4 : ∀ k, (Value.slice A9 (fl.length + 1) c9).ownBlock = some k → (v.ownBlock = some k ∨ w4.heap.size ≤ k) ∧ k ≠ g6 := fun k hk => by
        have h1 := hu7.size
        rcases hat k hk with h | h
        · rw [← HV.out] at h
          refine ⟨.inl h, ?_⟩
          have := hFl k (hX4.fv k h).1
          omega
        · exact ⟨.inr (by omega), by omega⟩
      have hw10s := hu4.size
      have hg610 : w4.heap.size ≤ g6 ∧ g6 < w10.heap.size := ⟨hg6l.1, Nat.lt_of_lt_of_le hg6l.2 hu6.size⟩
      have k10 := box2 hB10
      have e10 := hB10.free 1
      have hv1 : ∀ c', Wp.Key c' → (put m' c (.slice A7 (N - D) (c6 - D)) c' = m' c' ∧ sr (laid x c s) c' = sr x c') ∨ Vl w10 (fun k => k = g6) (put m' c (.slice A7 (N - D) (c6 - D)) c') (sr (laid x c s) c') := fun c' hc' => by
        rw [sr_laid]
        unfold put
        by_cases he : c' = c
        · rw [if_pos he, if_pos he]
          exact .inr hVal10
        · rw [if_neg he, if_neg he]
          exact .inl ⟨rfl, rfl⟩
      by_cases h64 : 64 < (laid x c s).length
      · obtain ⟨e0, r0, hz⟩ : ∃ e r, laid x c s = e :: r := by
          rcases hl : laid x c s with _ | ⟨e, r⟩
          · rw [hl] at h64; simp at h64
          · exact ⟨e, r, rfl⟩
        obtain ⟨hlk, hlnd, _⟩ := hok.laid hc hsk
        have hk0 := hlk e0 (by rw [hz]; simp)
        rw [hz] at hlnd
        have hfc : fl ++ [c] = e0.1 :: ks r0 := by rw [← hL.out, hz]; rfl
        have hrl : (ks r0).length = fl.length := by
          have := congrArg List.length hfc
          simpa using this.symm
        have h64' : decide ((64 : Int) < (fl.length : Int) + 1) = true := by
          have : (laid x c s).length = fl.length + 1 := by rw [← ks_length, hL.out]; simp
          exact decide_eq_true (by omega)
        have hcc : fl.length + 1 ≤ c9 ∧ c9 ≤ maxLen := by
          obtain ⟨_, _, e, h1, h2⟩ := hO10.shape
          simp only [Value.slice.injEq, true_and] at e
          obtain ⟨_, rfl⟩ := e
          exact ⟨h1, h2⟩
        rw [show nums .u64 fl ++ [Value.int .u64 c] = .int .u64 e0.1 :: nums .u64 (ks r0) from by rw [show nums .u64 fl ++ [Value.int .u64 c] = nums .u64 (fl ++ [c]) from by simp [nums], hfc]; rfl] at hO10
        obtain ⟨g9, o9, rfl, q9, hg9l⟩ := first_cell hO10
        have hg9b : g9 ≠ b := by
          rcases (hat4 g9 rfl).1 with h | h
          · exact hX4.fvb g9 h
          · omega
        have hpb := (hX4.fb b rfl).2
        obtain ⟨A11, hA11, hcut1⟩ := cut_from (P := Try.prog) 27 22 .i64 Try.underlying27 (by kernel_rfl) (some ⟨g9, o9, none⟩) (fl.length + 1) c9 1 1 rfl (by omega)
        have hr11 : Rd w10 1 A11 fl.length (nums .u64 (ks r0)) := by
          rw [hA11]
          exact Rd.drop (k := 1) (Sl.rd hO10) (by omega) hcc.1
        have HA11 := hid (And.intro hA11 (And.intro hrl (And.intro hz hfc)))
        have hg9x := hat g9 rfl
        have HZ := hid (And.intro hv1 (And.intro hlnd (And.intro hgF (And.intro hX4 (And.intro hat4 hu4)))))
        clear hA11 hrl hz hfc hv1 hlnd hgF hX4 hat4 hu4 HB hVal hX6 hM7 hu710 hu6 hVal10 hM74 hat hne hb0F hob hlk h64
        go_wp2_with (fail)
        refine wp_region_held_drew (S := fun W => Upd (fun k => k = b) w10 W) (by kernel_rfl) (Upd.refl _ _).drew (fun hS => ?_)
        refine rg_at 0 (by decide) (fun oi hoi => ?_)
        have ho2 := hoi; simp only [List.getElem?_toArray, List.getElem?_cons_succ, List.getElem?_cons_zero, Option.some.injEq] at ho2; subst ho2
        refine rg_take (v := ?_) 0 hoi (by kernel_rfl) (by kernel_rfl) (by kernel_rfl) (fun _ _ _ h => h) (by rfl) ?_ hS ?_
        rotate_left
        · intro w _; go_simp; try with_reducible rfl
        clear hoi; try simp only [Act.put, List.setIfInBounds_toArray, List.set_cons_zero, List.set_cons_succ]
        refine rg_at 1 (by decide) (fun oi hoi => ?_)
        have ho2 := hoi; simp only [List.getElem?_toArray, List.getElem?_cons_succ, List.getElem?_cons_zero, Option.some.injEq] at ho2; subst ho2
        refine rg_take (v := ?_) 1 hoi (by kernel_rfl) (by kernel_rfl) (by kernel_rfl) (fun _ _ _ h => h) (by rfl) ?_ hS ?_
        rotate_left
        · intro w _; go_simp; try with_reducible rfl
        clear hoi; try simp only [Act.put, List.setIfInBounds_toArray, List.set_cons_zero, List.set_cons_succ]
        refine rg_at 2 (by decide) (fun oi hoi => ?_)
        have ho2 := hoi; simp only [List.getElem?_toArray, List.getElem?_cons_succ, List.getElem?_cons_zero, Option.some.injEq] at ho2; subst ho2
        refine rg_take (v := ?_) 2 hoi (by kernel_rfl) (by kernel_rfl) (by kernel_rfl) (fun _ _ _ h => h) (by rfl) ?_ hS ?_
        rotate_left
        · intro w _; go_simp; try with_reducible rfl
        clear hoi; try simp only [Act.put, List.setIfInBounds_toArray, List.set_cons_zero, List.set_cons_succ]
        refine rg_at 3 (by decide) (fun oi hoi => ?_)
        have ho2 := hoi; simp only [List.getElem?_toArray, List.getElem?_cons_succ, List.getElem?_cons_zero, Option.some.injEq] at ho2; subst ho2
        refine rg_take (v := ?_) 3 hoi (by kernel_rfl) (by kernel_rfl) (by kernel_rfl) (fun _ _ _ h => h) (by rfl) ?_ hS ?_
        rotate_left
        · intro w hw; have hf := (box2 (hB10.upd hw (Ne.symm hpb))).1; clear hw; go_simp; try with_reducible rfl
        clear hoi; try simp only [Act.put, List.setIfInBounds_toArray, List.set_cons_zero, List.set_cons_succ]
        refine rg_at 4 (by decide) (fun oi hoi => ?_)
        have ho2 := hoi; simp only [List.getElem?_toArray, List.getElem?_cons_succ, List.getElem?_cons_zero, Option.some.injEq] at ho2; subst ho2
        refine rg_take (v := ?_) 4 hoi (by kernel_rfl) (by kernel_rfl) (by kernel_rfl) (fun _ _ _ h => h) (by rfl) ?_ hS ?_
        rotate_left
        · intro w _; go_simp; try with_reducible rfl
        clear hoi; try simp only [Act.put, List.setIfInBounds_toArray, List.set_cons_zero, List.set_cons_succ]
        refine rg_at 5 (by decide) (fun oi hoi => ?_)
        have ho2 := hoi; simp only [List.getElem?_toArray, List.getElem?_cons_succ, List.getElem?_cons_zero, Option.some.injEq] at ho2; subst ho2
        refine rg_take (v := ?_) 5 hoi (by kernel_rfl) (by kernel_rfl) (by kernel_rfl) (fun _ _ _ h => h) (by rfl) ?_ hS ?_
        rotate_left
        · intro w _; go_simp; try with_reducible rfl
        clear hoi; try simp only [Act.put, List.setIfInBounds_toArray, List.set_cons_zero, List.set_cons_succ]
        refine rg_at 6 (by decide) (fun oi hoi => ?_)
        have ho2 := hoi; simp only [List.getElem?_toArray, List.getElem?_cons_succ, List.getElem?_cons_zero, Option.some.injEq] at ho2; subst ho2
        refine rg_take (v := ?_) 6 hoi (by kernel_rfl) (by kernel_rfl) (by kernel_rfl) (fun _ _ _ h => h) (by rfl) ?_ hS ?_
        rotate_left
        · intro w _; go_simp; try with_reducible rfl
        clear hoi; try simp only [Act.put, List.setIfInBounds_toArray, List.set_cons_zero, List.set_cons_succ]
        refine rg_at 7 (by decide) (fun oi hoi => ?_)
        have ho2 := hoi; simp only [List.getElem?_toArray, List.getElem?_cons_succ, List.getElem?_cons_zero, Option.some.injEq] at ho2; subst ho2
        refine rg_take (v := ?_) 7 hoi (by kernel_rfl) (by kernel_rfl) (by kernel_rfl) (fun _ _ _ h => h) (by rfl) ?_ hS ?_
        rotate_left
        · intro w hw; have hf := (box2 (hB10.upd hw (Ne.symm hpb))).2; clear hw; go_simp; try with_reducible rfl
        clear hoi; try simp only [Act.put, List.setIfInBounds_toArray, List.set_cons_zero, List.set_cons_succ]
        refine rg_at 8 (by decide) (fun oi hoi => ?_)
        have ho2 := hoi; simp only [List.getElem?_toArray, List.getElem?_cons_succ, List.getElem?_cons_zero, Option.some.injEq] at ho2; subst ho2
        refine rg_take (v := ?_) 8 hoi (by kernel_rfl) (by kernel_rfl) (by kernel_rfl) (fun _ _ _ h => h) (by rfl) ?_ hS ?_
        rotate_left
        · intro w _; go_simp; try with_reducible rfl
        clear hoi; try simp only [Act.put, List.setIfInBounds_toArray, List.set_cons_zero, List.set_cons_succ]
        refine rg_at 9 (by decide) (fun oi hoi => ?_)
        have ho2 := hoi; simp only [List.getElem?_toArray, List.getElem?_cons_succ, List.getElem?_cons_zero, Option.some.injEq] at ho2; subst ho2
        refine rg_take (v := ?_) 9 hoi (by kernel_rfl) (by kernel_rfl) (by kernel_rfl) (fun _ _ _ h => h) (by rfl) ?_ hS ?_
        rotate_left
        · intro w hw; have hf := (hw.cell (p := ⟨g9, o9, none⟩) hg9l hg9b).trans q9; clear hw; go_simp; try with_reducible rfl
        clear hoi; try simp only [Act.put, List.setIfInBounds_toArray, List.set_cons_zero, List.set_cons_succ]
        refine rg_at 10 (by decide) (fun oi hoi => ?_)
        have ho2 := hoi; simp only [List.getElem?_toArray, List.getElem?_cons_succ, List.getElem?_cons_zero, Option.some.injEq] at ho2; subst ho2
        refine rg_call 10 (by kernel_rfl) hoi (by rfl) (fun K hK => ?_)
        clear hoi
        refine Mp.wp_drop (.tmp 63) (.tmp 69) 39 22 27 (by rfl) Try.underlying22 Try.underlying39 b (n' + 1) (put m' c (.slice A7 (N - D) (c6 - D))) e0.1 (by rfl) (by rfl) hM10.drew hk0 ?_
        intro w11 hM11 hu11
        replace hu11 := Upd.of_drew hu11
        refine hK.out _ _ ((by exact hu11)) (fun hS => ?_)
        clear hK K
        try simp only [Act.put, List.setIfInBounds_toArray, List.set_cons_zero, List.set_cons_succ]
        refine wpAnyH_done (by kernel_rfl) ?_ _
        have hB11 := hB10.upd hu11 (Ne.symm hpb)
        have k11 := (box2 hB11).2
        have hC11 := clone A11 fl.length (c9 - 1) (nums .u64 (ks r0)) w11 (hr11.upd (by omega) hu11 (fun ad had h => by
          rw [HA11.out.1] at had
          obtain ⟨ad', e1, e2⟩ := cut_block had
          injection e1 with e1
          rw [e2, ← e1] at h
          exact hg9b h)) (nums_one _ _) (by omega)
        have HC11 := hid hC11
        clear hC11 hcc k10 e10
        go_wp2_with (fail)
        refine Calls.mono HC11.out ?_
        rintro e w12 ⟨A12, c12, rfl, ho12, hu12, _⟩
        have hB12 := hB11.upd hu12 (no_ _)
        have k12 := (box2 hB12).2
        have e12 := hB12.free 1
        have HE : Hid (∃ F', Wd (w12.setCell ⟨p, 1, none⟩ (.slice A12 fl.length c12)) F' p (cut64 (laid x c s)) (n + 1) ∧ Mv F F' w (w12.setCell ⟨p, 1, none⟩ (.slice A12 fl.length c12))) := hid (by
          obtain ⟨_, hrl, hz, hfc⟩ := HA11.out
          obtain ⟨hv1, hlnd, hgF, hX4, hat4, hu4⟩ := HZ.out
          have hcz : cut64 (laid x c s) = r0 := by
            unfold cut64
            rw [hz, if_pos (by
              have := ks_length r0
              have h64 := of_decide_eq_true h64'
              simp
              omega)]
            rfl
          have hu13 : Upd (fun k => k = p ∨ k = b ∨ v.ownBlock = some k) w10 (w12.setCell ⟨p, 1, none⟩ (.slice A12 fl.length c12)) :=
            ((hu11.mono fun k _ h => .inr (.inl h)).next (hu12.mono fun k _ h => h.elim)).set (p := ⟨p, 1, none⟩) (.inl (.inl rfl)) _
          have hB13 : Blk (w12.setCell ⟨p, 1, none⟩ (.slice A12 fl.length c12)) p 41 #[.map (some b), .slice A12 fl.length c12] := by simpa using hB12.put 1 (.slice A12 fl.length c12)
          have h11s := hu11.size
          have hown : ∀ k, (Value.slice A12 fl.length c12).ownBlock = some k → w11.heap.size ≤ k := fun k hk => (ho12.lt k hk).1
          rw [hcz]
          refine hX4.fin hM4 (mz := put (put m' c (.slice A7 (N - D) (c6 - D))) e0.1 nl) hB13 ?_ ((hM11.upd hu12 (no_ _)).upd ((Upd.refl _ _).set1 1 _) hpb) (by omega) (hu4.next hu13) ?_ ⟨hg610.1, Nat.lt_of_lt_of_le hg610.2 hu13.size⟩ ?_
          · rw [hrl]
            refine (Sl.of_own (own_base ho12 (Nat.zero_le _))).upd ((Upd.refl _ _).set1 1 _) fun k hk e => ?_
            subst e
            have := hown _ hk
            have := hFl k hX4.fp
            omega
          · intro c' hc'
            have hst := sr_tail hlnd c'
            rw [hst]
            by_cases he : c' = e0.1
            · rw [if_pos he]
              refine .inr ?_
              rw [show put (put m' c (.slice A7 (N - D) (c6 - D))) e0.1 nl c' = nl from by simp [put, he]]
              exact Vl.nil _ _
            · rw [if_neg he, ← hz, show put (put m' c (.slice A7 (N - D) (c6 - D))) e0.1 nl c' = put m' c (.slice A7 (N - D) (c6 - D)) c' from by simp [put, he]]
              exact (hv1 c' hc').imp id fun h => h.upd hu13 hgF
          · intro k hk
            have := hown k hk
            exact ⟨.inr (by omega), by omega⟩)
        have HO := hid ho12
        clear ho12 hu12 hM11
        go_wp2
        go_ret
        exact .of ⟨rfl, HE.out⟩
      · have HE : Hid (∃ F', Wd w10 F' p (cut64 (laid x c s)) (n + 1) ∧ Mv F F' w w10) := hid (by
          rw [show cut64 (laid x c s) = laid x c s from if_neg h64]
          refine hX4.fin hM4 hB10 ?_ hM10 (by omega) hu4 hv1 hg610 hat4
          rw [hL.out, show nums .u64 (fl ++ [c]) = nums .u64 fl ++ [.int .u64 c] from by simp [nums], show (fl ++ [c]).length = fl.length + 1 from by simp]
          exact hO10)
        have h64' : decide ((64 : Int) < (fl.length : Int) + 1) = false := by
          have : (laid x c s).length = fl.length + 1 := by rw [← ks_length, hL.out]; simp
          exact decide_eq_false (by omega)
        clear HB hVal hX4 hX6 hM7 hgF hu710 hu6 hu4 hVal10 hM10 hM74 hat4 hv1 h64 hat hne hb0F hob
        go_wp2
        go_ret
        exact .of ⟨rfl, HE.out⟩
theorem add {w : World} {F : Nat → Prop} {p n : Nat} {x : St} (c s : Int) (h : Wd w F p x n) (hc : Wp.Key c) (hs : Wp.Key s) (hok : Ok x) (hn : n ≤ 1000000) :
    Calls Try.prog 11 #[.pointer (some ⟨p, 0, none⟩), .int .u64 c, .int .u64 s] w fun e w' => AddOut w F p n x (addX x c s) e w' := by
  by_cases h1 : s ∈ sr x c
  · exact add_seen c s h hc h1
  · exact add_new c s h hc hs h1 hok hn
end Go.Proofs.Ytogijfgfcdmbnaa.Ww
