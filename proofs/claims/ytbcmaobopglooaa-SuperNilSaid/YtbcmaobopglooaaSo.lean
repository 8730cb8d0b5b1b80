/-
  The walks of Open, of package sum and of its reference.
-/
import Derived.Test.YtbcmaobopglooaaSr
set_option linter.unusedVariables false
set_option linter.unusedSimpArgs false
namespace Go.Proofs.Ytbcmaobopglooaa.Sw
open Go.RowKit Go.Proofs.Ytbcmaobopglooaa.B Go.Proofs.Ytbcmaobopglooaa.Cm Go.Proofs.Ytbcmaobopglooaa.Sm
set_option maxHeartbeats 400000 in
theorem equal (A1 A2 : Option Addr) (c1 c2 : Nat) (l1 l2 : List Int) (w : World) (h1 : Rn w .u8 A1 l1) (h2 : Rn w .u8 A2 l2) (b1 : Byte l1) (b2 : Byte l2) (r : Bool) (hr : decide (l1 = l2) = r) :
    Calls Try.prog 31 #[.slice A1 l1.length c1, .slice A2 l2.length c2] w fun e w' => e = .returned (.bool r) ∧ w = w' := by
  have hc1 := conv_str (P := Try.prog) h1 22 9 5 c1 Try.underlying22 Try.underlying5 Try.underlying9
  have hc2 := conv_str (P := Try.prog) h2 22 9 5 c2 Try.underlying22 Try.underlying5 Try.underlying9
  have hE := str_eq l1 l2 b1 b2
  rw [hr] at hE
  clear hr
  go_enter Try.func31, Try.ntmps31
  go_wp2
  go_ret
  exact ⟨rfl, rfl⟩
set_option maxHeartbeats 400000 in
theorem clone_some (ad : Addr) (c : Nat) (l : List Int) (w : World) (hr : Rn w .u8 (some ad) l) (hl : l.length ≤ 140737488355328) :
    Calls Try.prog 30 #[.slice (some ad) l.length c] w fun e w' => ∃ A' c', e = .returned (.slice A' l.length c') ∧ w'.ownsRow w.heap.size 5 1 (.slice A' l.length c') l.length (nums .u8 l) ∧ Upd No w w' := by
  have hnn := fun W => Lib.run_eql_slice_nil (P := Try.prog) W 22 5 (some ad) l.length c 0 0 Try.underlying22
  go_enter Try.func30, Try.ntmps30
  go_wp2_with (at_builtin; go_must (refine ap_row w.heap.size rfl (.tmp 5) (.tmp 6) 22 5 (.int .u8 0) 1 1 rfl Try.underlying22 u8_info rfl (by omega) (.slice (some ⟨w.heap.size, 0, none⟩) 0 0) 0 [] (some ad) l.length c (nums .u8 l) rfl rfl (World.ownsRow_made w #[] 0 (Nat.le_refl _) (Nat.zero_le _) rfl) (Rd.alloc hr (by omega) _) (nums_one _ _) (by omega) (by omega) (by simp) ?_); intro A1 c1 w1 ho1 hg1 hat1)
  have hw1 : Below w.heap.size w w1 := ((Below.refl _ _).alloc (Nat.le_refl _) _).grown hg1 (by simp) fun k hk => by
    have : w.heap.size = k := by simpa [Value.ownBlock] using hk
    omega
  rw [Nat.zero_add] at ho1
  go_ret
  exact ⟨A1, c1, rfl, ho1, Upd.of_below No hw1⟩
set_option maxHeartbeats 400000 in
theorem clone_none (n c : Nat) (w : World) : Calls Try.prog 30 #[.slice none n c] w fun e w' => e = .returned (.slice none 0 0) ∧ w = w' := by
  have hnn := fun W => Lib.run_eql_slice_nil (P := Try.prog) W 22 5 none n c 0 0 Try.underlying22
  go_enter Try.func30, Try.ntmps30
  go_wp2
  go_ret
  exact ⟨rfl, rfl⟩
theorem clone (A : Option Addr) (c : Nat) (l : List Int) (w : World) (hr : Rn w .u8 A l) (hl : l.length ≤ 140737488355328) :
    Calls Try.prog 30 #[.slice A l.length c] w fun e w' => ∃ A' c', e = .returned (.slice A' l.length c') ∧ w'.ownsRow w.heap.size 5 1 (.slice A' l.length c') l.length (nums .u8 l) ∧ Upd No w w' := by
  rcases A with _ | ad
  · have h0 : l = [] := by
      rcases Nat.eq_zero_or_pos l.length with h0 | h0
      · exact List.eq_nil_of_length_eq_zero h0
      · obtain ⟨ad, h', _⟩ := hr.2 h0
        cases h'
    subst h0
    refine (clone_none _ c w).mono ?_
    rintro e w' ⟨rfl, rfl⟩
    exact ⟨none, 0, rfl, World.ownsRow_nil _ _ _ _, Upd.refl _ _⟩
  · exact clone_some ad c l w hr hl

/-- What a call of Open leaves: the payload and true, or nil and false. -/
def OpenPost (ok : Bool) (q : List Int) (w : World) (e : Ending) (w' : World) : Prop :=
  ∃ A c, e = .returned (.tuple #[.slice A q.length c, .bool ok]) ∧ w'.ownsRow w.heap.size 5 1 (.slice A q.length c) q.length (nums .u8 q) ∧ Upd No w w'
theorem OpenPost.no (w w' : World) (hu : Upd No w w') : OpenPost false [] w (.returned (.tuple #[.slice none 0 0, .bool false])) w' := ⟨none, 0, rfl, World.ownsRow_nil _ _ _ _, hu⟩
set_option maxHeartbeats 400000 in
theorem open_short (A : Option Addr) (c : Nat) (l : List Int) (kind place : Int) (w : World) (hl : l.length ≠ 256) (hm : l.length ≤ 9223372036854775807) :
    Calls Try.prog 20 #[.int .u8 kind, .int .u32 place, .slice A l.length c] w (OpenPost false [] w) := by
  have hne : ((l.length : Int) != 256) = true := by rw [bne_iff_ne]; omega
  go_enter Try.func20, Try.ntmps20
  go_wp2
  go_ret2
  exact OpenPost.no _ _ (Upd.refl _ _)
set_option maxHeartbeats 400000 in
theorem open_wide (A : Option Addr) (c : Nat) (l : List Int) (kind place : Int) (w : World) (hr : Rn w .u8 A l) (hl : l.length = 256) (hb : Byte l) (hg : 242 < gi l 13) :
    Calls Try.prog 20 #[.int .u8 kind, .int .u32 place, .slice A 256 c] w (OpenPost false [] w) := by
  obtain ⟨ad, rfl, hx⟩ := hr.at_ (i := 13) (by omega)
  have hx13 : w.cell? ⟨ad.block, ad.off + 13, none⟩ = some (.int .u8 (gi l 13)) := hx
  have hby := hb _ (gi_mem l 13 (by omega))
  clear hl hx
  go_enter Try.func20, Try.ntmps20
  go_wp2
  go_ret2
  exact OpenPost.no _ _ (Upd.refl _ _)
set_option maxHeartbeats 1000000 in
set_option maxRecDepth 100000 in
theorem open_of (ok : Bool) (l q : List Int) (hq : q = if ok then pay l else []) (A : Option Addr) (c : Nat) (kind place : Int) (w : World) (hr : Rn w .u8 A l) (hl : l.length = 256) (hc : 256 ≤ c) (hb : Byte l) (hg : gi l 13 ≤ 242) (hk : 0 ≤ kind ∧ kind ≤ 255) (hp : 0 ≤ place ∧ place ≤ 4294967295)
    (hok : decide (sealed kind place (pay l) = l) = ok) :
    Calls Try.prog 20 #[.int .u8 kind, .int .u32 place, .slice A 256 c] w (OpenPost ok q w) := by
  obtain ⟨ad, rfl, hx⟩ := hr.at_ (i := 13) (by omega)
  have hx13 : w.cell? ⟨ad.block, ad.off + 13, none⟩ = some (.int .u8 (gi l 13)) := hx
  have hby := hb _ (gi_mem l 13 (by omega))
  have hpl := pay_length l hl hg
  have hpb := pay_bytes l hb
  have hrp : Rn w .u8 (some ⟨ad.block, ad.off + 14, none⟩) (pay l) := by
    have h1 := (hr.drop (i := 14) (c := 100000) (by omega) (by omega)).take (i := (gi l 13).toNat) (by rw [List.length_drop]; omega)
    exact h1
  obtain ⟨m, hm⟩ : ∃ m : Nat, gi l 13 = m := ⟨(gi l 13).toNat, by omega⟩
  have hmp : (pay l).length = m := by omega
  obtain ⟨A', hA', hcut⟩ := cut_mid (P := Try.prog) 22 5 .i64 .i64 Try.underlying22 u8_size (some ad) 256 c 14 (14 + m) m 14 (14 + (m : Int)) rfl (by omega) (by omega) (by omega) (by omega)
  rw [if_neg (by omega)] at hA'
  have hA2 : A' = some ⟨ad.block, ad.off + 14, none⟩ := hA'
  subst hA2
  clear hA'
  have hs := seal_ (some ⟨ad.block, ad.off + 14, none⟩) (c - 14) (pay l) kind place w hrp (by omega) hpb hk hp
  rw [hmp] at hs
  have HS := hid hs
  have hcl := fun W (hu : Upd No w W) => clone (some ⟨ad.block, ad.off + 14, none⟩) (c - 14) (pay l) W (Rd.upd hrp (by omega) hu fun _ _ => no_ _) (by omega)
  rw [hmp] at hcl
  have HC := hid hcl
  have hx13m : w.cell? ⟨ad.block, ad.off + 13, none⟩ = some (.int .u8 (m : Int)) := by rw [← hm]; exact hx13
  have hbnd : m ≤ 242 := by omega
  have hsl := sealed_length kind place (pay l) (by omega)
  have hsb := sealed_bytes kind place (pay l) hk (by omega) hpb
  have HQ := hid (show ∀ (w' : World) (A' : Option Addr) (c' : Nat), w'.ownsRow w.heap.size 5 1 (.slice A' m c') m (nums .u8 (pay l)) → Upd No w w' → OpenPost true (pay l) w (.returned (.tuple #[.slice A' m c', .bool true])) w' from fun w' A' c' h1 h2 => ⟨A', c', by rw [hmp], by rw [hmp]; exact h1, h2⟩)
  have HL := hid hl
  have H9 := hid hq
  clear hq
  clear hs hcl hm hx hx13 hmp hpl hby hrp hg hl
  go_enter Try.func20, Try.ntmps20
  go_wp2_with (fail)
  refine Calls.mono HS.out ?_
  rintro e w1 ⟨g, rfl, hn1, hg1, hu1⟩
  have he := equal (some ⟨g, 0, none⟩) (some ad) 256 c (sealed kind place (pay l)) l w1 hn1.rn (Rd.upd hr (by omega) hu1 fun _ _ => no_ _) hsb hb ok hok
  rw [hsl, HL.out] at he
  have HE := hid he
  clear he HS
  go_wp2_with (fail)
  refine Calls.mono HE.out ?_
  rintro e w2 ⟨rfl, rfl⟩
  clear HE hsl hok
  cases ok
  · obtain rfl : q = [] := by simpa using H9.out
    go_wp2
    go_ret2
    exact OpenPost.no _ _ hu1
  · obtain rfl : q = pay l := by simpa using H9.out
    go_wp2_with (fail)
    refine Calls.mono (HC.out _ hu1) ?_
    rintro e w3 ⟨A3, c3, rfl, ho3, hu3⟩
    go_wp2
    go_ret2
    exact HQ.out _ _ _ (own_base ho3 hu1.size) (hu1.next hu3)
theorem open_ (A : Option Addr) (c : Nat) (l : List Int) (kind place : Int) (w : World) (hr : Rn w .u8 A l) (hc : l.length ≤ c) (hm : c ≤ 9223372036854775807) (hb : Byte l) (hk : 0 ≤ kind ∧ kind ≤ 255) (hp : 0 ≤ place ∧ place ≤ 4294967295) :
    Calls Try.prog 20 #[.int .u8 kind, .int .u32 place, .slice A l.length c] w (OpenPost (okOf kind place l) (outOf kind place l) w) := by
  by_cases hl : l.length = 256
  · by_cases hg : gi l 13 ≤ 242
    · have h := open_of (okOf kind place l) l (outOf kind place l) rfl A c kind place w hr hl (by omega) hb hg hk hp (by simp [okOf, hl, hg])
      rwa [← hl] at h
    · have h := open_wide A c l kind place w hr hl hb (by omega)
      have e : okOf kind place l = false := by simp [okOf, hg]
      rw [← hl] at h
      simpa [outOf, e] using h
  · have e : okOf kind place l = false := by simp [okOf, hl]
    simpa [outOf, e] using open_short A c l kind place w hl (by omega)
end Go.Proofs.Ytbcmaobopglooaa.Sw
