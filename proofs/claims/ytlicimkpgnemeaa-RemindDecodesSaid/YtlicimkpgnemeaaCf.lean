/-
  Readers' calls, by the state they leave.
-/
import Derived.Test.YtlicimkpgnemeaaCe
set_option linter.unusedVariables false
set_option linter.unusedSimpArgs false
namespace Go.Proofs.Ytlicimkpgnemeaa.Cd
open Go.RowKit Go.Proofs.Ytlicimkpgnemeaa.B Go.Proofs.Ytlicimkpgnemeaa.Cm Go.Proofs.Ytlicimkpgnemeaa.Cw Go.Proofs.Ytlicimkpgnemeaa.Cr
theorem rint_eq {F : Nat → Prop} {p c : Nat} {A : Option Addr} {l r : List Int} {n z : Int} {bad bd : Bool} {w : World} (h : Rr 100 w F p A c l bad) (hs : stN l bad = (n, r, bd)) (hz : uz n = z) :
    Calls Try.prog 46 #[.pointer (some ⟨p, 0, none⟩)] w fun e w' => e = .returned (.int .i64 z) ∧ ∃ A' c', Rr 100 w' F p A' c' r bd ∧ Upd (fun k => k = p) w w' :=
  (rint F p c A l bad w h).mono fun e w' hp => by
    rw [hs] at hp
    simp only [hz] at hp
    exact hp
theorem rtext_eq {F : Nat → Prop} {p c : Nat} {A : Option Addr} {l r s : List Int} {bad bd : Bool} {w : World} (h : Rr 100 w F p A c l bad) (hs : stT l bad = (s, r, bd)) :
    Calls Try.prog 45 #[.pointer (some ⟨p, 0, none⟩)] w fun e w' => e = .returned (.string (strOfNums s)) ∧ ∃ A' c', Rr 100 w' F p A' c' r bd ∧ Upd (fun k => k = p) w w' :=
  (rtext F p c A l bad w h).mono fun e w' hp => by
    unfold TextPost at hp
    rw [hs] at hp
    exact hp
theorem int_eq {F : Nat → Prop} {p c : Nat} {A : Option Addr} {l r : List Int} {n z : Int} {bad bd : Bool} {w : World} (h : Rr 85 w F p A c l bad) (hs : stN l bad = (n, r, bd)) (hz : uz n = z) :
    Calls Try.prog 53 #[.pointer (some ⟨p, 0, none⟩)] w fun e w' => e = .returned (.int .i64 z) ∧ ∃ A' c', Rr 85 w' F p A' c' r bd ∧ Upd (fun k => k = p) w w' :=
  (Ce.int_ F p c A l bad w h).mono fun e w' hp => by
    rw [hs] at hp
    simp only [hz] at hp
    exact hp
theorem text_eq {F : Nat → Prop} {p c : Nat} {A : Option Addr} {l r s : List Int} {bad bd : Bool} {w : World} (h : Rr 85 w F p A c l bad) (hs : stT l bad = (s, r, bd)) :
    Calls Try.prog 52 #[.pointer (some ⟨p, 0, none⟩)] w fun e w' => e = .returned (.string (strOfNums s)) ∧ ∃ A' c', Rr 85 w' F p A' c' r bd ∧ Upd (fun k => k = p) w w' :=
  (Ce.text_ F p c A l bad w h).mono fun e w' hp => by
    unfold TextPost at hp
    rw [hs] at hp
    exact hp
end Go.Proofs.Ytlicimkpgnemeaa.Cd
