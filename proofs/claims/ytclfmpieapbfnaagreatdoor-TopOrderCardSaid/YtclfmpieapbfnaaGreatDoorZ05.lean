/- Part 05: lemmas, no conditions. -/
import Derived.Lib.Strings
import Derived.Lib.Slices
import Derived.Lib.Small
import Derived.Lib.Walk
import Derived.Lib.BitFns
import Derived.Test.YtclfmpieapbfnaaGreatDoorZ01
import Derived.Test.YtclfmpieapbfnaaGreatDoorProg
set_option maxHeartbeats 4000000
set_option linter.unusedVariables false
set_option linter.unusedSimpArgs false
section
namespace Go.Proofs.YtclfmpieapbfnaaGreatDoor.Len
open Cm
theorem lenOk (a b x r:Int) (h0:0 ≤ b) (h1:b ≤ 255) (ha:0 ≤ a ∧ a ≤ 56) (hx:1 ≤ b ∨ x < 248) (hn:248 ≤ x → (a + 8) / 8 = nb x) (ha8:a % 8 = 0)
 (hr:∀ l:Int,Lib.len8 b = l → 0 ≤ l → l ≤ 8 → r = a + l):LenOk x r:=by
 have h:=Lib.len8_of b h0 h1
 have h2:=Lib.bitLen_le8' b h0 h1
 rw [hr _ h (by omega) (by omega)]
 refine ⟨by omega,by omega,fun hl => ?_⟩
 have h3:=bitLen_byte' b (by omega) h1
 have:=hn hl
 omega
set_option maxRecDepth 100000 in
theorem len64 (x:Int) (w:World) (h0:0 ≤ x) (h1:x ≤ 18446744073709551615) :
 Calls Tryz.prog 174 #[.int .u64 x] w fun e w' => ∃ L,e = .returned (.int .i64 L) ∧ LenOk x L ∧ w = w':=by
 go_enter Tryz.func174,Tryz.ntmps174
 go_wp2
 all_goals (go_ret; refine ⟨_,rfl,?_,rfl⟩)
 all_goals first
  | (refine lenOk 56 (x / 4294967296 / 65536 / 256 % 256) x _ (by omega) (by omega) (by omega) (by omega) ?_ (by decide) (fun l hl _ _ => by rw [hl]; omega); unfold nb; intro _; repeat (split <;> try omega))
  | (refine lenOk 48 (x / 4294967296 / 65536 % 256) x _ (by omega) (by omega) (by omega) (by omega) ?_ (by decide) (fun l hl _ _ => by rw [hl]; omega); unfold nb; intro _; repeat (split <;> try omega))
  | (refine lenOk 40 (x / 4294967296 / 256 % 256) x _ (by omega) (by omega) (by omega) (by omega) ?_ (by decide) (fun l hl _ _ => by rw [hl]; omega); unfold nb; intro _; repeat (split <;> try omega))
  | (refine lenOk 32 (x / 4294967296 % 256) x _ (by omega) (by omega) (by omega) (by omega) ?_ (by decide) (fun l hl _ _ => by rw [hl]; omega); unfold nb; intro _; repeat (split <;> try omega))
  | (refine lenOk 24 (x / 65536 / 256 % 256) x _ (by omega) (by omega) (by omega) (by omega) ?_ (by decide) (fun l hl _ _ => by rw [hl]; omega); unfold nb; intro _; repeat (split <;> try omega))
  | (refine lenOk 16 (x / 65536 % 256) x _ (by omega) (by omega) (by omega) (by omega) ?_ (by decide) (fun l hl _ _ => by rw [hl]; omega); unfold nb; intro _; repeat (split <;> try omega))
  | (refine lenOk 8 (x / 256 % 256) x _ (by omega) (by omega) (by omega) (by omega) ?_ (by decide) (fun l hl _ _ => by rw [hl]; omega); unfold nb; intro _; repeat (split <;> try omega))
  | (refine lenOk 0 (x % 256) x _ (by omega) (by omega) (by omega) (by omega) ?_ (by decide) (fun l hl _ _ => by rw [hl]; omega); unfold nb; intro _; repeat (split <;> try omega))
end Go.Proofs.YtclfmpieapbfnaaGreatDoor.Len
end
