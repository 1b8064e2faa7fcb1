/- Joined texts of this claim's proof: LimK. -/
import Derived.Test.YtgfmiladfeoldaaGreatDoorPl47
import Derived.Test.YtgfmiladfeoldaaGreatDoorPl48
set_option linter.unusedSimpArgs false
set_option linter.unusedVariables false
namespace Go.Proofs.YtgfmiladfeoldaaGreatDoor
open Go.RowKit NatP LexP
theorem limits_walk (x : Int) (hx : -9223372036854775808 ≤ x ∧ x ≤ 9223372036854775807) (w : World) (h : Lx w) (hs : SG w) (hsz : 4 < w.heap.size) :
  Calls Tryz.prog 10 #[.int .i64 x] w fun e w' => e = .returned (.bool true) ∧ Below w.heap.size w w' := by
 obtain ⟨k, hk, hc⟩ := small_gen x 3 (by decide) hx
 have h4 : k = 0 ∨ k = 1 ∨ k = 2 ∨ k = 3 := by omega
 rcases h4 with rfl | rfl | rfl | rfl
 ·exact limits_0 x hc w h hs hsz
 ·exact limits_1 x hc w h hs hsz
 ·exact limits_2 x hc w h hs hsz
 ·exact limits_3 x hc w h hs hsz
end Go.Proofs.YtgfmiladfeoldaaGreatDoor
