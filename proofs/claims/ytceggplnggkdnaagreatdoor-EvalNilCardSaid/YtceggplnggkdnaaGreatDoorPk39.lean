/- EvalNil: it answers true, whatever the argument; no condition. -/
import Derived.Test.YtceggplnggkdnaaGreatDoorPk33
import Derived.Test.YtceggplnggkdnaaGreatDoorPk35
import Derived.Test.YtceggplnggkdnaaGreatDoorPk36
import Derived.Test.YtceggplnggkdnaaGreatDoorPk37
import Derived.Test.YtceggplnggkdnaaGreatDoorPk38
import Derived.Test.YtceggplnggkdnaaGreatDoorCards
set_option linter.unusedSimpArgs false
set_option linter.unusedVariables false
namespace Go.Proofs.YtceggplnggkdnaaGreatDoor
open Go.ChangeShapes Go.WideShapes Go.ChangeAt Go.RowKit LexP
theorem own_unsafe : Tryz.pinned.checked.prog.headLifts.contains "ownunsafe" = false := by kernel_rfl
theorem evalNil_own_tie : Rows.evalNilRow.laidByTextAt .later Tryz.pinned [.data, .handle, .data, .data, .data] true := OpenClaim.laidByTextAt_later rfl rfl tie own_unsafe
/-- The statement. -/
theorem evalNil_proved : Rows.EvalNilCardSaid :=
 Claim7.holds_tied_plain_at .later [] [.data, .handle, .data, .data, .data] true (true, "36651854b00404a642cbee133ca642ab854553e432116df473c19819445ffab4") true
  evalNil_row (fun _ h => by cases h) evalNil_wf (fun _ h => by cases h) evalNil_own_tie rfl ⟨rfl, rfl⟩ evalNil_main rfl
  (fun f fn hf hfn => by
   obtain rfl : f = 6 := Option.some.inj (evalNil_fnamed.symm.trans hf) |>.symm
   obtain rfl : fn = Tryz.f6 := (Option.some.inj (Tryz.func6.symm.trans hfn)).symm
   exact ⟨evalNil_looks, fun j t ht => by
    rw [Tryz.params6] at ht
    have h3 : t = 9 := by
     rcases j with _ | j
     ·simpa using ht.symm
     ·simp at ht
    subst h3
    exact evalNil_st⟩)
  evalNil_goes
#print axioms evalNil_proved
end Go.Proofs.YtceggplnggkdnaaGreatDoor
