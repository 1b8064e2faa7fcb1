/- Joined texts of this claim's proof: EvNilF. -/
import Derived.Test.YtceggplnggkdnaaGreatDoorPk26
import Derived.Test.YtceggplnggkdnaaGreatDoorPk29
import Derived.Test.YtceggplnggkdnaaGreatDoorPk30
import Derived.Test.YtceggplnggkdnaaGreatDoorPk31
set_option linter.unusedSimpArgs false
set_option linter.unusedVariables false
namespace Go.Proofs.YtceggplnggkdnaaGreatDoor
open Go.ChangeShapes Go.WideShapes Go.ChangeAt Go.RowKit LexP
set_option maxHeartbeats 0 in
theorem evalNil_facts : joinedFacts Tryz.prog 6 Tryz.f6 (OpenSpec.ofChange Rows.evalNilSpec).bare Rows.evalNilRow = true := by
 unfold joinedFacts
 simp only [Bool.and_eq_true]
 repeat' refine And.intro ?_ ?_
 ·as_aux_lemma => kernel_rfl
 ·exact laidOut
 ·exact nilF_maps
 ·as_aux_lemma => kernel_rfl
 ·as_aux_lemma => kernel_rfl
 ·as_aux_lemma => kernel_rfl
 ·as_aux_lemma => kernel_rfl
 ·as_aux_lemma => kernel_rfl
 ·as_aux_lemma => kernel_rfl
 ·exact nilF_place
 ·exact nilF_unf
 ·exact nilF_rec
 ·exact nilF_named
 ·as_aux_lemma => kernel_rfl
 ·as_aux_lemma => kernel_rfl
 ·as_aux_lemma => kernel_rfl
 ·as_aux_lemma => kernel_rfl
 ·as_aux_lemma => kernel_rfl
 ·as_aux_lemma => kernel_rfl
 ·as_aux_lemma => kernel_rfl
 ·as_aux_lemma => kernel_rfl
 ·as_aux_lemma => kernel_rfl
 ·as_aux_lemma => kernel_rfl
 ·as_aux_lemma => kernel_rfl
 ·as_aux_lemma => kernel_rfl
 ·as_aux_lemma => kernel_rfl
 ·as_aux_lemma => kernel_rfl
 ·as_aux_lemma => kernel_rfl
 ·as_aux_lemma => kernel_rfl
 ·as_aux_lemma => kernel_rfl
 ·as_aux_lemma => kernel_rfl
 ·as_aux_lemma => kernel_rfl
end Go.Proofs.YtceggplnggkdnaaGreatDoor
