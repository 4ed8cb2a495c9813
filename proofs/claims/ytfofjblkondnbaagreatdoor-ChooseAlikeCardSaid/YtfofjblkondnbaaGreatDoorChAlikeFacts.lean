/- The closed facts of ChooseAlike's row, each by itself. -/
import Derived.Test.YtfofjblkondnbaaGreatDoorCards
import Derived.Deep.DeepHandedRow
import Derived.JoinedCond
import Derived.ProofKit
namespace Go.Proofs.YtfofjblkondnbaaGreatDoor.Ch
open Go.ChangeShapes Go.WideShapes Go.ChangeAt Go.RowKit

set_option maxHeartbeats 0 in
theorem alike_facts : joinedFacts Tryz.pinned.checked.prog 3 Tryz.f3 (OpenSpec.ofChange Rows.chooseAlikeSpec).bare Rows.chooseAlikeRow = true := by
  unfold joinedFacts
  simp only [Bool.and_eq_true]
  repeat' apply And.intro
  all_goals as_aux_lemma => kernel_rfl
end Go.Proofs.YtfofjblkondnbaaGreatDoor.Ch
