/- The closed facts of ChooseCleans's row, each by itself. -/
import Derived.Test.YtfofjblkondnbaaGreatDoorCards
import Derived.Deep.DeepHandedRow
import Derived.JoinedCond
import Derived.ProofKit
namespace Go.Proofs.YtfofjblkondnbaaGreatDoor.Ch
open Go.ChangeShapes Go.WideShapes Go.ChangeAt Go.RowKit

set_option maxHeartbeats 0 in
theorem cleans_facts : joinedFacts Tryz.pinned.checked.prog 5 Tryz.f5 (OpenSpec.ofChange Rows.chooseCleansSpec).bare Rows.chooseCleansRow = true := by
  unfold joinedFacts
  simp only [Bool.and_eq_true]
  repeat' apply And.intro
  all_goals as_aux_lemma => kernel_rfl
end Go.Proofs.YtfofjblkondnbaaGreatDoor.Ch
