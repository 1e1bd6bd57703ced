/-
  Parts: SystemRefused: the row's. No conditions beyond those of the statement.
-/
import Derived.Test.YtjamiaamngalgaaGreatG01
import Derived.JoinedOf
set_option linter.unusedVariables false
set_option linter.unusedSimpArgs false
set_option maxRecDepth 1000000
set_option maxHeartbeats 4000000
namespace Go.Proofs.YtjamiaamngalgaaGreat.systemRefused
open Go.RowKit
theorem closed:joinedFacts Tryz.prog 3 Tryz.f3 Rows.systemRefusedSpec Rows.systemRefusedRow=true:=by
 simp only [joinedFacts,Bool.and_eq_true]
 repeat' (with_reducible apply And.intro)
 all_goals (first | with_reducible exact Zha | (as_aux_lemma=> kernel_rfl))
end Go.Proofs.YtjamiaamngalgaaGreat.systemRefused
