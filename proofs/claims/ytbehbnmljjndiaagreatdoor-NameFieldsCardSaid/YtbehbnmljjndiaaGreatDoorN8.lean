/-
  Closed calls, by the kernel: actions.
-/
import Derived.Test.YtbehbnmljjndiaaGreatDoorN6
set_option linter.unusedVariables false
set_option linter.unusedSimpArgs false
namespace Go.V.NF
open Go.Proofs
theorem k24 : ∀ b i, callN EE 2000 24 [treeV b, stV, .nils, .nils, idV i] [] = some (I (actV i), []) := by intro b i; cases b <;> cases i <;> kernel_rfl
end Go.V.NF
