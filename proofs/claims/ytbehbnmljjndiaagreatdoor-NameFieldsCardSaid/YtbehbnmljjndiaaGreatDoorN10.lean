/-
  Closed calls, by the kernel: flags, the other half.
-/
import Derived.Test.YtbehbnmljjndiaaGreatDoorN6
set_option linter.unusedVariables false
set_option linter.unusedSimpArgs false
namespace Go.V.NF
open Go.Proofs
theorem k23_tff : callN EE 2000 23 [treeV true, stV, .nils, .nils, zz, I 0, idV false] [] = some (I (flagsV false false), []) := by kernel_rfl
theorem k23_tft : callN EE 2000 23 [treeV true, stV, .nils, .nils, zz, I 2, idV false] [] = some (I (flagsV false true), []) := by kernel_rfl
theorem k23_ttf : callN EE 2000 23 [treeV true, stV, .nils, .nils, zz, I 0, idV true] [] = some (I (flagsV true false), []) := by kernel_rfl
theorem k23_ttt : callN EE 2000 23 [treeV true, stV, .nils, .nils, zz, I 2, idV true] [] = some (I (flagsV true true), []) := by kernel_rfl
end Go.V.NF
