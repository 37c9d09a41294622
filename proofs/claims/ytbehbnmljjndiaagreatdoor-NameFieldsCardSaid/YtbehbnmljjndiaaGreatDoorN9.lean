/-
  Closed calls, by the kernel: flags, one half.
-/
import Derived.Test.YtbehbnmljjndiaaGreatDoorN6
set_option linter.unusedVariables false
set_option linter.unusedSimpArgs false
namespace Go.V.NF
open Go.Proofs
theorem k23_fff : callN EE 2000 23 [treeV false, stV, .nils, .nils, zz, I 0, idV false] [] = some (I (flagsV false false), []) := by kernel_rfl
theorem k23_fft : callN EE 2000 23 [treeV false, stV, .nils, .nils, zz, I 2, idV false] [] = some (I (flagsV false true), []) := by kernel_rfl
theorem k23_ftf : callN EE 2000 23 [treeV false, stV, .nils, .nils, zz, I 0, idV true] [] = some (I (flagsV true false), []) := by kernel_rfl
theorem k23_ftt : callN EE 2000 23 [treeV false, stV, .nils, .nils, zz, I 2, idV true] [] = some (I (flagsV true true), []) := by kernel_rfl
end Go.V.NF
