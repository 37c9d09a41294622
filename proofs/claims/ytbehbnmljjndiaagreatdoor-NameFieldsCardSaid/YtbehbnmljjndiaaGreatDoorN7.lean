/-
  Closed calls, by the kernel.
-/
import Derived.Test.YtbehbnmljjndiaaGreatDoorN6
set_option linter.unusedVariables false
set_option linter.unusedSimpArgs false
namespace Go.V.NF
open Go.Proofs
theorem k5 : ∀ b, callN EE 2000 5 [viewV b, I 1] [] = some (.tup [treeV b, I 0], []) := by intro b; cases b <;> kernel_rfl
theorem k8 : ∀ b, callN EE 2000 8 [treeV b] [] = some (stV, []) := by intro b; cases b <;> kernel_rfl
theorem k19 : ∀ b i, callN EE 2000 19 [treeV b, idV i] [] = some (.tup [nodeV b i, .bool true], []) := by intro b i; cases b <;> cases i <;> kernel_rfl
theorem k20 : ∀ b i, callN EE 2000 20 [treeV b, idV i] [] = some (I (if i then 5 else 1), []) := by intro b i; cases b <;> cases i <;> kernel_rfl
theorem k21 : ∀ b i, callN EE 2000 21 [spV b 0 1, idV i] [mapV, mapV] = some (.str (nameV b i), [mapV, mapV]) := by intro b i; cases b <;> cases i <;> kernel_rfl
theorem k22 : ∀ b i, callN EE 2000 22 [spV b 0 1, idV i] [mapV, mapV] = some (.str ⟨#[]⟩, [mapV, mapV]) := by intro b i; cases b <;> cases i <;> kernel_rfl

theorem k16 : ∀ b, callN EE 2000 16 [treeV b, stV] [] = some (spV b 0 1, [mapV, mapV]) := by intro b; cases b <;> kernel_rfl
theorem k17 : ∀ b, callN EE 2000 17 [treeV b, stV] [] = some (.sl [I 1, I 2], []) := by intro b; cases b <;> kernel_rfl
theorem k18 : ∀ b, callN EE 2000 18 [treeV b, stV] [] = some (.sl [I 0, I 1], []) := by intro b; cases b <;> kernel_rfl
theorem k27 : ∀ b i, callN EE 2000 27 [treeV b, stV, idV i] [] = some (.sl [], []) := by intro b i; cases b <;> cases i <;> kernel_rfl
theorem k25 : ∀ b i, callN EE 2000 25 [nodeV b i, I (if i then 5 else 1)] [] = some (I 0, []) := by intro b i; cases b <;> cases i <;> kernel_rfl
theorem k30 : ∀ b foc : Bool, callN EE 2000 30 [treeV b, I (if foc then 2 else 0)] [] = some (.sl (if foc then [I 1, I 2] else []), []) := by intro b foc; cases b <;> cases foc <;> kernel_rfl
theorem k29 : ∀ foc : Bool, callN EE 2000 29 [.sl (if foc then [I 1, I 2] else [])] [] = some (.fn 77 [.ptr 0 0], [.var (.sl (if foc then [I 1, I 2] else [])) 1 .mine]) := by intro foc; cases foc <;> kernel_rfl
theorem k31 : callN EE 2000 31 [.sl [I 1, I 2], I 2] [] = some (.bool true, []) := by kernel_rfl
theorem k47 : ∀ b, callN EE 2000 47 [.sl (attrsV b), .str sText] [] = some (.str sOld, []) := by intro b; cases b <;> kernel_rfl
theorem k9 : callN EE 2000 9 [.nils] [] = some (.sl [], []) := by kernel_rfl
theorem k4 : ∀ s, callN EE 2000 4 [.str s] [] = some (.agg [I 3, I 0, .str s, .sl []], []) := by intro s; kernel_rfl
end Go.V.NF
