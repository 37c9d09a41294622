/-
  Calls that are known become laws.
-/
import Derived.Test.YtbehbnmljjndiaaGreatDoorN5
set_option linter.unusedVariables false
set_option linter.unusedSimpArgs false
namespace Go.V.NF
open Go.Proofs
/-! ### Known calls as laws -/
/-- a level more: calls of `g` with a tree (and its styles) are known -/
def lay (x : FuncId → Option (List AV → HM AV)) (g : FuncId) (t : List (List AV × AV)) : FuncId → Option (List AV → HM AV) := fun f => if f = g then some (memo t) else x f
def tabT (v : AV) : List (List AV × AV) := [([treeV false], v), ([treeV true], v)]
def tabS (v : AV) : List (List AV × AV) := [([treeV false, stV], v), ([treeV true, stV], v)]
theorem lay_ok {x x0 : FuncId → Option (List AV → HM AV)} (ok : EnvOK Tryz.prog (EX x)) (ok0 : EnvOK Tryz.prog (EX x0)) {g : FuncId} {N : Nat} {t : List (List AV × AV)} (hm : modeTab g = []) {fn : Func} (hf : Tryz.prog.funcs[g]? = some fn) (hn : fn.name ≠ "runtime.NumGoroutine") (hb : fn.body.isNone = false)
    (ht : ∀ e ∈ t, AV.clsL e.1 = true ∧ resCls e.2 = true ∧ callN (EX x0) N g e.1 [] = some (e.2, [])) : EnvOK Tryz.prog (EX (lay x g t)) := by
  refine env_ok _ fun h y hy => ?_
  unfold lay at hy
  split at hy
  · rename_i hg; subst hg; injection hy with hy; subst hy
    exact ⟨memo_ok (env := EX (lay x h t)) (env0 := EX x0) ok0 rfl hm ht, fn, hf, hn, hb⟩
  · obtain ⟨h1, h2⟩ := ok.ext h y hy
    exact ⟨fun w m os args argv r ha n a os' n' hr hfr => (h1 w m os args argv (ORel.glob_eq (env0 := EX x) (env := EX (lay x g t)) rfl r) ha n a os' n' hr hfr).mono (by
      rintro e w' ⟨m', vv, rfl, nx, hv⟩
      exact ⟨m', vv, rfl, ⟨ORel.glob_eq (env0 := EX (lay x g t)) (env := EX x) rfl nx.rel, nx.goes, nx.le, nx.free⟩, hv⟩), h2⟩
noncomputable def xA := lay extL 53 (tabT (I 0))
theorem k53 : ∀ b, callN EL 2000 53 [treeV b] [] = some (I 0, []) := by intro b; cases b <;> kernel_rfl
theorem cls_tree : ∀ b, AV.clsL [treeV b] = true := by intro b; cases b <;> kernel_rfl
theorem cls_treeS : ∀ b, AV.clsL [treeV b, stV] = true := by intro b; cases b <;> kernel_rfl
theorem memT {P : List AV × AV → Prop} {v : AV} (h : ∀ b, P ([treeV b], v)) : ∀ e ∈ tabT v, P e := by
  intro e he
  rcases List.mem_cons.1 he with rfl | he
  · exact h false
  · rcases List.mem_cons.1 he with rfl | he
    · exact h true
    · cases he
theorem memS {P : List AV × AV → Prop} {v : AV} (h : ∀ b, P ([treeV b, stV], v)) : ∀ e ∈ tabS v, P e := by
  intro e he
  rcases List.mem_cons.1 he with rfl | he
  · exact h false
  · rcases List.mem_cons.1 he with rfl | he
    · exact h true
    · cases he
theorem xA_ok : EnvOK Tryz.prog (EX xA) := lay_ok (N := 2000) el_ok el_ok rfl Tryz.func53 (beq_eq_false_iff_ne.1 (by kernel_rfl)) (by kernel_rfl) (memT fun b => ⟨cls_tree b, rfl, k53 b⟩)
noncomputable def xB := lay xA 39 (tabS (.sl [I 1, I 2]))
theorem k39 : ∀ b, callN (EX xA) 2000 39 [treeV b, stV] [] = some (.sl [I 1, I 2], []) := by intro b; cases b <;> kernel_rfl
theorem xB_ok : EnvOK Tryz.prog (EX xB) := lay_ok (N := 2000) xA_ok xA_ok rfl Tryz.func39 (beq_eq_false_iff_ne.1 (by kernel_rfl)) (by kernel_rfl) (memS fun b => ⟨cls_treeS b, by kernel_rfl, k39 b⟩)
noncomputable def xC := lay xB 55 (tabS (.sl [I 2]))
theorem k55 : ∀ b, callN (EX xB) 2000 55 [treeV b, stV] [] = some (.sl [I 2], []) := by intro b; cases b <;> kernel_rfl
theorem xC_ok : EnvOK Tryz.prog (EX xC) := lay_ok (N := 2000) xB_ok xB_ok rfl Tryz.func55 (beq_eq_false_iff_ne.1 (by kernel_rfl)) (by kernel_rfl) (memS fun b => ⟨cls_treeS b, by kernel_rfl, k55 b⟩)
noncomputable def xD := lay xC 40 (tabS (.tup [.sl [I 1, I 2], .sl [I 0, I 1]]))
theorem k40 : ∀ b, callN (EX xC) 2000 40 [treeV b, stV] [] = some (.tup [.sl [I 1, I 2], .sl [I 0, I 1]], []) := by intro b; cases b <;> kernel_rfl
theorem xD_ok : EnvOK Tryz.prog (EX xD) := lay_ok (N := 2000) xC_ok xC_ok rfl Tryz.func40 (beq_eq_false_iff_ne.1 (by kernel_rfl)) (by kernel_rfl) (memS fun b => ⟨cls_treeS b, by kernel_rfl, k40 b⟩)
noncomputable def xE := lay xD 10 [([], .bool true)]
theorem xE_ok : EnvOK Tryz.prog (EX xE) := lay_ok (N := 2000) xD_ok el_ok rfl Tryz.func10 (beq_eq_false_iff_ne.1 (by kernel_rfl)) (by kernel_rfl) (by
  intro e he
  rcases List.mem_cons.1 he with rfl | he
  · exact ⟨rfl, rfl, k10⟩
  · cases he)
/-- the environment of the walks -/
noncomputable abbrev EE : Env := EX xE
end Go.V.NF
