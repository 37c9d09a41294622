/-
  The walk of the law: it returns true.
-/
import Derived.Test.YtbehbnmljjndiaaGreatDoorX2
import Derived.Test.YtbehbnmljjndiaaGreatDoorW4
set_option linter.unusedVariables false
set_option linter.unusedSimpArgs false
namespace Go.V.NF
open Go.Proofs
set_option maxHeartbeats 4000000
set_option maxRecDepth 50000
set_option linter.unusedSimpArgs false
theorem c4 (s : ByteArray) : callC EE 4 [.str s] = .ret (.agg [I 3, I 0, .str s, .sl []]) := of_closed (k4 s) (by kernel_rfl) (by kernel_rfl)
theorem c5f : callC EE 5 [.agg [I 1, .str ⟨#[]⟩, .sl [], .sl [], .sl [.agg [I 4, .str ⟨#[]⟩, .sl [.agg [.str ⟨#[116, 101, 120, 116]⟩, I 3, I 0, .str ⟨#[111, 108, 100]⟩, .sl []]], .sl [], .sl []]]], I 1] = .ret (.tup [treeA false, I 0]) := of_closed (k5 false) (by kernel_rfl) (by kernel_rfl)
theorem c5t : callC EE 5 [.agg [I 1, .str ⟨#[]⟩, .sl [], .sl [], .sl [.agg [I 4, .str ⟨#[]⟩, .sl [.agg [.str ⟨#[112, 108, 97, 99, 101, 104, 111, 108, 100, 101, 114]⟩, I 3, I 0, .str ⟨#[77, 97, 105, 108]⟩, .sl []], .agg [.str ⟨#[116, 101, 120, 116]⟩, I 3, I 0, .str ⟨#[111, 108, 100]⟩, .sl []]], .sl [], .sl []]]], I 1] = .ret (.tup [treeA true, I 0]) := of_closed (k5 true) (by kernel_rfl) (by kernel_rfl)
theorem c8 (b : Bool) : callC EE 8 [treeA b] = .ret (.sl stL) := of_closed (k8 b) (by cases b <;> kernel_rfl) (by kernel_rfl)
theorem c9 : callC EE 9 [.nils] = .ret (.sl []) := of_closed k9 (by kernel_rfl) (by kernel_rfl)
theorem x10 : callX EE 10 [] = .ret (.bool true) := by
  rw [callX_ext (x := memo [([], .bool true)]) rfl]; rfl
theorem ty3 {x} : (EX x).ty 3 = some ⟨.int .i64, 1, 8, some (.int .i64 0)⟩ := by kernel_rfl
theorem ty4 {x} : (EX x).ty 4 = some ⟨.bool, 1, 1, some (.bool false)⟩ := by kernel_rfl
theorem ty44 {x} : (EX x).ty 44 = some ⟨.struct [(0, 3), (1, 3), (2, 4)], 3, 24, some (.agg [.int .i64 0, .int .i64 0, .bool false])⟩ := by kernel_rfl
@[go_sem] theorem eqSel {x} {a f : Int} {c : Bool} : eqF (EX x) 8 44 (.agg [I a, I f, .bool c]) (.agg [I a, I f, .bool c]) = some true := by
  have e : (EX x).eqs 44 = true := by kernel_rfl
  have i3 : isAggT (EX x) 3 = some (false, 1) := by kernel_rfl
  have i4 : isAggT (EX x) 4 = some (false, 1) := by kernel_rfl
  simp [eqF, eqFs, ty44, ty3, ty4, e, partAV, i3, i4, AV.cells]
theorem nmf : nameV false true = ⟨#[]⟩ := nd rfl
theorem nmt : nameV true true = ⟨#[77, 97, 105, 108]⟩ := nd rfl
theorem sold : sOld = ⟨#[111, 108, 100]⟩ := nd rfl
theorem c3L {ns : List Int} {a f : Int} {b : Bool} (ha : 0 ≤ a ∧ a ≤ 255) (hf : 0 ≤ f ∧ f ≤ 255) : callL EE 3 [.sl (ints ns), .int .u8 a, .int .u8 f, .bool b] [] = some (.bool true, []) := by
  apply eq_of_ex
  refine call_go (fn := Tryz.f3) (rs := [.tmp 8]) (own := false) (tm := [(0, .sl (ints ns)), (1, .int .u8 a), (2, .int .u8 f), (3, .bool b)]) (k := 0) (by kernel_rfl) rfl rfl rfl rfl rfl ?_
  by_cases hl : ns.length ≤ 40
  · obtain ⟨ms, hms⟩ : ∃ ms : List Int, ms = ns.map fun n => ((cleanR n : Nat) : Int) := ⟨_, rfl⟩
    have hr : runesOf (runesBytes ns) = ints ms := by rw [runesOf_runesBytes, hms]
    have hml : ms.length ≤ 40 := by rw [hms, List.length_map]; exact hl
    have hsc : ∀ r ∈ ms, isScalar r := by
      intro r h
      rw [hms] at h
      obtain ⟨n, _, rfl⟩ := List.mem_map.1 h
      obtain ⟨h1, h2⟩ := cleanR_valid n
      exact ⟨by omega, by omega, by omega⟩
    have c6' := c6 (x := xE) rfl rfl rfl rfl rfl rfl (show ms.length ≤ 100 by omega) hsc
    cases b
    · simp (disch := omega) only [go_sem, ↓reduceIte, Nat.reduceEqDiff, reduceCtorEq, Nat.reduceAdd, Nat.succ_ne_self, Nat.reduceSub, Nat.reduceLeDiff, Nat.reduceLT, Nat.reduceMul, Int.reduceLT, Int.reduceLE, Int.reduceAdd, Int.reduceSub, Int.reduceNeg, Int.reduceEq, Int.reduceToNat, Int.toNat_natCast, List.length_map, List.length_replicate, List.drop_zero, List.take_length, List.getElem?_cons_zero, List.getElem?_cons_succ, List.getElem?_nil, beq_self_eq_true, Bool.true_and, Bool.and_true, xw (x := xE) (f := 4) (ms := []) rfl rfl rfl, xw (x := xE) (f := 5) (ms := [.frozen]) rfl rfl rfl, xw (x := xE) (f := 6) (ms := [.frozen]) rfl rfl rfl, xw (x := xE) (f := 7) (ms := [.asis, .frozen, .asis, .asis, .asis, .frozen]) rfl rfl rfl, xw (x := xE) (f := 8) (ms := []) rfl rfl rfl, xw (x := xE) (f := 9) (ms := []) rfl rfl rfl, c4, c5f, c8, c9, x10, c6', c7p, c7q, hr, cls_ints, cls_runs, nmf, nmt, sold, eq_self]
      exact ⟨chk_ok (by kernel_rfl), chk_ok (by kernel_rfl), chk_ok (by kernel_rfl)⟩
    · simp (disch := omega) only [go_sem, ↓reduceIte, Nat.reduceEqDiff, reduceCtorEq, Nat.reduceAdd, Nat.succ_ne_self, Nat.reduceSub, Nat.reduceLeDiff, Nat.reduceLT, Nat.reduceMul, Int.reduceLT, Int.reduceLE, Int.reduceAdd, Int.reduceSub, Int.reduceNeg, Int.reduceEq, Int.reduceToNat, Int.toNat_natCast, List.length_map, List.length_replicate, List.drop_zero, List.take_length, List.getElem?_cons_zero, List.getElem?_cons_succ, List.getElem?_nil, beq_self_eq_true, Bool.true_and, Bool.and_true, xw (x := xE) (f := 4) (ms := []) rfl rfl rfl, xw (x := xE) (f := 5) (ms := [.frozen]) rfl rfl rfl, xw (x := xE) (f := 6) (ms := [.frozen]) rfl rfl rfl, xw (x := xE) (f := 7) (ms := [.asis, .frozen, .asis, .asis, .asis, .frozen]) rfl rfl rfl, xw (x := xE) (f := 8) (ms := []) rfl rfl rfl, xw (x := xE) (f := 9) (ms := []) rfl rfl rfl, c4, c5t, c8, c9, x10, c6', c7p, c7q, hr, cls_ints, cls_runs, nmf, nmt, sold, eq_self]
      exact ⟨chk_ok (by kernel_rfl), chk_ok (by kernel_rfl), chk_ok (by kernel_rfl)⟩
  · simp (disch := omega) only [go_sem, ↓reduceIte, Nat.reduceEqDiff, reduceCtorEq, Nat.reduceAdd, Nat.succ_ne_self, Nat.reduceSub, Nat.reduceLeDiff, Nat.reduceLT, Nat.reduceMul, Int.reduceLT, Int.reduceLE, Int.reduceAdd, Int.reduceSub, Int.reduceNeg, Int.reduceEq, Int.reduceToNat, Int.toNat_natCast, List.length_map, List.length_replicate, List.drop_zero, List.take_length, List.getElem?_cons_zero, List.getElem?_cons_succ, List.getElem?_nil, beq_self_eq_true, Bool.true_and, Bool.and_true]
end Go.V.NF
