/-
  The environment of this seat, facts of its types.
-/
import Derived.Test.YtbehbnmljjndiaaGreatDoorN1
import Derived.Test.YtbehbnmljjndiaaGreatDoorW3
set_option linter.unusedVariables false
set_option linter.unusedSimpArgs false
namespace Go.V.NF
open Go.Proofs
noncomputable def liveTab : Tab (List Nat) := .node (.node (.node .leaf 13000 [0, 1, 4, 6, 7] .leaf) 36000 [0, 1, 4, 5, 6] .leaf) 37000 [3, 5, 6] (.node .leaf 76000 [1, 4, 8, 9, 10] .leaf)
def modeTab : FuncId → List Mode := fun f => if f = 5 ∨ f = 6 ∨ f = 13 ∨ f = 14 ∨ f = 15 ∨ f = 37 ∨ f = 38 then [.frozen] else if f = 36 then [.frozen, .frozen] else if f = 7 then [.asis, .frozen, .asis, .asis, .asis, .frozen] else []
noncomputable def pol : Pol := { mode := modeTab, live := fun f k i => if k = 2 then liveTab.get (f * 1000 + i) else none, own := fun f => f == 12, nest := fun f => f == 132, mat := fun _ t => if t == 199 then [(6, 1), (7, 1)] else [] }
def tab : List (Bool × Int × Int × Int) := [(true, 0, 16777215, 0), (false, -1, 16777215, -1), (true, 1, 1000, 16), (true, 0, 7, 0), (true, 0, 1, 0), (false, 0, 4, 1), (false, 0, 4, 3), (false, 0, 3, 0), (true, 0, 2, 0), (false, 0, 1048576, 0), (false, 0, 1000, 0), (false, 0, 1000, 1), (false, -1, 1048576, -1), (false, 0, 1048576, 0), (false, 0, 1048576, 1048576), (false, 0, 1048576, 0), (false, 0, 1048576, 1048576), (false, 0, 1048576, 0), (false, 0, 1048576, 0), (false, 0, 1048576, 0), (false, 0, 1048576, 0), (true, 0, 1, 0)]
def propsV : AV := .agg (tab.flatMap fun p => [.bool p.1, .int .i64 p.2.1, .int .i64 p.2.2.1, .int .i64 p.2.2.2])
noncomputable def EX (x : FuncId → Option (List AV → HM AV)) : Env := { ty := tyTab.get, fn := fun f => (fnTab.get f).bind fiOf, glob := fun g => if g = 0 then some propsV else none, ext := x, pol := pol, eqs := fun t => t == 44 || t == 169, back := fun g => if g = 77 then some 3 else if g = 147 then some 226 else none }
section
variable {x : FuncId → Option (List AV → HM AV)}
theorem call_go {f : FuncId} {fn : Func} {c : Code} {rs : List ResultVar} {own : Bool} {k : Nat} {args : List AV} {tm : TM} {objs : List Ob} {Q : AV → List Ob → Prop} (h : fnTab.get f = some fn) (hb : fn.body = some c) (hr : fn.results.toList = rs) (ho : (EX x).pol.own f = own) (ht : paramsT 0 args = tm) (hk : objs.length = k)
    (hw : WE (EX x) f k none c tm objs (onEnd fun tm os => WFin (EX x) own rs k tm os Q ()) ()) : ∃ v os', callL (EX x) f args objs = some (v, os') ∧ Q v os' := by
  subst hr ho ht hk
  refine call_ok (fi := ⟨c, fn.ntmps, fn.results.toList⟩) ?_ hw
  show (fnTab.get f).bind fiOf = _
  rw [h, Option.bind_some, fiOf, hb]; rfl
@[go_sem] theorem live0 {f i} : (EX x).pol.live f 0 i = none := by kernel_rfl
@[go_sem] theorem live1 {f i} : (EX x).pol.live f 1 i = none := by kernel_rfl
@[go_sem] theorem live3 {f i} : (EX x).pol.live f 3 i = none := by kernel_rfl
@[go_sem] theorem live13 : (EX x).pol.live 13 2 0 = some [0, 1, 4, 6, 7] := by kernel_rfl
@[go_sem] theorem live13' : (EX x).pol.live 13 2 1 = none := by kernel_rfl
@[go_sem] theorem live36 : (EX x).pol.live 36 2 0 = some [0, 1, 4, 5, 6] := by kernel_rfl
@[go_sem] theorem live36' : (EX x).pol.live 36 2 1 = none := by kernel_rfl
@[go_sem] theorem live37 : (EX x).pol.live 37 2 0 = some [3, 5, 6] := by kernel_rfl
@[go_sem] theorem live37' : (EX x).pol.live 37 2 1 = none := by kernel_rfl
@[go_sem] theorem live76 : (EX x).pol.live 76 2 0 = some [1, 4, 8, 9, 10] := by kernel_rfl
@[go_sem] theorem live76' : (EX x).pol.live 76 2 1 = none := by kernel_rfl
@[go_sem] theorem live28 : (EX x).pol.live 28 2 0 = none := by kernel_rfl
theorem ext_eq {g} : (EX x).ext g = x g := rfl
theorem mode_eq {g} : (EX x).pol.mode g = modeTab g := rfl
@[go_sem] theorem ag42 {x} : isAggT (EX x) 42 = some (true, 2) := by kernel_rfl
@[go_sem] theorem al42 {x} : alT (EX x) 42 = some ((.agg [.nils, .nils]), 2) := by kernel_rfl
@[go_sem] theorem bd42 {x} : bdT (EX x) 42 = some ([(0, 22), (1, 40)], [.nils, .nils]) := by kernel_rfl
@[go_sem] theorem sz22 {x} : szT (EX x) 22 = some 1 := by kernel_rfl
@[go_sem] theorem sz40 {x} : szT (EX x) 40 = some 1 := by kernel_rfl
@[go_sem] theorem sz42 {x} : szT (EX x) 42 = some 2 := by kernel_rfl
@[go_sem] theorem lk71 {x} : lenK (EX x) 71 = .sl := by kernel_rfl
@[go_sem] theorem sr71 {x} : srcT (EX x) 71 = true := by kernel_rfl
@[go_sem] theorem isl71 {x} : isSlT (EX x) 71 = true := by kernel_rfl
@[go_sem] theorem es71 {x} : esize (EX x) 71 = some (3, 1) := by kernel_rfl
@[go_sem] theorem st71 {x} : slT (EX x) 71 = some 1 := by kernel_rfl
@[go_sem] theorem bs71 {x} : bsT (EX x) 71 = some (1, (.int .i64 0)) := by kernel_rfl
@[go_sem] theorem ap71 {x} : apT (EX x) 71 = some (1, 8) := by kernel_rfl
@[go_sem] theorem mk71 {x} : mkT (EX x) 71 = some (1, 8, (.int .i64 0)) := by kernel_rfl
@[go_sem] theorem lk22 {x} : lenK (EX x) 22 = .sl := by kernel_rfl
@[go_sem] theorem sr22 {x} : srcT (EX x) 22 = true := by kernel_rfl
@[go_sem] theorem isl22 {x} : isSlT (EX x) 22 = true := by kernel_rfl
@[go_sem] theorem es22 {x} : esize (EX x) 22 = some (21, 1) := by kernel_rfl
@[go_sem] theorem st22 {x} : slT (EX x) 22 = some 1 := by kernel_rfl
@[go_sem] theorem bs22 {x} : bsT (EX x) 22 = some (1, (.int .i32 0)) := by kernel_rfl
@[go_sem] theorem ap22 {x} : apT (EX x) 22 = some (1, 4) := by kernel_rfl
@[go_sem] theorem mk22 {x} : mkT (EX x) 22 = some (1, 4, (.int .i32 0)) := by kernel_rfl
@[go_sem] theorem ag21 {x} : isAggT (EX x) 21 = some (false, 1) := by kernel_rfl
@[go_sem] theorem sz3 {x} : szT (EX x) 3 = some 1 := by kernel_rfl
@[go_sem] theorem ag3 {x} : isAggT (EX x) 3 = some (false, 1) := by kernel_rfl
@[go_sem] theorem of42_1 {x} : offT (EX x) 42 1 = some 1 := by kernel_rfl
@[go_sem] theorem ag40 {x} : isAggT (EX x) 40 = some (false, 1) := by kernel_rfl
@[go_sem] theorem bd182 {x} : bdT (EX x) 182 = some ([(0, 3), (1, 3)], [(.int .i64 0), (.int .i64 0)]) := by kernel_rfl
@[go_sem] theorem lk40 {x} : lenK (EX x) 40 = .sl := by kernel_rfl
@[go_sem] theorem sr40 {x} : srcT (EX x) 40 = true := by kernel_rfl
@[go_sem] theorem isl40 {x} : isSlT (EX x) 40 = true := by kernel_rfl
@[go_sem] theorem es40 {x} : esize (EX x) 40 = some (182, 2) := by kernel_rfl
@[go_sem] theorem st40 {x} : slT (EX x) 40 = some 2 := by kernel_rfl
@[go_sem] theorem bs40 {x} : bsT (EX x) 40 = some (2, (.agg [(.int .i64 0), (.int .i64 0)])) := by kernel_rfl
@[go_sem] theorem ap40 {x} : apT (EX x) 40 = some (2, 16) := by kernel_rfl
@[go_sem] theorem mk40 {x} : mkT (EX x) 40 = some (2, 16, (.agg [(.int .i64 0), (.int .i64 0)])) := by kernel_rfl
@[go_sem] theorem of182_0 {x} : offT (EX x) 182 0 = some 0 := by kernel_rfl
@[go_sem] theorem sz56 {x} : szT (EX x) 56 = some 9 := by kernel_rfl
@[go_sem] theorem of56_0 {x} : offT (EX x) 56 0 = some 0 := by kernel_rfl
@[go_sem] theorem ag4 {x} : isAggT (EX x) 4 = some (false, 1) := by kernel_rfl
@[go_sem] theorem sz21 {x} : szT (EX x) 21 = some 1 := by kernel_rfl
@[go_sem] theorem of56_2 {x} : offT (EX x) 56 2 = some 2 := by kernel_rfl
@[go_sem] theorem ag56 {x} : isAggT (EX x) 56 = some (true, 9) := by kernel_rfl
@[go_sem] theorem ag52 {x} : isAggT (EX x) 52 = some (true, 19) := by kernel_rfl
@[go_sem] theorem al52 {x} : alT (EX x) 52 = some ((.agg [.nils, .nils, (.int .i64 0), (.int .i64 0), (.bool false), (.bool false), (.int .i64 0), (.int .i64 0), .nils, .nils, (.int .i64 0), (.int .i64 0), .nils, .nils, .nils, (.bool false), (.int .i64 0), (.int .i64 0), (.int .i64 0)]), 19) := by kernel_rfl
@[go_sem] theorem bd52 {x} : bdT (EX x) 52 = some ([(0, 42), (2, 44), (5, 47), (13, 50), (17, 3), (18, 3)], [.nils, .nils, (.int .i64 0), (.int .i64 0), (.bool false), (.bool false), (.int .i64 0), (.int .i64 0), .nils, .nils, (.int .i64 0), (.int .i64 0), .nils, .nils, .nils, (.bool false), (.int .i64 0), (.int .i64 0), (.int .i64 0)]) := by kernel_rfl
@[go_sem] theorem sz44 {x} : szT (EX x) 44 = some 3 := by kernel_rfl
@[go_sem] theorem sz47 {x} : szT (EX x) 47 = some 8 := by kernel_rfl
@[go_sem] theorem sz50 {x} : szT (EX x) 50 = some 4 := by kernel_rfl
@[go_sem] theorem sz52 {x} : szT (EX x) 52 = some 19 := by kernel_rfl
@[go_sem] theorem of42_0 {x} : offT (EX x) 42 0 = some 0 := by kernel_rfl
@[go_sem] theorem ag22 {x} : isAggT (EX x) 22 = some (false, 1) := by kernel_rfl
@[go_sem] theorem bd44 {x} : bdT (EX x) 44 = some ([(0, 3), (1, 3), (2, 4)], [(.int .i64 0), (.int .i64 0), (.bool false)]) := by kernel_rfl
@[go_sem] theorem sz4 {x} : szT (EX x) 4 = some 1 := by kernel_rfl
@[go_sem] theorem lk59 {x} : lenK (EX x) 59 = .sl := by kernel_rfl
@[go_sem] theorem sr59 {x} : srcT (EX x) 59 = true := by kernel_rfl
@[go_sem] theorem isl59 {x} : isSlT (EX x) 59 = true := by kernel_rfl
@[go_sem] theorem es59 {x} : esize (EX x) 59 = some (58, 21) := by kernel_rfl
@[go_sem] theorem st59 {x} : slT (EX x) 59 = some 21 := by kernel_rfl
@[go_sem] theorem bs59 {x} : bsT (EX x) 59 = some (21, (.agg [(.int .i64 0), (.str ⟨#[]⟩), .nils, .nils, (.int .i64 0), (.int .i64 0), (.bool false), (.bool false), (.int .i64 0), (.int .i64 0), .nils, .nils, (.int .i64 0), (.int .i64 0), .nils, .nils, .nils, (.bool false), (.int .i64 0), (.int .i64 0), (.int .i64 0)])) := by kernel_rfl
@[go_sem] theorem ap59 {x} : apT (EX x) 59 = some (21, 288) := by kernel_rfl
@[go_sem] theorem mk59 {x} : mkT (EX x) 59 = some (21, 288, (.agg [(.int .i64 0), (.str ⟨#[]⟩), .nils, .nils, (.int .i64 0), (.int .i64 0), (.bool false), (.bool false), (.int .i64 0), (.int .i64 0), .nils, .nils, (.int .i64 0), (.int .i64 0), .nils, .nils, .nils, (.bool false), (.int .i64 0), (.int .i64 0), (.int .i64 0)])) := by kernel_rfl
@[go_sem] theorem ag58 {x} : isAggT (EX x) 58 = some (true, 21) := by kernel_rfl
@[go_sem] theorem al58 {x} : alT (EX x) 58 = some ((.agg [(.int .i64 0), (.str ⟨#[]⟩), .nils, .nils, (.int .i64 0), (.int .i64 0), (.bool false), (.bool false), (.int .i64 0), (.int .i64 0), .nils, .nils, (.int .i64 0), (.int .i64 0), .nils, .nils, .nils, (.bool false), (.int .i64 0), (.int .i64 0), (.int .i64 0)]), 21) := by kernel_rfl
@[go_sem] theorem sz58 {x} : szT (EX x) 58 = some 21 := by kernel_rfl
@[go_sem] theorem of58_0 {x} : offT (EX x) 58 0 = some 0 := by kernel_rfl
@[go_sem] theorem of58_2 {x} : offT (EX x) 58 2 = some 2 := by kernel_rfl
@[go_sem] theorem sz91 {x} : szT (EX x) 91 = some 7 := by kernel_rfl
@[go_sem] theorem of73_2 {x} : offT (EX x) 73 2 = some 2 := by kernel_rfl
@[go_sem] theorem of91_4 {x} : offT (EX x) 91 4 = some 4 := by kernel_rfl
@[go_sem] theorem ag29 {x} : isAggT (EX x) 29 = some (false, 1) := by kernel_rfl
@[go_sem] theorem of73_8 {x} : offT (EX x) 73 8 = some 8 := by kernel_rfl
@[go_sem] theorem of91_2 {x} : offT (EX x) 91 2 = some 2 := by kernel_rfl
@[go_sem] theorem of73_9 {x} : offT (EX x) 73 9 = some 9 := by kernel_rfl
@[go_sem] theorem of73_10 {x} : offT (EX x) 73 10 = some 10 := by kernel_rfl
@[go_sem] theorem of73_11 {x} : offT (EX x) 73 11 = some 11 := by kernel_rfl
@[go_sem] theorem of73_5 {x} : offT (EX x) 73 5 = some 5 := by kernel_rfl
@[go_sem] theorem sz9 {x} : szT (EX x) 9 = some 1 := by kernel_rfl
@[go_sem] theorem of91_0 {x} : offT (EX x) 91 0 = some 0 := by kernel_rfl
@[go_sem] theorem of52_0 {x} : offT (EX x) 52 0 = some 0 := by kernel_rfl
@[go_sem] theorem cv22_9 {x} : convK (EX x) 22 9 = .runesStr := by kernel_rfl
@[go_sem] theorem of52_1 {x} : offT (EX x) 52 1 = some 2 := by kernel_rfl
@[go_sem] theorem ag44 {x} : isAggT (EX x) 44 = some (true, 3) := by kernel_rfl
@[go_sem] theorem of73_14 {x} : offT (EX x) 73 14 = some 17 := by kernel_rfl
@[go_sem] theorem ag62 {x} : isAggT (EX x) 62 = some (true, 2) := by kernel_rfl
@[go_sem] theorem sz32 {x} : szT (EX x) 32 = some 3 := by kernel_rfl
@[go_sem] theorem sz67 {x} : szT (EX x) 67 = some 2 := by kernel_rfl
@[go_sem] theorem al62 {x} : alT (EX x) 62 = some ((.agg [.nils, (.int .i64 0)]), 2) := by kernel_rfl
@[go_sem] theorem ag32 {x} : isAggT (EX x) 32 = some (true, 3) := by kernel_rfl
@[go_sem] theorem al87 {x} : alT (EX x) 87 = some ((.agg [(.int .i64 0), (.int .i64 0), .nils, .nils, .nilm, .nilm]), 6) := by kernel_rfl
@[go_sem] theorem sz87 {x} : szT (EX x) 87 = some 6 := by kernel_rfl
@[go_sem] theorem al71 {x} : alT (EX x) 71 = some (.nils, 1) := by kernel_rfl
@[go_sem] theorem sz71 {x} : szT (EX x) 71 = some 1 := by kernel_rfl
@[go_sem] theorem ag71 {x} : isAggT (EX x) 71 = some (false, 1) := by kernel_rfl
@[go_sem] theorem al91 {x} : alT (EX x) 91 = some ((.agg [(.int .i64 0), (.int .i64 0), (.int .i64 0), (.str ⟨#[]⟩), .nils, .nils, .nils]), 7) := by kernel_rfl
@[go_sem] theorem ag87 {x} : isAggT (EX x) 87 = some (true, 6) := by kernel_rfl
@[go_sem] theorem bd73 {x} : bdT (EX x) 73 = some ([(0, 3), (1, 3), (2, 3), (3, 9), (4, 9), (5, 9), (6, 3), (7, 3), (8, 3), (9, 3), (10, 3), (11, 3), (12, 3), (13, 69), (17, 44), (20, 70), (21, 71)], [(.int .i64 0), (.int .i64 0), (.int .i64 0), (.str ⟨#[]⟩), (.str ⟨#[]⟩), (.str ⟨#[]⟩), (.int .i64 0), (.int .i64 0), (.int .i64 0), (.int .i64 0), (.int .i64 0), (.int .i64 0), (.int .i64 0), (.int .i64 0), (.int .i64 0), (.int .i64 0), (.int .i64 0), (.int .i64 0), (.int .i64 0), (.bool false), .nils, .nils]) := by kernel_rfl
@[go_sem] theorem sz69 {x} : szT (EX x) 69 = some 4 := by kernel_rfl
@[go_sem] theorem sz70 {x} : szT (EX x) 70 = some 1 := by kernel_rfl
@[go_sem] theorem al73 {x} : alT (EX x) 73 = some ((.agg [(.int .i64 0), (.int .i64 0), (.int .i64 0), (.str ⟨#[]⟩), (.str ⟨#[]⟩), (.str ⟨#[]⟩), (.int .i64 0), (.int .i64 0), (.int .i64 0), (.int .i64 0), (.int .i64 0), (.int .i64 0), (.int .i64 0), (.int .i64 0), (.int .i64 0), (.int .i64 0), (.int .i64 0), (.int .i64 0), (.int .i64 0), (.bool false), .nils, .nils]), 22) := by kernel_rfl
@[go_sem] theorem sz73 {x} : szT (EX x) 73 = some 22 := by kernel_rfl
@[go_sem] theorem ag67 {x} : isAggT (EX x) 67 = some (true, 2) := by kernel_rfl
@[go_sem] theorem of73_6 {x} : offT (EX x) 73 6 = some 6 := by kernel_rfl
@[go_sem] theorem of73_7 {x} : offT (EX x) 73 7 = some 7 := by kernel_rfl
@[go_sem] theorem ag91 {x} : isAggT (EX x) 91 = some (true, 7) := by kernel_rfl
@[go_sem] theorem of73_12 {x} : offT (EX x) 73 12 = some 12 := by kernel_rfl
@[go_sem] theorem lk83 {x} : lenK (EX x) 83 = .sl := by kernel_rfl
@[go_sem] theorem sr83 {x} : srcT (EX x) 83 = true := by kernel_rfl
@[go_sem] theorem isl83 {x} : isSlT (EX x) 83 = true := by kernel_rfl
@[go_sem] theorem es83 {x} : esize (EX x) 83 = some (101, 7) := by kernel_rfl
@[go_sem] theorem st83 {x} : slT (EX x) 83 = some 7 := by kernel_rfl
@[go_sem] theorem bs83 {x} : bsT (EX x) 83 = some (7, (.agg [(.int .i64 0), (.int .i64 0), (.int .i64 0), (.int .i64 0), (.int .i64 0), (.int .i64 0), .nils])) := by kernel_rfl
@[go_sem] theorem ap83 {x} : apT (EX x) 83 = some (7, 72) := by kernel_rfl
@[go_sem] theorem mk83 {x} : mkT (EX x) 83 = some (7, 72, (.agg [(.int .i64 0), (.int .i64 0), (.int .i64 0), (.int .i64 0), (.int .i64 0), (.int .i64 0), .nils])) := by kernel_rfl
@[go_sem] theorem ag101 {x} : isAggT (EX x) 101 = some (true, 7) := by kernel_rfl
@[go_sem] theorem al101 {x} : alT (EX x) 101 = some ((.agg [(.int .i64 0), (.int .i64 0), (.int .i64 0), (.int .i64 0), (.int .i64 0), (.int .i64 0), .nils]), 7) := by kernel_rfl
@[go_sem] theorem sz101 {x} : szT (EX x) 101 = some 7 := by kernel_rfl
@[go_sem] theorem of101_0 {x} : offT (EX x) 101 0 = some 0 := by kernel_rfl
@[go_sem] theorem of101_1 {x} : offT (EX x) 101 1 = some 1 := by kernel_rfl
@[go_sem] theorem of69_2 {x} : offT (EX x) 69 2 = some 2 := by kernel_rfl
@[go_sem] theorem of69_3 {x} : offT (EX x) 69 3 = some 3 := by kernel_rfl
@[go_sem] theorem bd69 {x} : bdT (EX x) 69 = some ([(0, 3), (1, 3), (2, 3), (3, 3)], [(.int .i64 0), (.int .i64 0), (.int .i64 0), (.int .i64 0)]) := by kernel_rfl
@[go_sem] theorem of73_13 {x} : offT (EX x) 73 13 = some 13 := by kernel_rfl
@[go_sem] theorem of73_15 {x} : offT (EX x) 73 15 = some 20 := by kernel_rfl
@[go_sem] theorem of73_16 {x} : offT (EX x) 73 16 = some 21 := by kernel_rfl
@[go_sem] theorem of62_0 {x} : offT (EX x) 62 0 = some 0 := by kernel_rfl
@[go_sem] theorem ag60 {x} : isAggT (EX x) 60 = some (false, 1) := by kernel_rfl
@[go_sem] theorem ag73 {x} : isAggT (EX x) 73 = some (true, 22) := by kernel_rfl
@[go_sem] theorem lk60 {x} : lenK (EX x) 60 = .sl := by kernel_rfl
@[go_sem] theorem sr60 {x} : srcT (EX x) 60 = true := by kernel_rfl
@[go_sem] theorem isl60 {x} : isSlT (EX x) 60 = true := by kernel_rfl
@[go_sem] theorem es60 {x} : esize (EX x) 60 = some (73, 22) := by kernel_rfl
@[go_sem] theorem st60 {x} : slT (EX x) 60 = some 22 := by kernel_rfl
@[go_sem] theorem bs60 {x} : bsT (EX x) 60 = some (22, (.agg [(.int .i64 0), (.int .i64 0), (.int .i64 0), (.str ⟨#[]⟩), (.str ⟨#[]⟩), (.str ⟨#[]⟩), (.int .i64 0), (.int .i64 0), (.int .i64 0), (.int .i64 0), (.int .i64 0), (.int .i64 0), (.int .i64 0), (.int .i64 0), (.int .i64 0), (.int .i64 0), (.int .i64 0), (.int .i64 0), (.int .i64 0), (.bool false), .nils, .nils])) := by kernel_rfl
@[go_sem] theorem ap60 {x} : apT (EX x) 60 = some (22, 232) := by kernel_rfl
@[go_sem] theorem mk60 {x} : mkT (EX x) 60 = some (22, 232, (.agg [(.int .i64 0), (.int .i64 0), (.int .i64 0), (.str ⟨#[]⟩), (.str ⟨#[]⟩), (.str ⟨#[]⟩), (.int .i64 0), (.int .i64 0), (.int .i64 0), (.int .i64 0), (.int .i64 0), (.int .i64 0), (.int .i64 0), (.int .i64 0), (.int .i64 0), (.int .i64 0), (.int .i64 0), (.int .i64 0), (.int .i64 0), (.bool false), .nils, .nils])) := by kernel_rfl
@[go_sem] theorem sz60 {x} : szT (EX x) 60 = some 1 := by kernel_rfl
@[go_sem] theorem of62_1 {x} : offT (EX x) 62 1 = some 1 := by kernel_rfl
@[go_sem] theorem sz62 {x} : szT (EX x) 62 = some 2 := by kernel_rfl
@[go_sem] theorem cv9_22 {x} : convK (EX x) 9 22 = .strRunes := by kernel_rfl
@[go_sem] theorem bd28 {x} : bdT (EX x) 28 = some ([(0, 9), (1, 25)], [(.str ⟨#[]⟩), (.int .i64 0), (.int .i64 0), (.str ⟨#[]⟩), .nils]) := by kernel_rfl
@[go_sem] theorem sz25 {x} : szT (EX x) 25 = some 4 := by kernel_rfl
@[go_sem] theorem lk29 {x} : lenK (EX x) 29 = .sl := by kernel_rfl
@[go_sem] theorem sr29 {x} : srcT (EX x) 29 = true := by kernel_rfl
@[go_sem] theorem isl29 {x} : isSlT (EX x) 29 = true := by kernel_rfl
@[go_sem] theorem es29 {x} : esize (EX x) 29 = some (28, 5) := by kernel_rfl
@[go_sem] theorem st29 {x} : slT (EX x) 29 = some 5 := by kernel_rfl
@[go_sem] theorem bs29 {x} : bsT (EX x) 29 = some (5, (.agg [(.str ⟨#[]⟩), (.int .i64 0), (.int .i64 0), (.str ⟨#[]⟩), .nils])) := by kernel_rfl
@[go_sem] theorem ap29 {x} : apT (EX x) 29 = some (5, 72) := by kernel_rfl
@[go_sem] theorem mk29 {x} : mkT (EX x) 29 = some (5, 72, (.agg [(.str ⟨#[]⟩), (.int .i64 0), (.int .i64 0), (.str ⟨#[]⟩), .nils])) := by kernel_rfl
@[go_sem] theorem bd39 {x} : bdT (EX x) 39 = some ([(0, 3), (1, 9), (2, 29), (3, 36), (4, 37)], [(.int .i64 0), (.str ⟨#[]⟩), .nils, .nils, .nils]) := by kernel_rfl
@[go_sem] theorem sz29 {x} : szT (EX x) 29 = some 1 := by kernel_rfl
@[go_sem] theorem sz36 {x} : szT (EX x) 36 = some 1 := by kernel_rfl
@[go_sem] theorem sz37 {x} : szT (EX x) 37 = some 1 := by kernel_rfl
@[go_sem] theorem lk37 {x} : lenK (EX x) 37 = .sl := by kernel_rfl
@[go_sem] theorem sr37 {x} : srcT (EX x) 37 = true := by kernel_rfl
@[go_sem] theorem isl37 {x} : isSlT (EX x) 37 = true := by kernel_rfl
@[go_sem] theorem es37 {x} : esize (EX x) 37 = some (39, 5) := by kernel_rfl
@[go_sem] theorem st37 {x} : slT (EX x) 37 = some 5 := by kernel_rfl
@[go_sem] theorem bs37 {x} : bsT (EX x) 37 = some (5, (.agg [(.int .i64 0), (.str ⟨#[]⟩), .nils, .nils, .nils])) := by kernel_rfl
@[go_sem] theorem ap37 {x} : apT (EX x) 37 = some (5, 96) := by kernel_rfl
@[go_sem] theorem mk37 {x} : mkT (EX x) 37 = some (5, 96, (.agg [(.int .i64 0), (.str ⟨#[]⟩), .nils, .nils, .nils])) := by kernel_rfl
@[go_sem] theorem al32 {x} : alT (EX x) 32 = some ((.agg [(.int .i64 0), (.int .i64 0), .nils]), 3) := by kernel_rfl
@[go_sem] theorem bd56 {x} : bdT (EX x) 56 = some ([(0, 4), (1, 4), (2, 3), (3, 3), (4, 3), (5, 3), (6, 3), (7, 3), (8, 3)], [(.bool false), (.bool false), (.int .i64 0), (.int .i64 0), (.int .i64 0), (.int .i64 0), (.int .i64 0), (.int .i64 0), (.int .i64 0)]) := by kernel_rfl
@[go_sem] theorem cv5_3 {x} : convK (EX x) 5 3 = .toInt .i64 := by kernel_rfl
@[go_sem] theorem bd58 {x} : bdT (EX x) 58 = some ([(0, 3), (1, 9), (2, 52)], [(.int .i64 0), (.str ⟨#[]⟩), .nils, .nils, (.int .i64 0), (.int .i64 0), (.bool false), (.bool false), (.int .i64 0), (.int .i64 0), .nils, .nils, (.int .i64 0), (.int .i64 0), .nils, .nils, .nils, (.bool false), (.int .i64 0), (.int .i64 0), (.int .i64 0)]) := by kernel_rfl
@[go_sem] theorem bd67 {x} : bdT (EX x) 67 = some ([(0, 3), (1, 3)], [(.int .i64 0), (.int .i64 0)]) := by kernel_rfl
@[go_sem] theorem ag9 {x} : isAggT (EX x) 9 = some (false, 1) := by kernel_rfl
@[go_sem] theorem of73_3 {x} : offT (EX x) 73 3 = some 3 := by kernel_rfl
@[go_sem] theorem of32_2 {x} : offT (EX x) 32 2 = some 2 := by kernel_rfl
@[go_sem] theorem ag30 {x} : isAggT (EX x) 30 = some (false, 1) := by kernel_rfl
@[go_sem] theorem lk30 {x} : lenK (EX x) 30 = .sl := by kernel_rfl
@[go_sem] theorem sr30 {x} : srcT (EX x) 30 = true := by kernel_rfl
@[go_sem] theorem isl30 {x} : isSlT (EX x) 30 = true := by kernel_rfl
@[go_sem] theorem es30 {x} : esize (EX x) 30 = some (91, 7) := by kernel_rfl
@[go_sem] theorem st30 {x} : slT (EX x) 30 = some 7 := by kernel_rfl
@[go_sem] theorem bs30 {x} : bsT (EX x) 30 = some (7, (.agg [(.int .i64 0), (.int .i64 0), (.int .i64 0), (.str ⟨#[]⟩), .nils, .nils, .nils])) := by kernel_rfl
@[go_sem] theorem ap30 {x} : apT (EX x) 30 = some (7, 112) := by kernel_rfl
@[go_sem] theorem mk30 {x} : mkT (EX x) 30 = some (7, 112, (.agg [(.int .i64 0), (.int .i64 0), (.int .i64 0), (.str ⟨#[]⟩), .nils, .nils, .nils])) := by kernel_rfl
@[go_sem] theorem bd115 {x} : bdT (EX x) 115 = some ([(0, 3), (1, 112)], [(.int .i64 0), (.int .i64 0), (.int .i64 0), (.int .i64 0), (.int .i64 0), (.int .i64 0), (.int .i64 0), (.int .i64 0), (.int .i64 0), (.int .i64 0), (.int .i64 0), (.int .i64 0), (.int .i64 0), (.int .i64 0), (.int .i64 0), (.int .i64 0), (.int .i64 0), (.int .i64 0), (.int .i64 0), (.int .i64 0), (.int .i64 0), (.int .i64 0), (.int .i64 0)]) := by kernel_rfl
@[go_sem] theorem sz112 {x} : szT (EX x) 112 = some 22 := by kernel_rfl
@[go_sem] theorem lk64 {x} : lenK (EX x) 64 = .sl := by kernel_rfl
@[go_sem] theorem sr64 {x} : srcT (EX x) 64 = true := by kernel_rfl
@[go_sem] theorem isl64 {x} : isSlT (EX x) 64 = true := by kernel_rfl
@[go_sem] theorem es64 {x} : esize (EX x) 64 = some (115, 23) := by kernel_rfl
@[go_sem] theorem st64 {x} : slT (EX x) 64 = some 23 := by kernel_rfl
@[go_sem] theorem bs64 {x} : bsT (EX x) 64 = some (23, (.agg [(.int .i64 0), (.int .i64 0), (.int .i64 0), (.int .i64 0), (.int .i64 0), (.int .i64 0), (.int .i64 0), (.int .i64 0), (.int .i64 0), (.int .i64 0), (.int .i64 0), (.int .i64 0), (.int .i64 0), (.int .i64 0), (.int .i64 0), (.int .i64 0), (.int .i64 0), (.int .i64 0), (.int .i64 0), (.int .i64 0), (.int .i64 0), (.int .i64 0), (.int .i64 0)])) := by kernel_rfl
@[go_sem] theorem ap64 {x} : apT (EX x) 64 = some (23, 184) := by kernel_rfl
@[go_sem] theorem mk64 {x} : mkT (EX x) 64 = some (23, 184, (.agg [(.int .i64 0), (.int .i64 0), (.int .i64 0), (.int .i64 0), (.int .i64 0), (.int .i64 0), (.int .i64 0), (.int .i64 0), (.int .i64 0), (.int .i64 0), (.int .i64 0), (.int .i64 0), (.int .i64 0), (.int .i64 0), (.int .i64 0), (.int .i64 0), (.int .i64 0), (.int .i64 0), (.int .i64 0), (.int .i64 0), (.int .i64 0), (.int .i64 0), (.int .i64 0)])) := by kernel_rfl
@[go_sem] theorem ag25 {x} : isAggT (EX x) 25 = some (true, 4) := by kernel_rfl
@[go_sem] theorem al25 {x} : alT (EX x) 25 = some ((.agg [(.int .i64 0), (.int .i64 0), (.str ⟨#[]⟩), .nils]), 4) := by kernel_rfl
@[go_sem] theorem bd25 {x} : bdT (EX x) 25 = some ([(0, 3), (1, 3), (2, 9), (3, 23)], [(.int .i64 0), (.int .i64 0), (.str ⟨#[]⟩), .nils]) := by kernel_rfl
@[go_sem] theorem sz23 {x} : szT (EX x) 23 = some 1 := by kernel_rfl
@[go_sem] theorem lk9 {x} : lenK (EX x) 9 = .str := by kernel_rfl
@[go_sem] theorem sr9 {x} : srcT (EX x) 9 = true := by kernel_rfl
@[go_sem] theorem ist9 {x} : isStrT (EX x) 9 = true := by kernel_rfl
@[go_sem] theorem lk70 {x} : lenK (EX x) 70 = .sl := by kernel_rfl
@[go_sem] theorem sr70 {x} : srcT (EX x) 70 = true := by kernel_rfl
@[go_sem] theorem isl70 {x} : isSlT (EX x) 70 = true := by kernel_rfl
@[go_sem] theorem es70 {x} : esize (EX x) 70 = some (169, 2) := by kernel_rfl
@[go_sem] theorem st70 {x} : slT (EX x) 70 = some 2 := by kernel_rfl
@[go_sem] theorem bs70 {x} : bsT (EX x) 70 = some (2, (.agg [(.int .i64 0), (.int .i64 0)])) := by kernel_rfl
@[go_sem] theorem ap70 {x} : apT (EX x) 70 = some (2, 16) := by kernel_rfl
@[go_sem] theorem mk70 {x} : mkT (EX x) 70 = some (2, 16, (.agg [(.int .i64 0), (.int .i64 0)])) := by kernel_rfl
@[go_sem] theorem lk84 {x} : lenK (EX x) 84 = .sl := by kernel_rfl
@[go_sem] theorem sr84 {x} : srcT (EX x) 84 = true := by kernel_rfl
@[go_sem] theorem isl84 {x} : isSlT (EX x) 84 = true := by kernel_rfl
@[go_sem] theorem es84 {x} : esize (EX x) 84 = some (226, 2) := by kernel_rfl
@[go_sem] theorem st84 {x} : slT (EX x) 84 = some 2 := by kernel_rfl
@[go_sem] theorem bs84 {x} : bsT (EX x) 84 = some (2, (.agg [(.int .i64 0), (.int .i64 0)])) := by kernel_rfl
@[go_sem] theorem ap84 {x} : apT (EX x) 84 = some (2, 16) := by kernel_rfl
@[go_sem] theorem mk84 {x} : mkT (EX x) 84 = some (2, 16, (.agg [(.int .i64 0), (.int .i64 0)])) := by kernel_rfl
@[go_sem] theorem lk112 {x} : lenK (EX x) 112 = .arr 22 := by kernel_rfl
@[go_sem] theorem ne13 : (EX x).pol.nest 13 = false := by kernel_rfl
@[go_sem] theorem ne36 : (EX x).pol.nest 36 = false := by kernel_rfl
@[go_sem] theorem ne37 : (EX x).pol.nest 37 = false := by kernel_rfl
@[go_sem] theorem ne38 : (EX x).pol.nest 38 = false := by kernel_rfl
@[go_sem] theorem ne15 : (EX x).pol.nest 15 = false := by kernel_rfl
@[go_sem] theorem ne6 : (EX x).pol.nest 6 = false := by kernel_rfl
@[go_sem] theorem ne76 : (EX x).pol.nest 76 = false := by kernel_rfl
@[go_sem] theorem ne28 : (EX x).pol.nest 28 = false := by kernel_rfl
@[go_sem] theorem ne7 : (EX x).pol.nest 7 = false := by kernel_rfl
@[go_sem] theorem ne3 : (EX x).pol.nest 3 = false := by kernel_rfl
@[go_sem] theorem ne8 : (EX x).pol.nest 8 = false := by kernel_rfl
@[go_sem] theorem ne4 : (EX x).pol.nest 4 = false := by kernel_rfl
@[go_sem] theorem ne35 : (EX x).pol.nest 35 = false := by kernel_rfl
@[go_sem] theorem ma22 {f} : (EX x).pol.mat f 22 = [] := by kernel_rfl
@[go_sem] theorem ma25 {f} : (EX x).pol.mat f 25 = [] := by kernel_rfl
@[go_sem] theorem ma28 {f} : (EX x).pol.mat f 28 = [] := by kernel_rfl
@[go_sem] theorem ma31 {f} : (EX x).pol.mat f 31 = [] := by kernel_rfl
@[go_sem] theorem ma32 {f} : (EX x).pol.mat f 32 = [] := by kernel_rfl
@[go_sem] theorem ma42 {f} : (EX x).pol.mat f 42 = [] := by kernel_rfl
@[go_sem] theorem ma44 {f} : (EX x).pol.mat f 44 = [] := by kernel_rfl
@[go_sem] theorem ma52 {f} : (EX x).pol.mat f 52 = [] := by kernel_rfl
@[go_sem] theorem ma56 {f} : (EX x).pol.mat f 56 = [] := by kernel_rfl
@[go_sem] theorem ma58 {f} : (EX x).pol.mat f 58 = [] := by kernel_rfl
@[go_sem] theorem ma62 {f} : (EX x).pol.mat f 62 = [] := by kernel_rfl
@[go_sem] theorem ma67 {f} : (EX x).pol.mat f 67 = [] := by kernel_rfl
@[go_sem] theorem ma71 {f} : (EX x).pol.mat f 71 = [] := by kernel_rfl
@[go_sem] theorem ma73 {f} : (EX x).pol.mat f 73 = [] := by kernel_rfl
@[go_sem] theorem ma87 {f} : (EX x).pol.mat f 87 = [] := by kernel_rfl
@[go_sem] theorem ma91 {f} : (EX x).pol.mat f 91 = [] := by kernel_rfl
@[go_sem] theorem ma101 {f} : (EX x).pol.mat f 101 = [] := by kernel_rfl
end
end Go.V.NF
