/-
  The values that the law builds; its sanity check holds.
-/
import Derived.Test.YtbehbnmljjndiaaGreatDoorN4
set_option linter.unusedVariables false
set_option linter.unusedSimpArgs false
namespace Go.V.NF
open Go.Proofs
def at5 (n s : ByteArray) : AV := .agg [.str n, .int .i64 3, .int .i64 0, .str s, .sl []]
def sText : ByteArray := ⟨#[116, 101, 120, 116]⟩
def sOld : ByteArray := ⟨#[111, 108, 100]⟩
def sPlace : ByteArray := ⟨#[112, 108, 97, 99, 101, 104, 111, 108, 100, 101, 114]⟩
def sMail : ByteArray := ⟨#[77, 97, 105, 108]⟩
def attrsV (b : Bool) : List AV := if b then [at5 sPlace sMail, at5 sText sOld] else [at5 sText sOld]
def viewV (b : Bool) : AV := .agg [.int .i64 1, .str ⟨#[]⟩, .sl [], .sl [], .sl [.agg [.int .i64 4, .str ⟨#[]⟩, .sl (attrsV b), .sl [], .sl []]]]
def nodeV (b : Bool) (i : Bool) : AV := if i then .agg [.int .i64 2, .int .i64 1, .int .i64 4, .str ⟨#[]⟩, .sl (attrsV b), .sl [], .sl []] else .agg [.int .i64 1, .int .i64 0, .int .i64 1, .str ⟨#[]⟩, .sl [], .sl [], .sl [.int .i64 2]]
def treeC (b : Bool) : List AV := [.int .i64 1, .int .i64 3, .sl [nodeV b false, nodeV b true]]
def treeV (b : Bool) : AV := .agg (treeC b)
def styV (i : Int) : AV := .agg [.int .i64 i, .int .i64 0, .int .i64 (-1), .int .i64 16, .int .i64 0, .int .i64 0, .int .i64 1, .int .i64 3, .int .i64 0, .int .i64 0, .int .i64 0, .int .i64 0, .int .i64 1, .int .i64 (-1), .int .i64 0, .int .i64 1048576, .int .i64 0, .int .i64 1048576, .int .i64 0, .int .i64 0, .int .i64 0, .int .i64 0, .int .i64 0]
def stV : AV := .sl [styV 1, styV 2]
def mapV : Ob := .map [(.int .i64 1, .bool true), (.int .i64 2, .bool true)] .mine
def spV (b : Bool) (m0 m1 : Nat) : AV := .agg (treeC b ++ [stV, .mp m0, .mp m1])
abbrev I (n : Int) : AV := .int .i64 n
def idV (i : Bool) : AV := if i then I 2 else I 1
def nameV (b i : Bool) : ByteArray := if b && i then sMail else ⟨#[]⟩
def flagsV (i foc : Bool) : Int := if i then if foc then 67 else 65 else 64
def actV (i : Bool) : Int := if i then 50 else 0
def zz : AV := .agg [I 0, I 0]
theorem k10 : callN EL 2000 10 [] [] = some (.bool true, []) := by kernel_rfl
end Go.V.NF
