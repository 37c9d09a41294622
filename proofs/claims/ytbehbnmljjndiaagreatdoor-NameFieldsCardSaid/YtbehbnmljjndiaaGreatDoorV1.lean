/-
  Values as data, objects of a frame, an evaluator over them, and how these lie in the machine.
-/
import GoSem.Dispatch
import Derived.Laws.Cover4
import Derived.Orders
import Derived.Calls
set_option linter.unusedVariables false
set_option linter.unusedSimpArgs false
namespace Go.V

/-- Abstract values: what a slot of a frame or a cell holds, read as data. `sl`: a slice whose array never changes any more; `arr`, `ptr`, `ep`, `mp`: references to objects of the frame (`ext`: the length that the array had when the reference was taken; another length now: the reference is stale). `lsl`: a slice that is lent for reading; `gone`: nothing is known. -/
inductive AV where
  | int (k : IntKind) (n : Int)
  | bool (b : Bool)
  | str (s : ByteArray)
  | agg (cs : List AV)
  | sl (es : List AV)
  | nils
  | arr (o off len ext : Nat)
  | ptr (o i : Nat)
  | ep (o j i ext : Nat)
  | fp (e : AV) (i : Nat)
  | nilp
  | mp (o : Nat)
  | nilm
  | fn (f : FuncId) (caps : List AV)
  | nilf
  | tup (vs : List AV)
  | stamp (o j : Nat)
  | und
  | any
  | lsl (es : List AV)
  | gone
  deriving Inhabited

/-- Who may turn an object: its frame; nobody any more; somebody else (it is lent for reading). -/
inductive Lk where
  | mine | frozen | lent
  deriving DecidableEq, Inhabited, Repr

/-- Objects of a frame: a variable, an array (its elements, each of `size` cells), a map. `dead`: what refers to it is not known any more; `free`: nothing refers to it. -/
inductive Ob where
  | var (e : AV) (size : Nat) (lk : Lk)
  | row (es : List AV) (size : Nat) (lk : Lk)
  | map (ents : List (AV × AV)) (lk : Lk)
  | dead
  | free
  deriving Inhabited

inductive TyD where
  | int (k : IntKind) | bool | string
  | slice (e : TypeId) | array (n : Nat) (e : TypeId) | struct (fs : List (Nat × TypeId))
  | map (k e : TypeId) | pointer (e : TypeId) | func | other
  deriving Inhabited

structure TyI where
  d : TyD
  size : Nat
  bytes : Nat
  zero : Option AV
  deriving Inhabited

structure FnI where
  code : Code
  ntmps : Nat
  results : List ResultVar
  deriving Inhabited

/-- How an argument is handed over: as it is; lent for reading; given up for good. -/
inductive Mode where
  | asis | lent | frozen
  deriving DecidableEq, Inhabited, Repr

structure Pol where
  mode : FuncId → List Mode := fun _ => []
  live : FuncId → Nat → Nat → Option (List Nat) := fun _ _ _ => none   -- the slots that are read later: 0: of a test, 1: behind it, 2: of a loop's round, 3: behind a block
  own : FuncId → Bool := fun _ => false
  nest : FuncId → Bool := fun _ => false
  mat : FuncId → TypeId → List (Nat × Nat) := fun _ _ => []   -- cells of variables in which a nil slice is an empty array of its own

def AV.cells : AV → List AV
  | .agg cs => cs
  | v => [v]

def ofConst : Value → AV
  | .bool b => .bool b
  | .int k n => .int k n
  | .string s => .str s
  | .pointer none => .nilp
  | .slice none 0 0 => .nils
  | .map none => .nilm
  | .nilFunc => .nilf
  | _ => .gone

mutual
/-- The objects that a value refers to. -/
def AV.refs : AV → List Nat
  | .agg cs => AV.refsL cs
  | .arr o _ _ _ => [o]
  | .ptr o _ => [o]
  | .ep o _ _ _ => [o]
  | .mp o => [o]
  | .stamp o _ => [o]
  | .fn _ caps => AV.refsL caps
  | .tup vs => AV.refsL vs
  | _ => []
def AV.refsL : List AV → List Nat
  | [] => []
  | v :: vs => v.refs ++ AV.refsL vs
end

mutual
/-- Data that leads nowhere that can be turned. -/
def AV.cls : AV → Bool
  | .int _ _ => true
  | .bool _ => true
  | .str _ => true
  | .nilp => true
  | .nilm => true
  | .nilf => true
  | .nils => true
  | .any => true
  | .sl es => AV.clsL es
  | .agg cs => AV.clsL cs
  | .fn _ caps => caps.isEmpty
  | _ => false
def AV.clsL : List AV → Bool
  | [] => true
  | v :: vs => v.cls && AV.clsL vs
end
mutual
/-- The objects' numbers are turned. `x`: the value leaves its frame: what was lent to the frame is not known any more. -/
def AV.rn (x : Bool) (m : Nat → Option Nat) : AV → AV
  | .agg cs => .agg (AV.rnL x m cs)
  | .arr o off len ext => match m o with | some o' => .arr o' off len ext | none => .any
  | .ptr o i => match m o with | some o' => .ptr o' i | none => .any
  | .ep o j i ext => match m o with | some o' => .ep o' j i ext | none => .any
  | .mp o => match m o with | some o' => .mp o' | none => .any
  | .stamp o k => match m o with | some o' => .stamp o' k | none => .any
  | .fn f caps => .fn f (AV.rnL x m caps)
  | .tup vs => .tup (AV.rnL x m vs)
  | .lsl es => if x then .any else .lsl es
  | .fp e i => if x then .any else .fp e i
  | v => v
def AV.rnL (x : Bool) (m : Nat → Option Nat) : List AV → List AV
  | [] => []
  | v :: vs => v.rn x m :: AV.rnL x m vs
end

def refsV : List (AV × AV) → List Nat
  | [] => []
  | e :: r => e.2.refs ++ refsV r
def Ob.refs : Ob → List Nat
  | .var e _ _ => e.refs
  | .row es _ _ => AV.refsL es
  | .map ents _ => refsV ents
  | _ => []

def rnV (x : Bool) (m : Nat → Option Nat) : List (AV × AV) → List (AV × AV)
  | [] => []
  | e :: r => (e.1, e.2.rn x m) :: rnV x m r
def Ob.rn (x : Bool) (m : Nat → Option Nat) : Ob → Ob
  | .var e s l => .var (e.rn x m) s l
  | .row es s l => .row (AV.rnL x m es) s l
  | .map ents l => .map (rnV x m ents) l
  | b => b

/-- Lent for reading. -/
def Ob.lend : Ob → Ob
  | .var e s .mine => .var e s .lent
  | .row es s .mine => .row es s .lent
  | .map ents .mine => .map ents .lent
  | b => b

def dedup : List Nat → List Nat → List Nat
  | [], acc => acc
  | x :: xs, acc => if acc.contains x then dedup xs acc else dedup xs (acc ++ [x])

def obAt : List Ob → Nat → Ob
  | [], _ => .free
  | b :: _, 0 => b
  | _ :: bs, o + 1 => obAt bs o
def setOb : List Ob → Nat → Ob → List Ob
  | [], 0, b => [b]
  | [], o + 1, b => .free :: setOb [] o b
  | _ :: bs, 0, b => b :: bs
  | x :: bs, o + 1, b => x :: setOb bs o b

/-- Steps on the objects: so that what a step looks at can be told. -/
inductive HM (α : Type) where
  | ret (a : α)
  | fail
  | get (o : Nat) (k : Ob → HM α)
  | set (o : Nat) (b : Ob) (k : HM α)
  | new (b : Ob) (k : Nat → HM α)

namespace HM
def bind {α β : Type} : HM α → (α → HM β) → HM β
  | .ret a, f => f a
  | .fail, _ => .fail
  | .get o k, f => .get o fun b => (k b).bind f
  | .set o b k, f => .set o b (k.bind f)
  | .new b k, f => .new b fun n => (k n).bind f
instance : Monad HM := {
  pure := HM.ret
  bind := HM.bind }
def lift {α : Type} : Option α → HM α
  | some a => .ret a
  | none => .fail
/-- objects, and the number of the next one -/
def runAt {α : Type} : HM α → List Ob → Nat → Option (α × List Ob × Nat)
  | .ret a, os, n => some (a, os, n)
  | .fail, _, _ => none
  | .get o k, os, n => (k (obAt os o)).runAt os n
  | .set o b k, os, n => k.runAt (setOb os o b) n
  | .new b k, os, n => (k n).runAt (setOb os n b) (n + 1)
def run {α : Type} (m : HM α) (os : List Ob) : Option (α × List Ob) :=
  match m.runAt os os.length with
  | some (a, os, _) => some (a, os)
  | none => none
/-- a run, with what is looked at or turned, and what is turned -/
def runF {α : Type} : HM α → List Ob → Nat → Option (α × List Ob × Nat × List Nat × List Nat)
  | .ret a, os, n => some (a, os, n, [], [])
  | .fail, _, _ => none
  | .get o k, os, n => match (k (obAt os o)).runF os n with
    | some (a, os', n', f, w) => some (a, os', n', o :: f, w)
    | none => none
  | .set o b k, os, n => match k.runF (setOb os o b) n with
    | some (a, os', n', f, w) => some (a, os', n', o :: f, o :: w)
    | none => none
  | .new b k, os, n => match (k n).runF (setOb os n b) (n + 1) with
    | some (a, os', n', f, w) => some (a, os', n', n :: f, n :: w)
    | none => none
end HM

instance {α : Type} : Inhabited (HM α) := ⟨.fail⟩
structure Env where
  ty : TypeId → Option TyI
  fn : FuncId → Option FnI
  glob : Nat → Option AV
  ext : FuncId → Option (List AV → HM AV)   -- functions that are taken by a law of their own
  pol : Pol
  eqs : TypeId → Bool := fun _ => false   -- structs that are compared
  back : FuncId → Option TypeId := fun _ => none   -- what slices.Backward hands back, and its elements' type

def getOb (o : Nat) : HM Ob := .get o .ret
def putOb (o : Nat) (b : Ob) : HM Unit := .set o b (.ret ())
def newOb (b : Ob) : HM Nat := .new b .ret

def updAV (e : AV) (i : Nat) (vs : List AV) : AV :=
  match e with
  | .agg cs => .agg (cs.take i ++ vs ++ cs.drop (i + vs.length))
  | v => vs.headD v

/-- A cell as data that never changes. -/
def fzC : AV → Option AV
  | .nils => some (.sl [])
  | .agg _ => none
  | v => if v.cls then some v else none
def fzCs : List AV → Option (List AV)
  | [] => some []
  | v :: vs => match fzC v, fzCs vs with
    | some v, some vs => some (v :: vs)
    | _, _ => none
def fzE : AV → Option AV
  | .agg cs => (fzCs cs).map .agg
  | v => fzC v
def fzEs : List AV → Option (List AV)
  | [] => some []
  | v :: vs => match fzE v, fzEs vs with
    | some v, some vs => some (v :: vs)
    | _, _ => none

/-- the elements that a slice shows -/
def elemsOf (v : AV) : HM (List AV) :=
  match v with
  | .sl es => .ret es
  | .lsl es => .ret es
  | .nils => .ret []
  | .arr o off len ext => .get o fun
    | .row es _ _ => if ext = es.length ∧ off + len ≤ es.length then .ret ((es.drop off).take len) else .fail
    | _ => .fail
  | _ => .fail
def lenOf (v : AV) : HM Nat :=
  match v with
  | .sl es => .ret es.length
  | .lsl es => .ret es.length
  | .nils => .ret 0
  | .arr o off len ext => .get o fun
    | .row es _ _ => if ext = es.length ∧ off + len ≤ es.length then .ret len else .fail
    | _ => .fail
  | _ => .fail

/-- Give up an array of data: it never changes any more; what the slice shows of it. -/
def giveUp (o off len ext : Nat) : HM AV := .get o fun
  | .row es s lk =>
    if ext = es.length ∧ off + len ≤ es.length ∧ lk ≠ .lent then match fzEs es with
      | some fs => .set o (.row fs s .frozen) (.ret (.sl ((fs.drop off).take len)))
      | none => .fail
    else .fail
  | _ => .fail

/-- A value that is put away for good: `deep`: of an array of lists, the lists first. -/
def freeze0 (v : AV) : HM AV :=
  match v with
  | .arr o off len ext => giveUp o off len ext
  | .nils => .ret (.sl [])
  | v => .ret v
def freeze0s : List AV → HM (List AV)
  | [] => .ret []
  | v :: r => (freeze0 v).bind fun v' => (freeze0s r).bind fun r' => .ret (v' :: r')
def freezeE0 (v : AV) : HM AV :=
  match v with
  | .agg cs => (freeze0s cs).bind fun cs => .ret (.agg cs)
  | v => freeze0 v
def freezeE0s : List AV → HM (List AV)
  | [] => .ret []
  | v :: r => (freezeE0 v).bind fun v' => (freezeE0s r).bind fun r' => .ret (v' :: r')
def isData (es : List AV) : Bool := (fzEs es).isSome
def deepen (o : Nat) : HM Unit := .get o fun
  | .row es s .mine => if isData es then .ret () else (freezeE0s es).bind fun es' => .get o fun
    | .row es1 _ .mine => if es1.length = es'.length then .set o (.row es' s .mine) (.ret ()) else .fail
    | _ => .fail
  | _ => .ret ()
def freeze (v : AV) : HM AV :=
  match v with
  | .arr o off len ext => (deepen o).bind fun _ => giveUp o off len ext
  | .nils => .ret (.sl [])
  | v => .ret v
def freezeCs : List AV → HM (List AV)
  | [] => .ret []
  | v :: r => (freeze v).bind fun v' => (freezeCs r).bind fun r' => .ret (v' :: r')
def freezeE (v : AV) : HM AV :=
  match v with
  | .agg cs => (freezeCs cs).bind fun cs => .ret (.agg cs)
  | v => freeze v

/-- A value into a cell of an element: as it is (`nest`), or frozen. -/
def putE (nest : Bool) (v : AV) : HM AV := if nest then .ret v else freezeE v
def putEs (nest : Bool) : List AV → HM (List AV)
  | [] => .ret []
  | v :: r => (putE nest v).bind fun v' => (putEs nest r).bind fun r' => .ret (v' :: r')

/-- Has a type cells, or is it one cell? -/
def isAggT (env : Env) (t : TypeId) : Option (Bool × Nat) :=
  match env.ty t with
  | some { d := .struct _, size, .. } => some (true, size)
  | some { d := .array _ _, size, .. } => some (true, size)
  | some i => some (false, i.size)
  | none => none

def esize (env : Env) (t : TypeId) : Option (TypeId × Nat) :=
  match env.ty t with
  | some { d := .slice e, .. } => (env.ty e).map fun i => (e, i.size)
  | _ => none

/-- The part of a value that is no variable. -/
def partAV (env : Env) (t : TypeId) (e : AV) (i : Nat) : Option AV :=
  match isAggT env t with
  | some (true, n) => if i + n ≤ e.cells.length then some (.agg ((e.cells.drop i).take n)) else none
  | some (false, _) => e.cells[i]?
  | none => none

/-- What lies in a cell of an object, or in some cells. -/
def loadE (env : Env) (t : TypeId) (a : AV) : HM AV :=
  match a with
  | .ptr o i => .get o fun
    | .var e _ _ => HM.lift (partAV env t e i)
    | _ => .fail
  | .ep o j i ext => .get o fun
    | .row es _ _ => if ext = es.length then match es[j]? with
        | some e => HM.lift (partAV env t e i)
        | none => .fail
      else .fail
    | _ => .fail
  | .fp e i => HM.lift (partAV env t e i)
  | _ => .fail

/-- a value that can lie in a variable -/
def AV.storable : AV → Bool
  | .tup _ | .und | .gone => false
  | _ => true

def storeE (env : Env) (nest : Bool) (t : TypeId) (a x : AV) : HM AV :=
  match env.ty t with
  | some ti => if x.cells.length = ti.size ∧ x.storable = true then
      match a with
      | .ptr o i => .get o fun
        | .var e s .mine => if i + ti.size ≤ e.cells.length then .set o (.var (updAV e i x.cells) s .mine) (.ret .und) else .fail
        | _ => .fail
      | .ep o j i ext => (putE nest x).bind fun y => .get o fun
        | .row es s .mine => if ext = es.length then match es[j]? with
            | some e => if i + ti.size ≤ e.cells.length ∧ y.cells.length = ti.size then .set o (.row (es.set j (updAV e i y.cells)) s .mine) (.ret .und) else .fail
            | none => .fail
          else .fail
        | _ => .fail
      | _ => .fail
    else .fail
  | none => .fail

/-- Equality, of a type. -/
def eqAV (d : TyD) (x y : AV) : Option Bool :=
  match d, x, y with
  | .bool, .bool a, .bool b => some (a == b)
  | .pointer _, .nilp, .nilp => some true
  | .pointer _, .nilp, .ptr .. => some false
  | .pointer _, .ptr .., .nilp => some false
  | .pointer _, .nilp, .ep .. => some false
  | .pointer _, .ep .., .nilp => some false
  | .map _ _, .nilm, .nilm => some true
  | .map _ _, .nilm, .mp _ => some false
  | .map _ _, .mp _, .nilm => some false
  | .func, .nilf, .nilf => some true
  | .func, .nilf, .fn .. => some false
  | .func, .fn .., .nilf => some false
  | _, _, _ => none
/-- Are two keys one? -/
def eqK : AV → AV → Option Bool
  | .int j a, .int k b => if j = k then some (a == b) else none
  | .bool a, .bool b => some (a == b)
  | .str a, .str b => some (a == b)
  | _, _ => none

def intE (op : BinOp) (k : IntKind) (a b : Int) : Option AV :=
  match op with
  | .add => some (.int k (k.wrap (a + b)))
  | .sub => some (.int k (k.wrap (a - b)))
  | .mul => some (.int k (k.wrap (a * b)))
  | .quo => if b ≠ 0 then some (.int k (k.wrap (a.tdiv b))) else none
  | .rem => if b ≠ 0 then some (.int k (a.tmod b)) else none
  | .and => some (.int k (k.wrap (BitVec.ofInt k.bits a &&& BitVec.ofInt k.bits b).toNat))
  | .or => some (.int k (k.wrap (BitVec.ofInt k.bits a ||| BitVec.ofInt k.bits b).toNat))
  | .eql => some (.bool (a == b))
  | .neq => some (.bool (a != b))
  | .lss => some (.bool (a < b))
  | .leq => some (.bool (a ≤ b))
  | .gtr => some (.bool (a > b))
  | .geq => some (.bool (a ≥ b))
  | _ => none
def strE (op : BinOp) (a b : ByteArray) : Option AV :=
  match op with
  | .add => if ((a.size + b.size : Nat) : Int) ≤ IntKind.i64.max then some (.str (a ++ b)) else none
  | .eql => some (.bool (a.toList == b.toList))
  | .neq => some (.bool !(a.toList == b.toList))
  | .lss => some (.bool (Op.bytesLess a.toList b.toList))
  | .leq => some (.bool (Op.bytesLess a.toList b.toList || a.toList == b.toList))
  | .gtr => some (.bool !(Op.bytesLess a.toList b.toList || a.toList == b.toList))
  | .geq => some (.bool !(Op.bytesLess a.toList b.toList))
  | _ => none
def shiftE (op : BinOp) (j : IntKind) (a b : Int) : Option AV :=
  match op with
  | .shl => if 0 ≤ b then some (.int j (j.wrap (a * 2 ^ (min b.toNat j.bits)))) else none
  | .shr => if 0 ≤ b then some (.int j (a.fdiv (2 ^ (min b.toNat j.bits)))) else none
  | _ => none
/-- the fields of two structs -/
def eqFs (env : Env) (eq : TypeId → AV → AV → Option Bool) (xs ys : List AV) : List (Nat × TypeId) → Option Bool
  | [] => some true
  | (off, t) :: r => match partAV env t (.agg xs) off, partAV env t (.agg ys) off with
    | some a, some b => match eq t a b with
      | some true => eqFs env eq xs ys r
      | some false => some false
      | none => none
    | _, _ => none
def eqF (env : Env) : Nat → TypeId → AV → AV → Option Bool
  | 0, _, _, _ => none
  | n + 1, t, x, y => match env.ty t with
    | some ti => match ti.d, x, y with
      | .struct fs, .agg xs, .agg ys => if env.eqs t then eqFs env (eqF env n) xs ys fs else none
      | .int _, .int j a, .int k b => if j = k then some (a == b) else none
      | .string, .str a, .str b => some (a.toList == b.toList)
      | .bool, .bool a, .bool b => some (a == b)
      | _, _, _ => none
    | none => none
def binE (env : Env) (op : BinOp) (t : TypeId) (x y : AV) : Option AV :=
  match x, y with
  | .agg xs, .agg ys => match op with
    | .eql => (eqF env 8 t (.agg xs) (.agg ys)).map .bool
    | .neq => (eqF env 8 t (.agg xs) (.agg ys)).map fun b => .bool !b
    | _ => none
  | .int j a, .int k b => match op with
    | .shl => shiftE .shl j a b
    | .shr => shiftE .shr j a b
    | op => if j = k then intE op j a b else none
  | .str a, .str b => strE op a b
  | x, y => match env.ty t with
    | some ti => match op with
      | .eql => (eqAV ti.d x y).map .bool
      | .neq => (eqAV ti.d x y).map fun b => .bool !b
      | _ => none
    | none => none

def unE (op : UnOp) (x : AV) : Option AV :=
  match op, x with
  | .neg, .int k n => some (.int k (k.wrap (0 - n)))
  | .not, .bool b => some (.bool !b)
  | _, _ => none

def runesOf (s : ByteArray) : List AV := (Conv.runesFrom s s.size 0 #[]).toList.map ofConst
def intsOf (k : IntKind) : List AV → Option (List Int)
  | [] => some []
  | .int j n :: r => if j = k then (intsOf k r).map fun l => n :: l else none
  | _ => none
def bytesBytes (ns : List Int) : ByteArray := ns.foldl (fun r n => r.push (UInt8.ofNat n.toNat)) ByteArray.empty

inductive CK where
  | toInt (k : IntKind) | intStr | strStr | strRunes | runesStr | bytesStr | bad
/-- the kind of a conversion -/
def convK (env : Env) (src dst : TypeId) : CK :=
  match env.ty src, env.ty dst with
  | some s, some d => match s.d, d.d with
    | _, .int k => .toInt k
    | .int _, .string => .intStr
    | .string, .string => .strStr
    | .string, .slice e => match env.ty e with
      | some { d := .int .i32, .. } => .strRunes
      | _ => .bad
    | .slice e, .string => match env.ty e with
      | some { d := .int .i32, .. } => .runesStr
      | some { d := .int .u8, .. } => .bytesStr
      | _ => .bad
    | _, _ => .bad
  | _, _ => .bad
def convE (env : Env) (src dst : TypeId) (x : AV) : HM AV :=
  match convK env src dst with
  | .toInt k => match x with
    | .int _ n => .ret (.int k (k.wrap n))
    | _ => .fail
  | .intStr => match x with
    | .int _ n => .ret (.str (Utf8.encode n))
    | _ => .fail
  | .strStr => match x with
    | .str s => .ret (.str s)
    | _ => .fail
  | .strRunes => match x with
    | .str s => if (runesOf s).length ≤ 2 ^ 46 then (newOb (.row (runesOf s) 1 .mine)).bind fun o => .ret (.arr o 0 (runesOf s).length (runesOf s).length) else .fail
    | _ => .fail
  | .runesStr => (elemsOf x).bind fun es => match intsOf .i32 es with
    | some ns => .ret (.str (runesBytes ns))
    | none => .fail
  | .bytesStr => (elemsOf x).bind fun es => match intsOf .u8 es with
    | some ns => .ret (.str (bytesBytes ns))
    | none => .fail
  | .bad => .fail

def findK (k : AV) : Nat → List (AV × AV) → Option (Option (Nat × AV))
  | _, [] => some none
  | j, (k', v) :: r => match eqK k k' with
    | some true => some (some (j, v))
    | some false => findK k (j + 1) r
    | none => none
def isKey : AV → Bool
  | .int .. | .bool _ | .str _ => true
  | _ => false

def keyT : TyD → AV → Bool
  | .int j, .int k _ => j == k
  | .bool, .bool _ => true
  | .string, .str _ => true
  | _, _ => false
/-- the elements' type, of a map in which a key can lie -/
def mapT (env : Env) (t : TypeId) (k : AV) : Option TypeId :=
  match env.ty t with
  | some { d := .map kt e, .. } => match env.ty kt with
    | some ki => if keyT ki.d k then some e else none
    | none => none
  | _ => none
def zeroT (env : Env) (t : TypeId) : Option AV := match env.ty t with | some ti => ti.zero | none => none
def okV (ok b : Bool) (v : AV) : AV := if ok then .tup [v, .bool b] else v
def lookupE (env : Env) (t : TypeId) (m k : AV) (ok : Bool) : HM AV :=
  match mapT env t k with
  | some e => match zeroT env e with
    | some z => match m with
      | .nilm => .ret (okV ok false z)
      | .mp o => .get o fun
        | .map ents _ => match findK k 0 ents with
          | some (some (_, v)) => .ret (okV ok true v)
          | some none => .ret (okV ok false z)
          | none => .fail
        | _ => .fail
      | _ => .fail
    | none => .fail
  | none => .fail
def mapUpdateE (env : Env) (nest : Bool) (t : TypeId) (m k x : AV) : HM AV :=
  match mapT env t k with
  | some _ => match m with
    | .mp o => (putE nest x).bind fun v => .get o fun
      | .map ents .mine => match findK k 0 ents with
        | some (some (j, _)) => .set o (.map (ents.set j (k, v)) .mine) (.ret .und)
        | some none => .set o (.map (ents ++ [(k, v)]) .mine) (.ret .und)
        | none => .fail
      | _ => .fail
    | _ => .fail
  | none => .fail
def mapEntryE (env : Env) (t : TypeId) (m k : AV) : HM AV :=
  match mapT env t k with
  | some e => match zeroT env e with
    | some z => match m with
      | .mp o => .get o fun
        | .map ents .mine => match findK k 0 ents with
          | some (some (j, _)) => .ret (.tup [.gone, .stamp o j])
          | some none => .set o (.map (ents ++ [(k, z)]) .mine) (.ret (.tup [.gone, .stamp o ents.length]))
          | none => .fail
        | _ => .fail
      | _ => .fail
    | none => .fail
  | none => .fail
def entryStoreE (nest : Bool) (m s x : AV) : HM AV :=
  match m, s with
  | .mp o, .stamp o' j =>
    if o = o' then (putE nest x).bind fun v => .get o fun
      | .map ents .mine => match ents[j]? with
        | some (k, _) => .set o (.map (ents.set j (k, v)) .mine) (.ret .und)
        | none => .fail
      | _ => .fail
    else .fail
  | _, _ => .fail

def asNat : AV → Option Nat
  | .int _ n => if 0 ≤ n then some n.toNat else none
  | _ => none
def asNatD (d : Nat) : Option AV → Option Nat
  | some v => asNat v
  | none => some d

/-- Has each element `size` cells? -/
def fitsL (size : Nat) (xs : List AV) : Bool := xs.all fun x => x.cells.length == size && x.storable
def zeroFits (size : Nat) : Option AV → Bool
  | some z => z.cells.length == size
  | none => false
/-- a string type, a slice type -/
def isStrT (env : Env) (t : TypeId) : Bool := match env.ty t with | some { d := .string, .. } => true | _ => false
def isSlT (env : Env) (t : TypeId) : Bool := match env.ty t with | some { d := .slice e, .. } => (env.ty e).isSome | _ => false
/-- a part of an array -/
def subArr (size o off len ext l : Nat) (hi : Option AV) : HM AV := .get o fun
  | .row es s _ => match asNatD len hi with
    | some h => if ext = es.length ∧ off + len ≤ es.length ∧ s = size ∧ l ≤ h ∧ h ≤ len then .ret (.arr o (off + l) (h - l) ext) else .fail
    | none => .fail
  | _ => .fail
def sliceE (env : Env) (t : TypeId) (x : AV) (lo hi : Option AV) : HM AV :=
  match asNatD 0 lo with
  | none => .fail
  | some l => match x with
    | .str s => if isStrT env t then match asNatD s.size hi with
      | some h => if l ≤ h ∧ h ≤ s.size then .ret (.str (s.extract l h)) else .fail
      | none => .fail
      else .fail
    | .sl es => match esize env t with
      | some (_, size) => match asNatD es.length hi with
        | some h => if l ≤ h ∧ h ≤ es.length ∧ fitsL size es = true then .ret (.sl ((es.drop l).take (h - l))) else .fail
        | none => .fail
      | none => .fail
    | .lsl es => match esize env t with
      | some (_, size) => match asNatD es.length hi with
        | some h => if l ≤ h ∧ h ≤ es.length ∧ fitsL size es = true then .ret (.lsl ((es.drop l).take (h - l))) else .fail
        | none => .fail
      | none => .fail
    | .nils => if isSlT env t then match asNatD 0 hi with
      | some h => if l = 0 ∧ h = 0 then .ret .nils else .fail
      | none => .fail
      else .fail
    | .arr o off len ext => match esize env t with
      | some (_, size) => subArr size o off len ext l hi
      | none => .fail
    | _ => .fail

/-- `x[:0:0]`: a slice without places -/
def slice0E (env : Env) (t : TypeId) (x : AV) (lo hi : Option AV) (mx : AV) : HM AV :=
  if isSlT env t then match asNatD 0 lo, asNatD 1 hi, asNat mx with
  | some 0, some 0, some 0 => match x with
    | .sl _ => .ret .nils
    | .lsl _ => .ret .nils
    | .nils => .ret .nils
    | .arr o off len ext => (lenOf (.arr o off len ext)).bind fun _ => .ret .nils
    | _ => .fail
  | _, _, _ => .fail
  else .fail

/-- room for an append -/
def roomOK (need bytes : Nat) : Bool := decide (need * bytes ≤ 2 ^ 47) && decide (need ≤ 2 ^ 62)

def appendE (env : Env) (t : TypeId) (s : AV) (xs : List AV) : HM AV :=
  match esize env t with
  | some (e, size) => match env.ty e with
    | some ei => if fitsL size xs && zeroFits size ei.zero then match s with
      | .nils => if roomOK xs.length ei.bytes then (newOb (.row xs size .mine)).bind fun o => .ret (.arr o 0 xs.length xs.length) else .fail
      | .arr o 0 len ext => .get o fun
        | .row es sz .mine =>
          if ext = es.length ∧ len ≤ es.length ∧ sz = size ∧ roomOK (len + xs.length) ei.bytes = true then
            .set o (.row (es.take len ++ xs ++ es.drop (len + xs.length)) size .mine) (.ret (.arr o 0 (len + xs.length) (es.take len ++ xs ++ es.drop (len + xs.length)).length))
          else .fail
        | _ => .fail
      | _ => .fail
      else .fail
    | none => .fail
  | none => .fail

/-- what is appended -/
def srcE (nest : Bool) (x : AV) : HM (List AV) :=
  match x with
  | .str b => .ret (b.data.toList.map fun b => .int .u8 b.toNat)
  | x => (elemsOf x).bind fun xs => putEs nest xs

def maxFrom (f : Int → Int → Int) (k : IntKind) : Int → List AV → Option AV
  | a, [] => some (.int k a)
  | a, .int j b :: r => if k = j then maxFrom f k (f a b) r else none
  | _, _ => none
def maxAll (f : Int → Int → Int) : List AV → Option AV
  | .int k a :: r => maxFrom f k a r
  | _ => none

def lenE (env : Env) (t : TypeId) (x : AV) : HM AV :=
  match x with
  | .str s => match env.ty t with
    | some { d := .string, .. } => .ret (.int .i64 s.size)
    | _ => .fail
  | .nilm => match env.ty t with
    | some { d := .map _ _, .. } => .ret (.int .i64 0)
    | _ => .fail
  | .mp o => match env.ty t with
    | some { d := .map _ _, .. } => .get o fun
      | .map ents _ => .ret (.int .i64 ents.length)
      | _ => .fail
    | _ => .fail
  | x => match env.ty t with
    | some { d := .array n _, .. } => .ret (.int .i64 n)
    | some { d := .slice _, .. } => (lenOf x).bind fun n => .ret (.int .i64 n)
    | _ => .fail

def copyE (env : Env) (t : TypeId) (d x : AV) : HM AV :=
  match esize env t with
  | some (_, size) => match d with
    | .arr o off len ext => (elemsOf x).bind fun ys => match fzEs ys with
      | some xs => .get o fun
        | .row es sz .mine =>
          if ext = es.length ∧ off + len ≤ es.length ∧ sz = size ∧ fitsL size xs = true then
            .set o (.row (es.take off ++ xs.take len ++ es.drop (off + min xs.length len)) size .mine) (.ret (.int .i64 (min xs.length len : Nat)))
          else .fail
        | _ => .fail
      | none => .fail
    | _ => .fail
  | none => .fail

/-- can be appended: a slice, a string -/
def srcT (env : Env) (t : TypeId) : Bool :=
  match env.ty t with
  | some { d := .slice _, .. } => true
  | some { d := .string, .. } => true
  | _ => false
def builtinE (env : Env) (nest : Bool) (b : Builtin) (ats : List TypeId) (args : List AV) : HM AV :=
  match b, ats, args with
  | .len, t :: _, [x] => lenE env t x
  | .append, t :: tx :: _, [s, x] => if srcT env tx then (srcE nest x).bind fun xs => appendE env t s xs else .fail
  | .copy, t :: _, [d, x] => copyE env t d x
  | .max, _, args => HM.lift (maxAll (fun a b => if b > a then b else a) args)
  | .min, _, args => HM.lift (maxAll (fun a b => if b < a then b else a) args)
  | _, _, _ => .fail
end Go.V
namespace Go.V

/-- The objects that a list leads to, in the order in which they are met. -/
def gather1 : List Nat → HM (List Nat)
  | [] => .ret []
  | o :: r => do
    let b ← getOb o
    let l ← gather1 r
    pure (b.refs ++ l)
def gather : Nat → List Nat → HM (List Nat)
  | 0, acc => .ret acc
  | n + 1, acc => do
    let l ← gather1 acc
    match dedup l acc with
    | acc' => if acc'.length = acc.length then pure acc else gather n acc'

def getObs : List Nat → HM (List Ob)
  | [] => .ret []
  | o :: r => do
    let b ← getOb o
    let l ← getObs r
    pure (b :: l)
def putObs : List (Nat × Ob) → HM Unit
  | [] => .ret ()
  | (o, b) :: r => do
    putOb o b
    putObs r
def newObs : List Ob → HM (List Nat)
  | [] => .ret []
  | b :: r => do
    let o ← newOb b
    let l ← newObs r
    pure (o :: l)
/-- An argument's cell as it is lent. -/
def lendC (v : AV) : HM AV :=
  match v with
  | .arr o off len ext => (elemsOf (.arr o off len ext)).bind fun es => match fzEs es with
    | some fs => .ret (.lsl fs)
    | none => .fail
  | .sl es => .ret (.lsl es)
  | .nils => .ret (.lsl [])
  | v => .ret v
def lendCs : List AV → HM (List AV)
  | [] => .ret []
  | v :: r => (lendC v).bind fun v' => (lendCs r).bind fun r' => .ret (v' :: r')
def lendE (v : AV) : HM AV :=
  match v with
  | .agg cs => (lendCs cs).bind fun cs => .ret (.agg cs)
  | v => lendC v
def freezeArgs : List Mode → List AV → HM (List AV)
  | _, [] => .ret []
  | ms, v :: r => (if ms.headD .asis = .frozen then freezeE v else .ret v).bind fun v' => (freezeArgs ms.tail r).bind fun r' => .ret (v' :: r')
def lendArgs : List Mode → List AV → HM (List AV)
  | _, [] => .ret []
  | ms, v :: r => (if ms.headD .asis = .lent then lendE v else .ret v).bind fun v' => (lendArgs ms.tail r).bind fun r' => .ret (v' :: r')
def AV.arrs1 : AV → List Nat
  | .arr o _ _ _ => [o]
  | _ => []
/-- the arrays that a lent argument shows -/
def AV.arrs : AV → List Nat
  | .agg cs => cs.flatMap AV.arrs1
  | v => v.arrs1
/-- what is lent and what is not -/
def lentOf : List Mode → List AV → List AV
  | _, [] => []
  | ms, v :: r => if ms.headD .asis = .lent then v :: lentOf ms.tail r else lentOf ms.tail r
def ownOf : List Mode → List AV → List AV
  | _, [] => []
  | ms, v :: r => if ms.headD .asis = .lent then ownOf ms.tail r else v :: ownOf ms.tail r
def disj (a b : List Nat) : Bool := a.all fun x => !b.contains x

def Ob.notLent : Ob → Bool
  | .var _ _ .lent => false
  | .row _ _ .lent => false
  | .map _ .lent => false
  | _ => true
def Ob.isOb : Ob → Bool
  | .free => false
  | _ => true
/-- the numbers behind a call: of what was handed over, of what is new -/
def outOf (own : List Nat) (k : Nat) (news : List Nat) (i : Nat) : Option Nat :=
  if i < own.length then own[i]? else if i < k then none else news[i - k]?
/-- A call: what the arguments lead to is handed over under numbers of its own and comes back; what is lent stays. -/
def callE (env : Env) (run : FuncId → List AV → List Ob → Option (AV × List Ob)) (f : FuncId) (args : List AV) : HM AV :=
  (freezeArgs (env.pol.mode f) args).bind fun args0 =>
  (lendArgs (env.pol.mode f) args0).bind fun args1 =>
  (gather 8 (dedup (AV.refsL (ownOf (env.pol.mode f) args1)) [])).bind fun own =>
  (gather 8 (dedup (AV.refsL (lentOf (env.pol.mode f) args1)) [])).bind fun lent =>
  (getObs own).bind fun obs => (getObs lent).bind fun obl =>
  if disj own (lent ++ (lentOf (env.pol.mode f) args0).flatMap AV.arrs) && obs.all fun b => b.notLent && b.isOb then
    match run f (AV.rnL false (own ++ lent).idxOf? args1) (obs.map (Ob.rn false (own ++ lent).idxOf?) ++ obl.map fun b => (b.rn false (own ++ lent).idxOf?).lend) with
    | none => .fail
    | some (v, objs2) =>
      if (objs2.take own.length ++ objs2.drop (own ++ lent).length).all Ob.notLent then
        (newObs ((objs2.drop (own ++ lent).length).map fun _ => Ob.dead)).bind fun news =>
        (putObs ((own ++ news).zip ((objs2.take own.length ++ objs2.drop (own ++ lent).length).map (Ob.rn true (outOf own (own ++ lent).length news))))).bind fun _ =>
        .ret (v.rn true (outOf own (own ++ lent).length news))
      else .fail
  else .fail

def fillAV (cs : List AV) (off : Nat) (vs : List AV) : List AV := cs.take off ++ vs ++ cs.drop (off + vs.length)
def buildC (env : Env) (fs : List (Nat × TypeId)) (cs : List AV) : List (Nat × AV) → Option (List AV)
  | [] => some cs
  | (i, v) :: r => match fs[i]? with
    | some (off, t) => match env.ty t with
      | some ti => if v.cells.length = ti.size ∧ v.storable = true ∧ off + ti.size ≤ cs.length then buildC env fs (fillAV cs off v.cells) r else none
      | none => none
    | none => none
def buildE (env : Env) (t : TypeId) (parts : List (Nat × AV)) : HM AV :=
  match env.ty t with
  | some { d := .struct fs, zero := some (.agg cs), .. } => HM.lift ((buildC env fs cs parts).map .agg)
  | some { d := .array n e, zero := some (.agg cs), .. } => match env.ty e with
    | some ei => HM.lift ((buildC env ((List.range n).map fun k => (k * ei.size, e)) cs parts).map .agg)
    | none => .fail
  | _ => .fail

def setMany : List AV → List Nat → List AV → List AV
  | es, i :: is, v :: vs => setMany (es.set i v) is vs
  | es, _, _ => es
def buildSliceE (env : Env) (nest : Bool) (t : TypeId) (len : Nat) (parts : List (Nat × AV)) : HM AV :=
  match esize env t with
  | some (e, size) => match (env.ty e).bind (·.zero) with
    | some z => (putEs nest (parts.map (·.2))).bind fun vs =>
      if (parts.all fun p => p.1 < len) && fitsL size vs && decide (len * size ≤ 2 ^ 24) && z.cells.length == size then
        (newOb (.row (setMany (List.replicate len z) (parts.map (·.1)) vs) size .mine)).bind fun o => .ret (.arr o 0 len len)
      else .fail
    | none => .fail
  | none => .fail
def makeSliceE (env : Env) (t : TypeId) (l c : AV) : HM AV :=
  match esize env t with
  | some (e, size) => match env.ty e with
    | some ei => match ei.zero, asNat l, asNat c with
      | some z, some n, some m =>
        if n ≤ m ∧ roomOK m ei.bytes = true ∧ z.cells.length = size then (newOb (.row (List.replicate n z) size .mine)).bind fun o => .ret (.arr o 0 n n) else .fail
      | _, _, _ => .fail
    | none => .fail
  | none => .fail
def assignE (env : Env) (t : TypeId) (x : AV) : HM AV :=
  match x with
  | .nils => match esize env t with
    | some (_, size) => (newOb (.row [] size .mine)).bind fun o => .ret (.arr o 0 0 0)
    | none => .ret .nils
  | v => .ret v
/-- nil slices of a variable that becomes: empty arrays of their own -/
def matCells : List (Nat × Nat) → AV → HM AV
  | [], e => .ret e
  | (i, size) :: r, e => match e.cells[i]? with
    | some .nils => (newOb (.row [] size .mine)).bind fun o => matCells r (updAV e i [.arr o 0 0 0])
    | _ => matCells r e
def allocE (env : Env) (mat : TypeId → List (Nat × Nat)) (t : TypeId) : HM AV :=
  match env.ty t with
  | some { size, zero := some z, .. } =>
    if z.cells.length = size then (matCells (mat t) z).bind fun z' => (newOb (.var z' size .mine)).bind fun o => .ret (.ptr o 0)
    else .fail
  | _ => .fail
def boxE (env : Env) (mat : TypeId → List (Nat × Nat)) (t : TypeId) (x : AV) : HM AV :=
  match env.ty t with
  | some { size, .. } =>
    if x.cells.length = size ∧ x.storable = true then (matCells (mat t) x).bind fun x' => (newOb (.var x' size .mine)).bind fun o => .ret (.ptr o 0)
    else .fail
  | _ => .fail
def fieldAddrE (env : Env) (t : TypeId) (x : AV) (f : Nat) : HM AV :=
  match env.ty t with
  | some { d := .struct fs, .. } => match fs[f]? with
    | some (foff, _) => match x with
      | .ptr o i => .ret (.ptr o (i + foff))
      | .ep o j i ext => .ret (.ep o j (i + foff) ext)
      | .fp e i => .ret (.fp e (i + foff))
      | _ => .fail
    | none => .fail
  | _ => .fail
def fieldE (env : Env) (t : TypeId) (x : AV) (f : Nat) : HM AV :=
  match env.ty t with
  | some { d := .struct fs, .. } => match fs[f]? with
    | some (foff, ft) => match x with
      | .agg cs => HM.lift (partAV env ft (.agg cs) foff)
      | _ => .fail
    | none => .fail
  | _ => .fail
def indexAddrE (env : Env) (t : TypeId) (x k : AV) : HM AV :=
  match env.ty t, asNat k with
  | some { d := .array n e, .. }, some k => match env.ty e with
    | some ei => if k < n then
        match x with
        | .ptr o i => .ret (.ptr o (i + k * ei.size))
        | .ep o j i ext => .ret (.ep o j (i + k * ei.size) ext)
        | .fp e i => .ret (.fp e (i + k * ei.size))
        | _ => .fail
      else .fail
    | none => .fail
  | some { d := .slice e, .. }, some k => match env.ty e with
    | some ei => match x with
      | .sl es => match es[k]? with
        | some e => if e.cells.length = ei.size then .ret (.fp e 0) else .fail
        | none => .fail
      | .lsl es => match es[k]? with
        | some e => if e.cells.length = ei.size then .ret (.fp e 0) else .fail
        | none => .fail
      | .arr o off len ext => .get o fun
        | .row es s _ => if ext = es.length ∧ off + len ≤ es.length ∧ s = ei.size ∧ k < len then .ret (.ep o (off + k) 0 ext) else .fail
        | _ => .fail
      | _ => .fail
    | none => .fail
  | _, _ => .fail
def indexE (env : Env) (t : TypeId) (x k : AV) : HM AV :=
  match env.ty t, asNat k, x with
  | some { d := .array n e, .. }, some k, .agg cs => match env.ty e with
    | some ei => if k < n then HM.lift (partAV env e (.agg cs) (k * ei.size)) else .fail
    | none => .fail
  | some { d := .string, .. }, some k, .str s => if h : k < s.size then .ret (.int .u8 (s[k]'h).toNat) else .fail
  | _, _, _ => .fail
def pickE (c a b : AV) : HM AV :=
  match c with
  | .bool c => .ret (if c then a else b)
  | _ => .fail
def nilCheckE (x : AV) : HM AV :=
  match x with
  | .ptr o i => .ret (.ptr o i)
  | .ep o j i ext => .ret (.ep o j i ext)
  | .fp e i => .ret (.fp e i)
  | .fn f c => .ret (.fn f c)
  | _ => .fail
def extractE (t : AV) (i : Nat) : HM AV :=
  match t with
  | .tup vs => match vs[i]? with
    | some v => .ret v
    | none => .fail
  | _ => .fail

def opE (env : Env) (f : FuncId) (run : FuncId → List AV → List Ob → Option (AV × List Ob)) (o : Op) (oty : TypeId) (ρ : Operand → AV) : HM AV :=
  match o with
  | .move x => .ret (ρ x)
  | .assign x => assignE env oty (ρ x)
  | .pick c a b => pickE (ρ c) (ρ a) (ρ b)
  | .alloc t => allocE env (env.pol.mat f) t
  | .box t x => boxE env (env.pol.mat f) t (ρ x)
  | .build t parts => buildE env t (parts.toList.map fun p => (p.1, ρ p.2))
  | .buildSlice t len parts => buildSliceE env (env.pol.nest f) t len (parts.toList.map fun p => (p.1, ρ p.2))
  | .load t a => loadE env t (ρ a)
  | .store t a x => storeE env (env.pol.nest f) t (ρ a) (ρ x)
  | .nilCheck x => nilCheckE (ρ x)
  | .binOp op t x y _ => HM.lift (binE env op t (ρ x) (ρ y))
  | .unOp op _ x => HM.lift (unE op (ρ x))
  | .convert s d x => convE env s d (ρ x)
  | .makeFunc (.func f) first captured => if first.isEmpty then .ret (.fn f (captured.toList.map ρ)) else .fail
  | .makeMap _ none => (newOb (.map [] .mine)).bind fun o => .ret (.mp o)
  | .makeSlice t l c => makeSliceE env t (ρ l) (ρ c)
  | .slice t x lo hi none => sliceE env t (ρ x) (lo.map ρ) (hi.map ρ)
  | .slice t x lo hi (some mx) => slice0E env t (ρ x) (lo.map ρ) (hi.map ρ) (ρ mx)
  | .fieldAddr t x f => fieldAddrE env t (ρ x) f
  | .field t x f => fieldE env t (ρ x) f
  | .indexAddr t x ix => indexAddrE env t (ρ x) (ρ ix)
  | .index t x ix => indexE env t (ρ x) (ρ ix)
  | .lookup t m k ok => lookupE env t (ρ m) (ρ k) ok
  | .mapUpdate t m k x => mapUpdateE env (env.pol.nest f) t (ρ m) (ρ k) (ρ x)
  | .insert t m k x => mapUpdateE env (env.pol.nest f) t (ρ m) (ρ k) (ρ x)
  | .mapEntry t m k => mapEntryE env t (ρ m) (ρ k)
  | .entryStore _ m s x => entryStoreE (env.pol.nest f) (ρ m) (ρ s) (ρ x)
  | .extract t ix => extractE (ρ t) ix
  | .call { callee := .builtin b, args, argTypes } => builtinE env (env.pol.nest f) b argTypes.toList (args.toList.map ρ)
  | .call { callee := .value x, args, .. } => match ρ x with
    | .fn g caps => match env.ext g with
      | some x => x (args.toList.map ρ ++ caps)
      | none => callE env run g (args.toList.map ρ ++ caps)
    | _ => .fail
  | _ => .fail

/-- What is known of the slots. -/
def getT : List (Nat × AV) → Nat → AV
  | [], _ => .gone
  | (k, v) :: r, t => match Nat.beq k t with | true => v | false => getT r t
theorem getT_cons0 {k v r t} : getT ((k, v) :: r) t = if k = t then v else getT r t := by
  rw [getT]
  cases h : Nat.beq k t with
  | true => rw [if_pos (Nat.eq_of_beq_eq_true h)]
  | false => rw [if_neg (Nat.ne_of_beq_eq_false h)]
def setT (tm : List (Nat × AV)) (d : Nat) (v : AV) : List (Nat × AV) := (d, v) :: tm
def putT (tm : List (Nat × AV)) (dst : Option Tmp) (v : AV) : List (Nat × AV) := match dst with | some d => setT tm d v | none => tm

def evalT (env : Env) (tm : List (Nat × AV)) : Operand → AV
  | .tmp t => getT tm t
  | .const v => ofConst v
  | .global g => match env.glob g with | some e => .fp e 0 | none => .gone
  | .func f => .fn f []
def guardV (want : Bool) : AV → Option Bool
  | .bool b => some (b == want)
  | .und => some false
  | _ => none
def wantedV (ds : List (Option Tmp)) (tm : List (Nat × AV)) : Option (Nat × Bool) → Option Bool
  | none => some true
  | some (j, w) => match (ds[j]?).join with
    | some d => guardV w (getT tm d)
    | none => some false

structure Fr where
  tmps : List (Nat × AV)
  objs : List Ob
  deriving Inhabited

def opsE (env : Env) (f : FuncId) (run : FuncId → List AV → List Ob → Option (AV × List Ob)) (ds : List (Option Tmp)) : List Oper → Fr → Option Fr
  | [], fr => some fr
  | o :: rest, fr => match wantedV ds fr.tmps o.guard with
    | some true => match (opE env f run o.op o.type (evalT env fr.tmps)).run fr.objs with
      | some (v, objs) => opsE env f run ds rest { tmps := putT fr.tmps o.dst v, objs }
      | none => none
    | some false => opsE env f run ds rest { fr with tmps := putT fr.tmps o.dst .und }
    | none => none

/-- As `opsE`, with what each operation looks at, and what it turns. -/
def opsD (env : Env) (f : FuncId) (run : FuncId → List AV → List Ob → Option (AV × List Ob)) (ds : List (Option Tmp)) : List Oper → Fr → Option (Fr × List (List Nat × List Nat))
  | [], fr => some (fr, [])
  | o :: rest, fr => match wantedV ds fr.tmps o.guard with
    | some true => match (opE env f run o.op o.type (evalT env fr.tmps)).runF fr.objs fr.objs.length with
      | some (v, objs, _, ft, wr) => match opsD env f run ds rest { tmps := putT fr.tmps o.dst v, objs } with
        | some (fr', l) => some (fr', (ft, wr) :: l)
        | none => none
      | none => none
    | some false => match opsD env f run ds rest { fr with tmps := putT fr.tmps o.dst .und } with
      | some (fr', l) => some (fr', ([], []) :: l)
      | none => none
    | none => none
/-- What must come before each operation. -/
def beforeOf (acc : List Nat) (o : Oper) : Nat := o.after.toList.foldl (fun s e => if Region.binds .any e then s ||| (2 ^ e.on) ||| acc.getD e.on 0 else s) 0
def beforeL : List Oper → List Nat → List Nat
  | [], acc => acc
  | o :: r, acc => beforeL r (acc ++ [beforeOf acc o])
/-- Pairs of operations whose order is open. -/
def unordAt (b : Nat) (j : Nat) : List (Nat × Nat) := ((List.range j).filter fun i => !b.testBit i).map fun i => (i, j)
def unordFrom : Nat → List Nat → List (Nat × Nat)
  | _, [] => []
  | j, b :: r => unordAt b j ++ unordFrom (j + 1) r
def unord (ops : List Oper) : List (Nat × Nat) := unordFrom 0 (beforeL ops [])
/-- Operations whose order is open do not meet. -/
def indep : List (Nat × Nat) → List (List Nat × List Nat) → Bool
  | [], _ => true
  | (i, j) :: r, feet => (match feet[i]?, feet[j]? with
      | some (f, w), some (g, x) => disj w g && disj f x
      | _, _ => false) && indep r feet
/-- the slots too -/
def apartOps (ops : Array Oper) : Bool := (unord ops.toList).all fun p => match ops[p.1]?, ops[p.2]? with
  | some x, some y => x.apart ops y
  | _, _ => false
def dstOK (n : Nat) (ops : Array Oper) : Bool := ops.all fun o => match o.dst with | some d => decide (d < n) | none => true
/-- what must come before comes before in the list -/
def edgesOK (ops : Array Oper) : Bool := ops.toList.zipIdx.all fun x => x.1.after.all fun e => !Region.binds .any e || decide (e.on < x.2)
/-- What is asked of code once. -/
def fine (n : Nat) : Code → Bool
  | .region _ ops draw => dstOK n ops && (!draw || (apartOps ops && edgesOK ops))
  | .seq a b => fine n a && fine n b
  | .cond _ a b => fine n a && fine n b
  | .block _ b => fine n b
  | .loop b => fine n b
  | .scope b => fine n b
  | .rangeFunc _ params a b => fine n a && fine n b && params.all fun t => decide (t < n)
  | _ => true

def rnT (x : Bool) (m : Nat → Option Nat) : List (Nat × AV) → List (Nat × AV)
  | [] => []
  | (k, v) :: r => (k, v.rn x m) :: rnT x m r
/-- Only some slots are kept, and the objects that they and the first `k` objects lead to. -/
def Fr.norm (k : Nat) (live : List Nat) (fr : Fr) : Option Fr :=
  match (gather 8 (dedup (AV.refsL (live.map (getT fr.tmps))) (List.range k))).run fr.objs with
  | some (keep, _) => some { tmps := rnT false keep.idxOf? (live.map fun t => (t, getT fr.tmps t)), objs := keep.map fun o => (obAt fr.objs o).rn false keep.idxOf? }
  | none => none
def normO (k : Nat) : Option (List Nat) → Fr → Option Fr
  | none, fr => some fr
  | some l, fr => fr.norm k l

/-- A result: slices that are new are frozen, or handed over (`own`). -/
def giveC (own : Bool) (k : Nat) (v : AV) : HM AV :=
  match v with
  | .arr o off len ext => if own || o < k then .ret (.arr o off len ext) else freeze (.arr o off len ext)
  | .nils => .ret (if own then .nils else .sl [])
  | v => .ret v
def giveCs (own : Bool) (k : Nat) : List AV → HM (List AV)
  | [] => .ret []
  | v :: r => (giveC own k v).bind fun v' => (giveCs own k r).bind fun r' => .ret (v' :: r')
def giveE (own : Bool) (k : Nat) (v : AV) : HM AV :=
  match v with
  | .agg cs => (giveCs own k cs).bind fun cs => .ret (.agg cs)
  | v => giveC own k v
def resultsE (env : Env) (own : Bool) (k : Nat) (tm : List (Nat × AV)) : List ResultVar → HM (List AV)
  | [] => .ret []
  | .tmp t :: rs => (giveE own k (getT tm t)).bind fun v => (resultsE env own k tm rs).bind fun vs => .ret (v :: vs)
  | .cell a t :: rs => (loadE env t (getT tm a)).bind fun u => (giveE own k u).bind fun v => (resultsE env own k tm rs).bind fun vs => .ret (v :: vs)

def one (vs : List AV) : AV := match vs with | [v] => v | vs => .tup vs

/-- What a call hands back: the result, and the objects: those that were handed over, then what is new and still reached. -/
def finishE (env : Env) (own : Bool) (results : List ResultVar) (k : Nat) (fr : Fr) : Option (AV × List Ob) :=
  match (resultsE env own k fr.tmps results).run fr.objs with
  | some (vs, objs) => match (gather 8 (dedup (AV.refsL vs) (List.range k))).run objs with
    | some (keep, _) => some ((one vs).rn false keep.idxOf?, keep.map fun o => (obAt objs o).rn false keep.idxOf?)
    | none => none
  | none => none

inductive Out where
  | normal | exit (id : Nat) | ret
  deriving Repr, Inhabited, DecidableEq

def condKey : Operand → Nat
  | .tmp t => t
  | _ => 0
def paramsT : Nat → List AV → List (Nat × AV)
  | _, [] => []
  | i, v :: r => (i, v) :: paramsT (i + 1) r

/-- an element, as it is loaded -/
def elemAt (env : Env) (te : TypeId) (x : AV) : Option AV := match env.ty te with
  | some ei => if x.cells.length = ei.size then partAV env te x 0 else none
  | none => none
/-- The rounds of a range over slices.Backward: the slice lies in variable `o`; `i`: how many are to come. -/
def roundsE (env : Env) (run : Code → Fr → Option (Out × Fr)) (te : TypeId) (o : Nat) (ps : List Tmp) (assign body : Code) (tm : List (Nat × AV)) : Nat → List Ob → Option (Out × List Ob)
  | 0, os => some (.normal, os)
  | i + 1, os => match obAt os o with
    | .var (.sl es) _ _ => match es[i]? with
      | some x => match elemAt env te x, ps with
        | some v, [p, q] => match run assign { tmps := setT (setT tm p (.int .i64 i)) q v, objs := os } with
          | some (.normal, fr1) => match run body fr1 with
            | some (.normal, fr2) => roundsE env run te o ps assign body tm i fr2.objs
            | some (out, fr2) => some (out, fr2.objs)
            | none => none
          | _ => none
        | _, _ => none
      | none => none
    | _ => none
/-- What is ranged over. -/
def backOf (env : Env) (os : List Ob) : AV → Option (TypeId × Nat × Nat)
  | .fn g [.ptr o 0] => match env.back g, obAt os o with
    | some te, .var (.sl es) _ _ => if es.length ≤ 4611686018427387904 then some (te, o, es.length) else none
    | some te, .var .nils _ _ => some (te, o, 0)
    | _, _ => none
  | _ => none

mutual
def ev (env : Env) (f : FuncId) (k : Nat) (lv : Option (List Nat)) (n : Nat) (c : Code) (fr : Fr) : Option (Out × Fr) :=
  match n with
  | 0 => none
  | n + 1 => match c with
    | .skip => some (.normal, fr)
    | .label _ => some (.normal, fr)
    | .region _ ops draw =>
      if draw then match opsD env f (fun g as os => callN env n g as os) (ops.toList.map (·.dst)) ops.toList fr with
        | some (fr', feet) => if indep (unord ops.toList) feet then some (.normal, fr') else none
        | none => none
      else match opsE env f (fun g as os => callN env n g as os) (ops.toList.map (·.dst)) ops.toList fr with
        | some fr' => some (.normal, fr')
        | none => none
    | .seq a b => match ev env f k none n a fr with
      | some (.normal, fr) => ev env f k none n b fr
      | r => r
    | .cond c a b => match evalT env fr.tmps c with
      | .bool t => match normO k (env.pol.live f 0 (condKey c)) fr with
        | some fr0 => match ev env f k none n (if t then a else b) fr0 with
          | some (.normal, fr1) => (normO k (env.pol.live f 1 (condKey c)) fr1).map fun fr2 => (.normal, fr2)
          | r => r
        | none => none
      | _ => none
    | .block id b => match ev env f k (env.pol.live f 2 id) n b fr with
      | some (.exit i, fr1) => if i = id then (normO k (env.pol.live f 3 id) fr1).map fun fr2 => (.normal, fr2) else some (.exit i, fr1)
      | some (.normal, fr1) => (normO k (env.pol.live f 3 id) fr1).map fun fr2 => (.normal, fr2)
      | r => r
    | .loop b => match normO k lv fr with
      | some fr0 => match ev env f k none n b fr0 with
        | some (.normal, fr1) => ev env f k lv n (.loop b) fr1
        | r => r
      | none => none
    | .exit id => some (.exit id, fr)
    | .ret => some (.ret, fr)
    | .rangeFunc g ps assign body => match backOf env fr.objs (evalT env fr.tmps g) with
      | some (te, o, len) => match roundsE env (fun c fr' => ev env f fr.objs.length none n c fr') te o ps.toList assign body fr.tmps len fr.objs with
        | some (out, os) => some (out, { tmps := fr.tmps, objs := os })
        | none => none
      | none => none
    | _ => none
termination_by structural n
def callN (env : Env) (n : Nat) (f : FuncId) (args : List AV) (objs : List Ob) : Option (AV × List Ob) :=
  match n with
  | 0 => none
  | n + 1 => match env.fn f with
    | some fi => match ev env f objs.length none n fi.code { tmps := paramsT 0 args, objs } with
      | some (.exit _, _) => none
      | some (_, fr) => finishE env (env.pol.own f) fi.results objs.length fr
      | none => none
    | none => none
termination_by structural n
end
/-- The body of what slices.Backward hands back: the types of the slice, of its elements, of yield. -/
def bDat (l : List Nat) : List Edge := l.map fun i => { on := i, ground := .data }
def bPh (l : List Nat) : List Edge := l.map fun i => { on := i, ground := .phase }
def bOp (dst : Nat) (op : Op) (type : TypeId) (pos : String) (after : List Edge) : Oper := { dst := some dst, op, type, pos, after := after.toArray, guard := none }
def back0 (ts ti : TypeId) : Array Oper := #[
  bOp 4 (.load ts (.tmp 1)) ts "iter.go:28" [],
  bOp 5 (.call { callee := .builtin .len, args := #[.tmp 4], argTypes := #[ts] }) ti "iter.go:28" (bDat [0]),
  bOp 6 (.binOp .sub ti (.tmp 5) (.const (.int .i64 1)) ti) ti "iter.go:28" (bDat [1]),
  bOp 3 (.assign (.tmp 6)) ti "iter.go:28" (bDat [2] ++ bPh [0, 1, 2])]
def back1 (ti tb : TypeId) : Array Oper := #[
  bOp 7 (.move (.tmp 3)) ti "iter.go:28" [],
  bOp 8 (.binOp .geq ti (.tmp 7) (.const (.int .i64 0)) ti) tb "iter.go:28" (bDat [0])]
def back3 (ts te tf ti tb : TypeId) : Array Oper := #[
  bOp 11 (.move (.tmp 0)) tf "iter.go:29" [],
  bOp 12 (.move (.tmp 3)) ti "iter.go:29" [],
  bOp 13 (.load ts (.tmp 1)) ts "iter.go:29" [],
  bOp 14 (.move (.tmp 3)) ti "iter.go:29" [],
  bOp 15 (.indexAddr ts (.tmp 13) (.tmp 14)) 0 "iter.go:29" (bDat [2, 3]),
  bOp 16 (.load te (.tmp 15)) te "iter.go:29" (bDat [4]),
  bOp 17 (.call { callee := .value (.tmp 11), args := #[.tmp 12, .tmp 16], argTypes := #[ti, te] }) tb "iter.go:29" (bDat [0, 1, 5]),
  bOp 18 (.unOp .not tb (.tmp 17)) tb "iter.go:29" (bDat [6])]
def back2 (ti : TypeId) : Array Oper := #[
  bOp 9 (.move (.tmp 3)) ti "iter.go:28" [],
  bOp 10 (.binOp .sub ti (.tmp 9) (.const (.int .i64 1)) ti) ti "iter.go:28" (bDat [0]),
  bOp 3 (.assign (.tmp 10)) ti "iter.go:28" (bDat [1] ++ bPh [0, 1])]
def backRound (ts te tf ti tb : TypeId) : Code :=
  ((Code.region 1 (back1 ti tb) false).seq (.cond (.tmp 8) .skip (.exit 0))).seq
    ((Code.block 1 ((Code.region 3 (back3 ts te tf ti tb) false).seq (.cond (.tmp 18) .ret .skip))).seq (.region 2 (back2 ti) false))
def backBody (ts te tf ti tb : TypeId) : Code := (Code.region 0 (back0 ts ti) false).seq (.block 0 (.loop (backRound ts te tf ti tb)))

end Go.V
namespace Go.V

/-- Who may turn a block: nobody any more; object `o` of the frame; somebody else. -/
inductive Own where
  | frozen | mine (o : Nat) | foreign
  deriving DecidableEq

/-- How a frame's objects lie in memory. -/
structure Emb where
  own : Nat → Own
  blk : Nat → Option Nat

/-- A block that the frame does not turn. -/
def Emb.still (m : Emb) (b : Nat) : Prop := ∀ o, m.own b ≠ .mine o

def cellsN (w : World) (b : Nat) : Option Nat :=
  match w.heap[b]? with
  | some (.cells cs _ _) => some cs.size
  | _ => none

/-- A slice of an array of `ext` elements. -/
def Slc (w : World) (bk : Option Nat) (size off len ext : Nat) (v : Value) : Prop :=
  (∃ b p cap n, bk = some b ∧ v = .slice (some ⟨b, p, none⟩) len cap ∧ (cap ≠ 0 → p = off * size) ∧ cellsN w b = some n ∧ (off + cap) * size ≤ n ∧ ext ≤ off + cap ∧ len ≤ cap) ∨
  (bk = none ∧ ext = 0 ∧ ∃ a, v = .slice a 0 0)

def RArr (w : World) (m : Emb) (os : List Ob) (o off len ext : Nat) (v : Value) : Prop :=
  (∃ a l c, v = .slice a l c) ∧ match obAt os o with
  | .row es size _ => ext ≤ es.length ∧ (ext = es.length → off + len ≤ ext → Slc w (m.blk o) size off len ext v)
  | .dead => True
  | _ => False
def RPtr (m : Emb) (os : List Ob) (o i : Nat) (v : Value) : Prop :=
  (∃ a, v = .pointer (some a)) ∧ match obAt os o with
  | .var _ _ _ => ∃ b, m.blk o = some b ∧ v = .pointer (some ⟨b, i, none⟩)
  | .dead => True
  | _ => False
def REp (m : Emb) (os : List Ob) (o j i ext : Nat) (v : Value) : Prop :=
  (∃ a, v = .pointer (some a)) ∧ match obAt os o with
  | .row es size _ => ext ≤ es.length ∧ (ext = es.length → ∃ b, m.blk o = some b ∧ v = .pointer (some ⟨b, j * size + i, none⟩))
  | .dead => True
  | _ => False
def RMp (m : Emb) (os : List Ob) (o : Nat) (v : Value) : Prop :=
  (∃ a, v = .map (some a)) ∧ match obAt os o with
  | .map _ _ => ∃ b, m.blk o = some b ∧ v = .map (some b)
  | .dead => True
  | _ => False
/-- the number under which the entry of a key was made -/
def RStamp (w : World) (m : Emb) (os : List Ob) (o j : Nat) (v : Value) : Prop :=
  (∃ n, v = .int .i64 n) ∧ match obAt os o with
  | .map _ _ => ∃ (b : Nat) (es : Array MapEntry) (clock : Nat) (me : MapEntry), m.blk o = some b ∧ w.heap[b]? = some (.map es clock) ∧ es[j]? = some me ∧ v = .int .i64 me.born
  | .dead => True
  | _ => False

/-- no struct, no tuple -/
def Value.plain : Value → Prop
  | .agg _ | .tuple _ => False
  | _ => True
def AV.plain : AV → Bool
  | .agg _ | .tup _ | .und | .gone => false
  | _ => true

mutual
/-- A value as it lies in the machine. -/
def RV (w : World) (m : Emb) (os : List Ob) : AV → Value → Prop
  | .int k n, v => v = .int k n
  | .bool b, v => v = .bool b
  | .str s, v => v = .string s
  | .agg cs, v => ∃ vs, v = .agg vs ∧ cs.all AV.plain = true ∧ RVL w m os cs vs.toList
  | .sl es, v => AV.clsL es = true ∧ ∃ a cap, v = .slice a es.length cap ∧ es.length ≤ cap ∧ (es = [] ∨ ∃ b off cs T fr size, a = some ⟨b, off, none⟩ ∧ m.own b = .frozen ∧ w.heap[b]? = some (.cells cs T fr) ∧
      RVE w m os size es (cs.toList.drop off))
  | .lsl es, v => AV.clsL es = true ∧ ∃ a cap, v = .slice a es.length cap ∧ es.length ≤ cap ∧ (es = [] ∨ ∃ b off cs T fr size, a = some ⟨b, off, none⟩ ∧ m.still b ∧ w.heap[b]? = some (.cells cs T fr) ∧
      RVE w m os size es (cs.toList.drop off))
  | .nils, v => ∃ a, v = .slice a 0 0
  | .arr o off len ext, v => RArr w m os o off len ext v
  | .ptr o i, v => RPtr m os o i v
  | .ep o j i ext, v => REp m os o j i ext v
  | .fp e i, v => e.cls = true ∧ ∃ b off cs T fr, v = .pointer (some ⟨b, off + i, none⟩) ∧ m.still b ∧ w.heap[b]? = some (.cells cs T fr) ∧ ∃ vs rest, cs.toList.drop off = vs ++ rest ∧ (match e with | .agg ds => ds.all AV.plain = true ∧ RVL w m os ds vs | e => AV.plain e = true ∧ ∃ v, vs = [v] ∧ RV w m os e v)
  | .nilp, v => v = .pointer none
  | .mp o, v => RMp m os o v
  | .nilm, v => v = .map none
  | .fn f cs, v => ∃ vs, v = .func (.func f) #[] vs ∧ RVL w m os cs vs.toList
  | .nilf, v => v = .nilFunc
  | .tup cs, v => ∃ vs, v = .tuple vs ∧ RVL w m os cs vs.toList
  | .stamp o j, v => RStamp w m os o j v
  | .und, v => v = undef
  | .any, v => Value.plain v
  | .gone, _ => True
def RVL (w : World) (m : Emb) (os : List Ob) : List AV → List Value → Prop
  | [], vs => vs = []
  | c :: cs, vs => ∃ v r, vs = v :: r ∧ RV w m os c v ∧ RVL w m os cs r
/-- elements, each of `size` cells, at the head of some cells -/
def RVE (w : World) (m : Emb) (os : List Ob) : Nat → List AV → List Value → Prop
  | _, [], _ => True
  | size, e :: es, l => ∃ vs rest, l = vs ++ rest ∧ vs.length = size ∧ (match e with | .agg ds => ds.all AV.plain = true ∧ RVL w m os ds vs | e => AV.plain e = true ∧ ∃ v, vs = [v] ∧ RV w m os e v) ∧ RVE w m os size es rest
end

/-- the cells of an element -/
def RVC (w : World) (m : Emb) (os : List Ob) (e : AV) (vs : List Value) : Prop :=
  match e with
  | .agg ds => ds.all AV.plain = true ∧ RVL w m os ds vs
  | e => AV.plain e = true ∧ ∃ v, vs = [v] ∧ RV w m os e v

theorem RVE_cons {w : World} {m : Emb} {os : List Ob} {size : Nat} {e : AV} {es : List AV} {l : List Value} :
  RVE w m os size (e :: es) l ↔ ∃ vs rest, l = vs ++ rest ∧ vs.length = size ∧ RVC w m os e vs ∧ RVE w m os size es rest := by
  rw [RVE]; rfl
theorem RV_fp {w : World} {m : Emb} {os : List Ob} {e : AV} {i : Nat} {v : Value} :
  RV w m os (.fp e i) v ↔ e.cls = true ∧ ∃ b off cs T fr, v = .pointer (some ⟨b, off + i, none⟩) ∧ m.still b ∧ w.heap[b]? = some (.cells cs T fr) ∧ ∃ vs rest, cs.toList.drop off = vs ++ rest ∧ RVC w m os e vs := by
  rw [RV]; rfl

/-- An object as it lies in memory. -/
def Owns (m : Emb) (o b : Nat) : Lk → Prop
  | .mine => m.own b = .mine o
  | .frozen => m.own b = .frozen
  | .lent => m.own b = .foreign
def ROM (w : World) (m : Emb) (os : List Ob) : List (AV × AV) → List MapEntry → Prop
  | [], es => es = []
  | (k, x) :: r, es => ∃ (me : MapEntry) (rest : List MapEntry), es = me :: rest ∧ isKey k = true ∧ RV w m os k me.key ∧ RV w m os x me.val ∧ ROM w m os r rest
def RO (w : World) (m : Emb) (os : List Ob) (o : Nat) : Ob → Prop
  | .var e size lk => ∃ b cs T fr, m.blk o = some b ∧ w.heap[b]? = some (.cells cs T fr) ∧ fr = (0, 0) ∧ cs.size = size ∧ RVC w m os e cs.toList ∧ Owns m o b lk
  | .row es size lk => (es = [] ∧ m.blk o = none) ∨
      ∃ b cs T fr, m.blk o = some b ∧ w.heap[b]? = some (.cells cs T fr) ∧ fr = (0, 0) ∧ RVE w m os size es cs.toList ∧ Owns m o b lk
  | .map ents lk => ∃ b es clock, m.blk o = some b ∧ w.heap[b]? = some (.map es clock) ∧ ROM w m os ents es.toList ∧ (∀ e ∈ es.toList, e.born < clock) ∧ (es.toList.map (·.born)).Nodup ∧ Owns m o b lk
  | .dead => True
  | .free => True

def Ob.lk : Ob → Option Lk
  | .var _ _ l => some l
  | .row _ _ l => some l
  | .map _ l => some l
  | _ => none

/-- The objects as they lie in memory. -/
structure ORel (env : Env) (w : World) (m : Emb) (os : List Ob) : Prop where
  obs : ∀ o, RO w m os o (obAt os o)
  mine : ∀ b o, m.own b = .mine o → b < w.heap.size ∧ m.blk o = some b ∧ (obAt os o).lk = some .mine
  frozen : ∀ b, m.own b = .frozen → b < w.heap.size
  glob : ∀ g e, env.glob g = some e → e.cls = true ∧ m.own g = .frozen ∧ ∃ cs T fr, w.heap[g]? = some (.cells cs T fr) ∧ RVC w m os e cs.toList

/-- What a piece of a run leaves as it was. -/
structure Kept (m : Emb) (w : World) (m' : Emb) (w' : World) : Prop where
  size : w.heap.size ≤ w'.heap.size
  os : w'.os = w.os
  tape : w'.tape = w.tape
  output : w'.output = w.output
  block : ∀ b, b < w.heap.size → (∀ o, m.own b ≠ .mine o) → w'.heap[b]? = w.heap[b]? ∧ m'.own b = m.own b
  cells : ∀ b n, cellsN w b = some n → cellsN w' b = some n

theorem Kept.refl (m : Emb) (w : World) : Kept m w m w := ⟨Nat.le_refl _, rfl, rfl, rfl, fun _ _ _ => ⟨rfl, rfl⟩, fun _ _ h => h⟩
theorem Kept.trans {m m1 m2 : Emb} {w w1 w2 : World} (h : Kept m w m1 w1) (k : Kept m1 w1 m2 w2) : Kept m w m2 w2 := {
  size := Nat.le_trans h.size k.size
  os := k.os.trans h.os
  tape := k.tape.trans h.tape
  output := k.output.trans h.output
  block b hb ho := by
    obtain ⟨h1, h2⟩ := h.block b hb ho
    obtain ⟨h3, h4⟩ := k.block b (Nat.lt_of_lt_of_le hb h.size) (by rw [h2]; exact ho)
    exact ⟨h3.trans h1, h4.trans h2⟩
  cells b n hb := k.cells b n (h.cells b n hb) }
/-- How one object may go on: references to it stay what they are. -/
def ObGo (w : World) (k : Option Nat) (w' : World) (k' : Option Nat) : Ob → Ob → Prop
  | .free, _ => True
  | _, .dead => True
  | .var _ _ _, .var _ _ _ => k' = k
  | .row es s _, .row es' s' _ => s' = s ∧ es.length ≤ es'.length ∧ (es.length = es'.length → k' = k)
  | .map _ _, .map _ _ => k' = k ∧
      ∀ (b : Nat) (es : Array MapEntry) (clock j : Nat) (me : MapEntry), k = some b → w.heap[b]? = some (.map es clock) → es[j]? = some me →
        ∃ (es' : Array MapEntry) (clock' : Nat) (me' : MapEntry), w'.heap[b]? = some (.map es' clock') ∧ es'[j]? = some me' ∧ me'.born = me.born
  | _, _ => False

/-- How a frame may go on: what was known of a value is known still. -/
structure Goes (w : World) (m : Emb) (os : List Ob) (w' : World) (m' : Emb) (os' : List Ob) : Prop where
  kept : Kept m w m' w'
  obj : ∀ o, ObGo w (m.blk o) w' (m'.blk o) (obAt os o) (obAt os' o)

theorem ObGo.refl (w : World) (k : Option Nat) (b : Ob) : ObGo w k w k b b := by
  cases b <;> simp [ObGo]
  exact fun b es clock j me _ h1 h2 => ⟨es, ⟨clock, h1⟩, me, h2, rfl⟩
theorem ObGo.trans {w w1 w2 : World} {k k1 k2 : Option Nat} {b b1 b2 : Ob} (h : ObGo w k w1 k1 b b1) (g : ObGo w1 k1 w2 k2 b1 b2) : ObGo w k w2 k2 b b2 := by
  cases b <;> cases b1 <;> cases b2 <;> simp only [ObGo] at h g ⊢ <;> try trivial
  · exact g.trans h
  · obtain ⟨h1, h2, h3⟩ := h; obtain ⟨g1, g2, g3⟩ := g
    refine ⟨g1.trans h1, Nat.le_trans h2 g2, fun he => ?_⟩
    rw [g3 (by omega), h3 (by omega)]
  · obtain ⟨h1, h3⟩ := h; obtain ⟨g1, g3⟩ := g
    refine ⟨g1.trans h1, fun b es clock j me hb h4 h5 => ?_⟩
    obtain ⟨es', c', me', h6, h7, h8⟩ := h3 b es clock j me hb h4 h5
    obtain ⟨es2, c2, me2, h9, h10, h11⟩ := g3 b es' c' j me' (h1 ▸ hb) h6 h7
    exact ⟨es2, c2, me2, h9, h10, h11.trans h8⟩
theorem Goes.refl (w : World) (m : Emb) (os : List Ob) : Goes w m os w m os := ⟨.refl _ _, fun _ => .refl _ _ _⟩
theorem Goes.trans {w w1 w2 : World} {m m1 m2 : Emb} {os os1 os2 : List Ob} (h : Goes w m os w1 m1 os1) (g : Goes w1 m1 os1 w2 m2 os2) : Goes w m os w2 m2 os2 :=
  ⟨h.kept.trans g.kept, fun o => (h.obj o).trans (g.obj o)⟩

theorem Slc.go {w w' : World} {m m' : Emb} {bk : Option Nat} {size off len ext : Nat} {v : Value} (k : Kept m w m' w') (h : Slc w bk size off len ext v) : Slc w' bk size off len ext v := by
  rcases h with ⟨b, p, cap, n, h1, h2, h0, h3, h4⟩ | h
  · exact .inl ⟨b, p, cap, n, h1, h2, h0, k.cells _ _ h3, h4⟩
  · exact .inr h

section
variable {w w' : World} {m m' : Emb} {os os' : List Ob}

theorem RArr.go (g : Goes w m os w' m' os') {o off len ext : Nat} {v : Value} (h : RArr w m os o off len ext v) : RArr w' m' os' o off len ext v := by
  have hg := g.obj o
  refine ⟨h.1, ?_⟩
  have h := h.2
  revert h hg
  cases obAt os o <;> cases obAt os' o <;> simp only [ObGo] <;> intro hg h <;> first
    | trivial
    | exact h.elim
    | exact hg.elim
    | (obtain ⟨h1, h2, h3⟩ := hg
       refine ⟨by omega, fun he hl => ?_⟩
       rw [h3 (by omega), h1]
       exact (h.2 (by omega) hl).go g.kept)
theorem RPtr.go (g : Goes w m os w' m' os') {o i : Nat} {v : Value} (h : RPtr m os o i v) : RPtr m' os' o i v := by
  have hg := g.obj o
  refine ⟨h.1, ?_⟩
  have h := h.2
  revert h hg
  cases obAt os o <;> cases obAt os' o <;> simp only [ObGo] <;> intro hg h <;> first
    | trivial
    | exact h.elim
    | exact hg.elim
    | (rw [hg]; exact h)
theorem REp.go (g : Goes w m os w' m' os') {o j i ext : Nat} {v : Value} (h : REp m os o j i ext v) : REp m' os' o j i ext v := by
  have hg := g.obj o
  refine ⟨h.1, ?_⟩
  have h := h.2
  revert h hg
  cases obAt os o <;> cases obAt os' o <;> simp only [ObGo] <;> intro hg h <;> first
    | trivial
    | exact h.elim
    | exact hg.elim
    | (obtain ⟨h1, h2, h3⟩ := hg
       refine ⟨by omega, fun he => ?_⟩
       rw [h3 (by omega), h1]
       exact h.2 (by omega))
theorem RMp.go (g : Goes w m os w' m' os') {o : Nat} {v : Value} (h : RMp m os o v) : RMp m' os' o v := by
  have hg := g.obj o
  refine ⟨h.1, ?_⟩
  have h := h.2
  revert h hg
  cases obAt os o <;> cases obAt os' o <;> simp only [ObGo] <;> intro hg h <;> first
    | trivial
    | exact h.elim
    | exact hg.elim
    | (rw [hg.1]; exact h)
theorem RStamp.go (g : Goes w m os w' m' os') {o j : Nat} {v : Value} (h : RStamp w m os o j v) : RStamp w' m' os' o j v := by
  have hg := g.obj o
  refine ⟨h.1, ?_⟩
  have h := h.2
  revert h hg
  cases obAt os o <;> cases obAt os' o <;> simp only [ObGo] <;> intro hg h <;> first
    | trivial
    | exact h.elim
    | exact hg.elim
    | (obtain ⟨h1, h3⟩ := hg
       obtain ⟨b, es, clock, me, g1, g2, g4, g5⟩ := h
       obtain ⟨es', c', me', g6, g7, g8⟩ := h3 b es clock j me g1 g2 g4
       exact ⟨b, es', c', me', h1.trans g1, g6, g7, by rw [g8]; exact g5⟩)

theorem Goes.still (g : Goes w m os w' m' os') {b : Nat} (h : m.still b) {x : Obj} (hb : w.heap[b]? = some x) : m'.still b ∧ w'.heap[b]? = w.heap[b]? := by
  obtain ⟨hlt, _⟩ := Array.getElem?_eq_some_iff.1 hb
  obtain ⟨h1, h2⟩ := g.kept.block b hlt h
  exact ⟨fun o => by rw [h2]; exact h o, h1⟩
theorem Goes.frozen {env : Env} (g : Goes w m os w' m' os') (r : ORel env w m os) {b : Nat} (h : m.own b = .frozen) : m'.own b = .frozen ∧ w'.heap[b]? = w.heap[b]? := by
  obtain ⟨h1, h2⟩ := g.kept.block b (r.frozen b h) (by simp [h])
  exact ⟨h2.trans h, h1⟩

mutual
theorem RV.go {env : Env} (g : Goes w m os w' m' os') (r : ORel env w m os) : ∀ (a : AV) {v : Value}, RV w m os a v → RV w' m' os' a v
  | .int _ _, _, h => h
  | .bool _, _, h => h
  | .str _, _, h => h
  | .agg cs, _, h => by
    simp only [RV] at h ⊢
    obtain ⟨vs, h1, h2, h3⟩ := h
    exact ⟨vs, h1, h2, RVL.go g r cs h3⟩
  | .sl es, _, h => by
    simp only [RV] at h ⊢
    obtain ⟨h0, a, cap, h1, hle, h2⟩ := h
    refine ⟨h0, a, cap, h1, hle, ?_⟩
    rcases h2 with h2 | ⟨b, off, cs, T, fr, size, h2, h3, h4, h5⟩
    · exact .inl h2
    · obtain ⟨h6, h7⟩ := g.frozen r h3
      exact .inr ⟨b, off, cs, T, fr, size, h2, h6, h7.trans h4, RVE.go g r size es h5⟩
  | .lsl es, _, h => by
    simp only [RV] at h ⊢
    obtain ⟨h0, a, cap, h1, hle, h2⟩ := h
    refine ⟨h0, a, cap, h1, hle, ?_⟩
    rcases h2 with h2 | ⟨b, off, cs, T, fr, size, h2, h3, h4, h5⟩
    · exact .inl h2
    · obtain ⟨h6, h7⟩ := g.still h3 h4
      exact .inr ⟨b, off, cs, T, fr, size, h2, h6, h7.trans h4, RVE.go g r size es h5⟩
  | .gone, _, _ => by simp only [RV]
  | .nils, _, h => by simpa only [RV] using h
  | .arr .., _, h => by simp only [RV] at h ⊢; exact h.go g
  | .ptr .., _, h => by simp only [RV] at h ⊢; exact h.go g
  | .ep .., _, h => by simp only [RV] at h ⊢; exact h.go g
  | .fp e i, _, h => by
    obtain ⟨h0, b, off, cs, T, fr, h1, h2, h3, vs, rest, h4, h5⟩ := RV_fp.1 h
    obtain ⟨h6, h7⟩ := g.still h2 h3
    exact RV_fp.2 ⟨h0, b, off, cs, T, fr, h1, h6, h7.trans h3, vs, rest, h4, RVC.go' g r e h5⟩
  | .nilp, _, h => by simpa only [RV] using h
  | .mp _, _, h => by simp only [RV] at h ⊢; exact h.go g
  | .nilm, _, h => by simpa only [RV] using h
  | .fn f cs, _, h => by
    simp only [RV] at h ⊢
    obtain ⟨vs, h1, h3⟩ := h
    exact ⟨vs, h1, RVL.go g r cs h3⟩
  | .nilf, _, h => by simpa only [RV] using h
  | .tup cs, _, h => by
    simp only [RV] at h ⊢
    obtain ⟨vs, h1, h3⟩ := h
    exact ⟨vs, h1, RVL.go g r cs h3⟩
  | .stamp .., _, h => by simp only [RV] at h ⊢; exact h.go g
  | .und, _, h => by simpa only [RV] using h
  | .any, _, h => by simpa only [RV] using h
termination_by a => (SizeOf.sizeOf a, 0)
decreasing_by all_goals (apply Prod.Lex.left; simp; try omega)
theorem RVL.go {env : Env} (g : Goes w m os w' m' os') (r : ORel env w m os) : ∀ (cs : List AV) {vs : List Value}, RVL w m os cs vs → RVL w' m' os' cs vs
  | [], _, h => by simpa only [RVL] using h
  | c :: cs, _, h => by
    simp only [RVL] at h ⊢
    obtain ⟨v, t, h1, h2, h3⟩ := h
    exact ⟨v, t, h1, RV.go g r c h2, RVL.go g r cs h3⟩
termination_by cs => (SizeOf.sizeOf cs, 0)
decreasing_by all_goals (apply Prod.Lex.left; simp; try omega)
theorem RVC.go' {env : Env} (g : Goes w m os w' m' os') (r : ORel env w m os) : ∀ (e : AV) {vs : List Value}, RVC w m os e vs → RVC w' m' os' e vs
  | .agg ds, _, h => ⟨h.1, RVL.go g r ds h.2⟩
  | .int _ _, _, ⟨h, v, h1, h2⟩ => ⟨h, v, h1, RV.go g r _ h2⟩
  | .bool _, _, ⟨h, v, h1, h2⟩ => ⟨h, v, h1, RV.go g r _ h2⟩
  | .str _, _, ⟨h, v, h1, h2⟩ => ⟨h, v, h1, RV.go g r _ h2⟩
  | .sl es, _, ⟨h, v, h1, h2⟩ => ⟨h, v, h1, RV.go g r (.sl es) h2⟩
  | .lsl es, _, ⟨h, v, h1, h2⟩ => ⟨h, v, h1, RV.go g r (.lsl es) h2⟩
  | .gone, _, ⟨h, _⟩ => by simp [AV.plain] at h
  | .nils, _, ⟨h, v, h1, h2⟩ => ⟨h, v, h1, RV.go g r _ h2⟩
  | .arr .., _, ⟨h, v, h1, h2⟩ => ⟨h, v, h1, RV.go g r _ h2⟩
  | .ptr .., _, ⟨h, v, h1, h2⟩ => ⟨h, v, h1, RV.go g r _ h2⟩
  | .ep .., _, ⟨h, v, h1, h2⟩ => ⟨h, v, h1, RV.go g r _ h2⟩
  | .fp e i, _, ⟨h, v, h1, h2⟩ => ⟨h, v, h1, RV.go g r (.fp e i) h2⟩
  | .nilp, _, ⟨h, v, h1, h2⟩ => ⟨h, v, h1, RV.go g r _ h2⟩
  | .mp _, _, ⟨h, v, h1, h2⟩ => ⟨h, v, h1, RV.go g r _ h2⟩
  | .nilm, _, ⟨h, v, h1, h2⟩ => ⟨h, v, h1, RV.go g r _ h2⟩
  | .fn f cs, _, ⟨h, v, h1, h2⟩ => ⟨h, v, h1, RV.go g r (.fn f cs) h2⟩
  | .nilf, _, ⟨h, v, h1, h2⟩ => ⟨h, v, h1, RV.go g r _ h2⟩
  | .tup cs, _, ⟨h, _⟩ => by simp [AV.plain] at h
  | .stamp .., _, ⟨h, v, h1, h2⟩ => ⟨h, v, h1, RV.go g r _ h2⟩
  | .und, _, ⟨h, _⟩ => by simp [AV.plain] at h
  | .any, _, ⟨h, v, h1, h2⟩ => ⟨h, v, h1, RV.go g r _ h2⟩
termination_by e => (SizeOf.sizeOf e, 1)
decreasing_by all_goals first | (apply Prod.Lex.left; simp; done) | (apply Prod.Lex.right; decide)
theorem RVE.go {env : Env} (g : Goes w m os w' m' os') (r : ORel env w m os) : ∀ (size : Nat) (es : List AV) {vs : List Value}, RVE w m os size es vs → RVE w' m' os' size es vs
  | _, [], _, _ => by rw [RVE]; trivial
  | size, e :: es, l, h => by
    obtain ⟨vs, rest, h1, h2, h3, h4⟩ := RVE_cons.1 h
    exact RVE_cons.2 ⟨vs, rest, h1, h2, RVC.go' g r e h3, RVE.go g r size es h4⟩
termination_by _ es => (SizeOf.sizeOf es, 0)
decreasing_by all_goals (apply Prod.Lex.left; simp; try omega)
end
theorem RVC.go {env : Env} (g : Goes w m os w' m' os') (r : ORel env w m os) {e : AV} {vs : List Value} (h : RVC w m os e vs) : RVC w' m' os' e vs := RVC.go' g r e h
end
end Go.V
namespace Go.V

theorem obAt_setOb (os : List Ob) (o : Nat) (b : Ob) (p : Nat) : obAt (setOb os o b) p = if p = o then b else obAt os p := by
  induction os generalizing o p with
  | nil =>
    induction o generalizing p with
    | zero => cases p <;> simp [setOb, obAt]
    | succ o ih => cases p with
      | zero => simp [setOb, obAt]
      | succ p => simp only [setOb, obAt, ih]; simp
  | cons x xs ih => cases o <;> cases p <;> simp [setOb, obAt, ih]

section
variable {env : Env} {w w' : World} {m m' : Emb} {os os' : List Ob}

theorem ROM.go (g : Goes w m os w' m' os') (r : ORel env w m os) : ∀ {ents : List (AV × AV)} {es : List MapEntry}, ROM w m os ents es → ROM w' m' os' ents es
  | [], _, h => h
  | (_, _) :: _, _, ⟨me, rest, h1, h2, h3, h4, h5⟩ => ⟨me, rest, h1, h2, RV.go g r _ h3, RV.go g r _ h4, ROM.go g r h5⟩

theorem Owns.go (g : Goes w m os w' m' os') {o b : Nat} {lk : Lk} (hb : b < w.heap.size)
    (hown : ∀ b, m.own b = .mine o → w'.heap[b]? = w.heap[b]? ∧ m'.own b = .mine o) (h : Owns m o b lk) : Owns m' o b lk ∧ w'.heap[b]? = w.heap[b]? := by
  cases lk with
  | mine => exact ⟨(hown b h).2, (hown b h).1⟩
  | frozen =>
    have h1 : m.own b = .frozen := h
    obtain ⟨h2, h3⟩ := g.kept.block b hb (by simp [h1])
    exact ⟨h3.trans h1, h2⟩
  | lent =>
    have h1 : m.own b = .foreign := h
    obtain ⟨h2, h3⟩ := g.kept.block b hb (by simp [h1])
    exact ⟨h3.trans h1, h2⟩

theorem lt_of_heap {b : Nat} {x : Obj} (h : w.heap[b]? = some x) : b < w.heap.size := by
  obtain ⟨h, _⟩ := Array.getElem?_eq_some_iff.1 h
  exact h

/-- An object that is not turned. -/
theorem RO.go (g : Goes w m os w' m' os') (r : ORel env w m os) {o : Nat} (hblk : m'.blk o = m.blk o)
    (hown : ∀ b, m.own b = .mine o → w'.heap[b]? = w.heap[b]? ∧ m'.own b = .mine o) {ob : Ob} (h : RO w m os o ob) : RO w' m' os' o ob := by
  cases ob with
  | var e size lk =>
    obtain ⟨b, cs, T, fr, h1, h2, h3, h4, h5, h6⟩ := h
    obtain ⟨h7, h8⟩ := h6.go g (lt_of_heap h2) hown
    exact ⟨b, cs, T, fr, hblk.trans h1, h8.trans h2, h3, h4, h5.go g r, h7⟩
  | row es size lk =>
    rcases h with ⟨h1, h2⟩ | ⟨b, cs, T, fr, h1, h2, h3, h4, h6⟩
    · exact .inl ⟨h1, hblk.trans h2⟩
    · obtain ⟨h7, h8⟩ := h6.go g (lt_of_heap h2) hown
      exact .inr ⟨b, cs, T, fr, hblk.trans h1, h8.trans h2, h3, h4.go g r, h7⟩
  | map ents lk =>
    obtain ⟨b, es, clock, h1, h2, h3, h4, h5, h6⟩ := h
    obtain ⟨h7, h8⟩ := h6.go g (lt_of_heap h2) hown
    exact ⟨b, es, clock, hblk.trans h1, h8.trans h2, h3.go g r, h4, h5, h7⟩
  | dead => trivial
  | free => trivial

/-- One object is turned. -/
theorem ORel.set (r : ORel env w m os) {o : Nat} {ob : Ob} (g : Goes w m os w' m' (setOb os o ob)) (ho : RO w' m' (setOb os o ob) o ob)
    (hp : ∀ p, p ≠ o → m'.blk p = m.blk p ∧ ∀ b, m.own b = .mine p → w'.heap[b]? = w.heap[b]? ∧ m'.own b = .mine p)
    (hmine : ∀ b p, m'.own b = .mine p → (p ≠ o ∧ m.own b = .mine p) ∨ (p = o ∧ b < w'.heap.size ∧ m'.blk o = some b ∧ ob.lk = some .mine))
    (hfrozen : ∀ b, m'.own b = .frozen → b < w'.heap.size) : ORel env w' m' (setOb os o ob) := {
  obs p := by
    rw [obAt_setOb]
    by_cases hpo : p = o
    · rw [if_pos hpo, hpo]; exact ho
    · rw [if_neg hpo]; exact (r.obs p).go g r (hp p hpo).1 (hp p hpo).2
  mine b p h := by
    rcases hmine b p h with ⟨h1, h2⟩ | ⟨h1, h2, h3, h4⟩
    · obtain ⟨h3, h4, h5⟩ := r.mine b p h2
      refine ⟨Nat.lt_of_lt_of_le h3 g.kept.size, (hp p h1).1.trans h4, ?_⟩
      rw [obAt_setOb, if_neg h1]; exact h5
    · subst h1; exact ⟨h2, h3, by rw [obAt_setOb, if_pos rfl]; exact h4⟩
  frozen := hfrozen
  glob x e h := by
    obtain ⟨h0, h1, cs, T, fr, h2, h3⟩ := r.glob x e h
    obtain ⟨h4, h5⟩ := g.frozen r h1
    exact ⟨h0, h4, cs, T, fr, h5.trans h2, h3.go g r⟩ }
theorem RVE_nil {size : Nat} {l : List Value} : RVE w m os size [] l := by rw [RVE]; trivial

theorem RVE.drop {size : Nat} : ∀ (n : Nat) {es : List AV} {l : List Value}, RVE w m os size es l → n ≤ es.length → RVE w m os size (es.drop n) (l.drop (n * size))
  | 0, _, _, h, _ => by simpa using h
  | n + 1, [], _, _, hn => by simp at hn
  | n + 1, e :: es, l, h, hn => by
    obtain ⟨vs, rest, h1, h2, h3, h4⟩ := RVE_cons.1 h
    have := RVE.drop n h4 (by simpa using hn)
    rw [List.drop_succ_cons, h1, Nat.succ_mul, Nat.add_comm, ← List.drop_drop, ← h2, List.drop_left, h2]
    exact this
theorem RVE.take {size : Nat} : ∀ (n : Nat) {es : List AV} {l : List Value}, RVE w m os size es l → RVE w m os size (es.take n) l
  | 0, _, _, _ => by rw [List.take_zero]; exact RVE_nil
  | n + 1, [], _, _ => by rw [List.take_nil]; exact RVE_nil
  | n + 1, e :: es, l, h => by
    obtain ⟨vs, rest, h1, h2, h3, h4⟩ := RVE_cons.1 h
    rw [List.take_succ_cons]
    exact RVE_cons.2 ⟨vs, rest, h1, h2, h3, RVE.take n h4⟩

theorem RV_nils {v : Value} : RV w m os .nils v ↔ ∃ a, v = .slice a 0 0 := by simp only [RV]
theorem RV_sl {es : List AV} {v : Value} : RV w m os (.sl es) v ↔ AV.clsL es = true ∧ ∃ a cap, v = .slice a es.length cap ∧ es.length ≤ cap ∧ (es = [] ∨ ∃ b off cs T fr size, a = some ⟨b, off, none⟩ ∧ m.own b = .frozen ∧
    w.heap[b]? = some (.cells cs T fr) ∧ RVE w m os size es (cs.toList.drop off)) := by simp only [RV]
theorem RV_lsl {es : List AV} {v : Value} : RV w m os (.lsl es) v ↔ AV.clsL es = true ∧ ∃ a cap, v = .slice a es.length cap ∧ es.length ≤ cap ∧ (es = [] ∨ ∃ b off cs T fr size, a = some ⟨b, off, none⟩ ∧ m.still b ∧
    w.heap[b]? = some (.cells cs T fr) ∧ RVE w m os size es (cs.toList.drop off)) := by simp only [RV]
theorem clsL_cons {v : AV} {vs : List AV} : AV.clsL (v :: vs) = (v.cls && AV.clsL vs) := by rw [AV.clsL]
theorem clsL_mem : ∀ {vs : List AV}, AV.clsL vs = true → ∀ v ∈ vs, v.cls = true
  | [], _, _, h => by simp at h
  | u :: us, h, v, hv => by
    rw [clsL_cons, Bool.and_eq_true] at h
    rcases List.mem_cons.1 hv with h1 | h1
    · rw [h1]; exact h.1
    · exact clsL_mem h.2 v h1
theorem clsL_of : ∀ {vs : List AV}, (∀ v ∈ vs, v.cls = true) → AV.clsL vs = true
  | [], _ => by rw [AV.clsL]
  | u :: us, h => by
    rw [clsL_cons, Bool.and_eq_true]
    exact ⟨h u (by simp), clsL_of fun v hv => h v (by simp [hv])⟩
theorem fzC_ok {a b : AV} {v : Value} (h : fzC a = some b) (hv : RV w m os a v) : RV w m os b v ∧ b.plain = a.plain ∧ b.cls = true := by
  unfold fzC at h
  split at h
  · simp only [Option.some.injEq] at h; subst h
    obtain ⟨a, rfl⟩ := RV_nils.1 hv
    exact ⟨RV_sl.2 ⟨by rw [AV.clsL], a, 0, rfl, Nat.le_refl _, .inl rfl⟩, rfl, by rw [AV.cls, AV.clsL]⟩
  · simp at h
  · split at h
    · rename_i hc
      simp only [Option.some.injEq] at h; subst h
      exact ⟨hv, rfl, hc⟩
    · simp at h
theorem fzCs_ok : ∀ {as bs : List AV} {vs : List Value}, fzCs as = some bs → RVL w m os as vs → RVL w m os bs vs ∧ bs.all AV.plain = as.all AV.plain ∧ AV.clsL bs = true
  | [], bs, vs, h, hv => by simp only [fzCs, Option.some.injEq] at h; subst h; exact ⟨hv, rfl, by rw [AV.clsL]⟩
  | a :: as, bs, vs, h, hv => by
    rw [fzCs] at h
    rw [RVL] at hv
    obtain ⟨v, r, h1, h2, h3⟩ := hv
    cases ha : fzC a with
    | none => simp [ha] at h
    | some b => cases has : fzCs as with
      | none => simp [ha, has] at h
      | some bs' =>
        simp only [ha, has, Option.some.injEq] at h
        subst h
        obtain ⟨h4, h5, h8⟩ := fzC_ok ha h2
        obtain ⟨h6, h7, h9⟩ := fzCs_ok has h3
        refine ⟨?_, by simp [h5, h7], by rw [clsL_cons, h8, h9]; rfl⟩
        rw [RVL]
        exact ⟨v, r, h1, h4, h6⟩
theorem fzE_ok {a b : AV} {vs : List Value} (h : fzE a = some b) (hv : RVC w m os a vs) : RVC w m os b vs ∧ b.cls = true := by
  cases a with
  | agg cs =>
    simp only [fzE, Option.map_eq_some_iff] at h
    obtain ⟨ds, h1, h2⟩ := h
    subst h2
    obtain ⟨h3, h4, h5⟩ := fzCs_ok h1 hv.2
    exact ⟨⟨h4.trans hv.1, h3⟩, by rw [AV.cls]; exact h5⟩
  | _ =>
    obtain ⟨h1, v, h2, h3⟩ := hv
    simp only [fzE] at h
    obtain ⟨h4, h5, h6⟩ := fzC_ok h h3
    refine ⟨?_, h6⟩
    cases b <;> first
      | exact ⟨h5.trans h1, v, h2, h4⟩
      | (rw [h1] at h5; simp [AV.plain] at h5)
theorem fzEs_ok {size : Nat} : ∀ {as bs : List AV} {vs : List Value}, fzEs as = some bs → RVE w m os size as vs → RVE w m os size bs vs ∧ bs.length = as.length ∧ AV.clsL bs = true
  | [], bs, vs, h, hv => by simp only [fzEs, Option.some.injEq] at h; subst h; exact ⟨RVE_nil, rfl, by rw [AV.clsL]⟩
  | a :: as, bs, vs, h, hv => by
    rw [fzEs] at h
    obtain ⟨us, r, h1, h2, h3, h0⟩ := RVE_cons.1 hv
    cases ha : fzE a with
    | none => simp [ha] at h
    | some b => cases has : fzEs as with
      | none => simp [ha, has] at h
      | some bs' =>
        simp only [ha, has, Option.some.injEq] at h
        subst h
        obtain ⟨h6, h7, h8⟩ := fzEs_ok has h0
        obtain ⟨h4, h5⟩ := fzE_ok ha h3
        exact ⟨RVE_cons.2 ⟨us, r, h1, h2, h4, h6⟩, by simp [h7], by rw [clsL_cons, h5, h8]; rfl⟩

/-- One more piece of a run. -/
structure Next (env : Env) (w : World) (m : Emb) (os : List Ob) (n : Nat) (w' : World) (m' : Emb) (os' : List Ob) (n' : Nat) : Prop where
  rel : ORel env w' m' os'
  goes : Goes w m os w' m' os'
  le : n ≤ n'
  free : ∀ p, n' ≤ p → obAt os p = .free → obAt os' p = .free
def Fresh (os : List Ob) (n n' : Nat) : Prop := ∀ p, n ≤ p → p < n' → obAt os p = .free

theorem Next.refl {n : Nat} (r : ORel env w m os) : Next env w m os n w m os n := ⟨r, .refl _ _ _, Nat.le_refl _, fun _ _ h => h⟩
theorem Next.trans {w1 w2 : World} {m1 m2 : Emb} {os1 os2 : List Ob} {n n1 n2 : Nat} (h : Next env w m os n w1 m1 os1 n1) (k : Next env w1 m1 os1 n1 w2 m2 os2 n2) :
    Next env w m os n w2 m2 os2 n2 :=
  ⟨k.rel, h.goes.trans k.goes, Nat.le_trans h.le k.le, fun p hp hf => k.free p hp (h.free p (Nat.le_trans k.le hp) hf)⟩
theorem Next.fresh {w1 : World} {m1 : Emb} {os1 : List Ob} {n n1 n2 : Nat} (h : Next env w m os n w1 m1 os1 n1) (hf : Fresh os n n2) : Fresh os1 n1 n2 :=
  fun p h1 h2 => h.free p h1 (hf p (Nat.le_trans h.le h1) h2)

end
end Go.V
namespace Go.V
section
variable {env : Env} {w w' : World} {m m' : Emb} {os os' : List Ob}

def Emb.setOwn (m : Emb) (b : Nat) (x : Own) : Emb := { m with own := fun c => if c = b then x else m.own c }

theorem Slc.facts {bk : Option Nat} {size off len ext : Nat} {v : Value} (h : Slc w bk size off len ext v) (hl : off + len ≤ ext) :
    (∃ b p cap n, bk = some b ∧ v = .slice (some ⟨b, p, none⟩) len cap ∧ (cap ≠ 0 → p = off * size) ∧ cellsN w b = some n ∧ (off + cap) * size ≤ n ∧ ext ≤ off + cap ∧ len ≤ cap) ∨
    (bk = none ∧ off = 0 ∧ len = 0 ∧ ext = 0 ∧ ∃ a, v = .slice a 0 0) := by
  rcases h with h | ⟨h1, h2, h3⟩
  · exact .inl h
  · exact .inr ⟨h1, by omega, by omega, h2, h3⟩

/-- Giving up: the memory stays as it is. -/
theorem giveUp_ok {o off len ext n n' : Nat} {v : Value} {a : AV} (r : ORel env w m os) (hv : RV w m os (.arr o off len ext) v)
    (h : (giveUp o off len ext).runAt os n = some (a, os', n')) : ∃ m', Next env w m os n w m' os' n' ∧ RV w m' os' a v := by
  simp only [RV] at hv
  obtain ⟨_, hv⟩ := hv
  have hr := r.obs o
  have ht := r.mine
  simp only [giveUp, HM.runAt] at h
  cases hob : obAt os o with
  | row es s lk =>
    rw [hob] at h hv hr
    dsimp only at h hv
    split at h
    case isFalse => simp [HM.runAt] at h
    rename_i hc
    obtain ⟨hc1, hc2, hc3⟩ := hc
    cases hfz : fzEs es with
    | none => simp [hfz, HM.runAt] at h
    | some fs =>
      simp only [hfz, HM.runAt, Option.some.injEq, Prod.mk.injEq] at h
      obtain ⟨ha, hos, hn⟩ := h
      subst ha hos hn
      have hsl := (hv.2 hc1 (by omega)).facts (by omega)
      rcases hr with ⟨he, hb⟩ | ⟨b, cs, T, fr, hb, hh, hfr, hre, hown⟩
      · -- no block
        subst he
        simp only [fzEs, Option.some.injEq] at hfz
        subst hfz
        have g : Goes w m os w m (setOb os o (.row [] s .frozen)) := ⟨.refl _ _, fun p => by
          rw [obAt_setOb]
          split
          · rename_i hp; subst hp; rw [hob]; simp [ObGo]
          · exact .refl _ _ _⟩
        refine ⟨m, ⟨?_, g, Nat.le_refl _, fun p hp hf => ?_⟩, ?_⟩
        · refine r.set g (.inl ⟨rfl, hb⟩) (fun p hp => ⟨rfl, fun b h => ⟨rfl, h⟩⟩) (fun b p h => ?_) r.frozen
          by_cases hpo : p = o
          · subst hpo; have := (r.mine b p h).2.1; rw [hb] at this; simp at this
          · exact .inl ⟨hpo, h⟩
        · rw [obAt_setOb]; split
          · rename_i hp'; subst hp'; rw [hob] at hf; simp at hf
          · exact hf
        · rcases hsl with ⟨b, p, cap, n, h1, _⟩ | ⟨_, h1, h2, _, a, h3⟩
          · rw [hb] at h1; simp at h1
          · exact RV_sl.2 ⟨by simp [AV.clsL], a, 0, by simp [h3], by simp, .inl (by simp)⟩
      · obtain ⟨hfe, hfl, hfc⟩ := fzEs_ok hfz hre
        have hob' : m.own b = .mine o ∨ m.own b = .frozen := by
          cases lk with
          | mine => exact .inl hown
          | frozen => exact .inr hown
          | lent => exact absurd rfl hc3
        have g : Goes w m os w (m.setOwn b .frozen) (setOb os o (.row fs s .frozen)) := by
          refine ⟨⟨Nat.le_refl _, rfl, rfl, rfl, fun c hcl hcm => ⟨rfl, ?_⟩, fun _ _ h => h⟩, fun p => ?_⟩
          · simp only [Emb.setOwn]
            split
            · rename_i hcb; subst hcb
              rcases hob' with h | h
              · exact absurd h (hcm o)
              · exact h.symm
            · rfl
          · rw [obAt_setOb]
            split
            · rename_i hp; subst hp; rw [hob]; exact ⟨rfl, by omega, fun _ => rfl⟩
            · exact .refl _ _ _
        have hlt : b < w.heap.size := lt_of_heap hh
        refine ⟨m.setOwn b .frozen, ⟨?_, g, Nat.le_refl _, fun p hp hf => ?_⟩, ?_⟩
        · refine r.set g (.inr ⟨b, cs, T, fr, hb, hh, hfr, hfe.go g r, by simp [Owns, Emb.setOwn]⟩) (fun p hp => ⟨rfl, fun c h => ⟨rfl, ?_⟩⟩) (fun c p h => ?_) (fun c h => ?_)
          · simp only [Emb.setOwn]
            split
            · rename_i hcb; subst hcb
              rcases hob' with h' | h'
              · rw [h'] at h; injection h with h; exact absurd h.symm hp
              · rw [h'] at h; simp at h
            · exact h
          · simp only [Emb.setOwn] at h
            split at h
            · simp at h
            · rename_i hcb
              by_cases hpo : p = o
              · subst hpo; have := (r.mine c p h).2.1; rw [hb] at this; injection this with this; exact absurd this.symm hcb
              · exact .inl ⟨hpo, h⟩
          · simp only [Emb.setOwn] at h
            split at h
            · rename_i hcb; subst hcb; exact hlt
            · exact r.frozen c h
        · rw [obAt_setOb]; split
          · rename_i hp'; subst hp'; rw [hob] at hf; simp at hf
          · exact hf
        · rcases hsl with ⟨b', p, cap, n, h1, h2, hp0, _, _, _, hlc⟩ | ⟨h1, _⟩
          · rw [hb] at h1; injection h1 with h1; subst h1
            have hlen : ((fs.drop off).take len).length = len := by rw [List.length_take, List.length_drop]; omega
            refine RV_sl.2 ⟨clsL_of fun v hv => clsL_mem hfc v (List.mem_of_mem_drop (List.mem_of_mem_take hv)), some ⟨b, p, none⟩, cap, by rw [hlen]; exact h2, by rw [hlen]; exact hlc, ?_⟩
            by_cases hl0 : len = 0
            · exact .inl (by rw [hl0]; simp)
            · have := hp0 (by omega)
              subst this
              exact .inr ⟨b, off * s, cs, T, fr, s, rfl, by simp [Emb.setOwn], hh, ((hfe.go g r).drop off (by omega)).take len⟩
          · rw [hb] at h1; simp at h1
  | _ => rw [hob] at h; simp [HM.runAt] at h

theorem runAt_bind {α β : Type} {x : HM α} {f : α → HM β} {n : Nat} {r : β × List Ob × Nat} :
    (x.bind f).runAt os n = some r ↔ ∃ a os1 n1, x.runAt os n = some (a, os1, n1) ∧ (f a).runAt os1 n1 = some r := by
  induction x generalizing os n with
  | ret a =>
    simp only [HM.bind, HM.runAt, Option.some.injEq, Prod.mk.injEq]
    constructor
    · intro h; exact ⟨a, os, n, ⟨rfl, rfl, rfl⟩, h⟩
    · rintro ⟨_, _, _, ⟨rfl, rfl, rfl⟩, h⟩; exact h
  | fail => simp [HM.bind, HM.runAt]
  | get o k ih => simp only [HM.bind, HM.runAt]; exact ih _
  | set o b k ih => simp only [HM.bind, HM.runAt]; exact ih
  | new b k ih => simp only [HM.bind, HM.runAt]; exact ih _
theorem runAt_le {α : Type} {x : HM α} {n : Nat} {a : α} {os1 : List Ob} {n1 : Nat} (h : x.runAt os n = some (a, os1, n1)) : n ≤ n1 := by
  induction x generalizing os n with
  | ret a => simp only [HM.runAt, Option.some.injEq, Prod.mk.injEq] at h; omega
  | fail => simp [HM.runAt] at h
  | get o k ih => exact ih _ h
  | set o b k ih => exact ih h
  | new b k ih => have := ih _ h; omega

theorem Fresh.mono {n n1 n2 : Nat} (h : Fresh os n n2) (hn : n1 ≤ n2) : Fresh os n n1 := fun p h1 h2 => h p h1 (by omega)

/-- A step that leaves the memory as it is: it reads a value in another way. -/
def Ghost (env : Env) (w : World) {α : Type} (x : HM α) (m : Emb) (os : List Ob) (P : Emb → List Ob → α → Prop) : Prop :=
  ∀ n a os' n', x.runAt os n = some (a, os', n') → Fresh os n n' → ∃ m', Next env w m os n w m' os' n' ∧ P m' os' a

theorem Ghost.ret {α : Type} {a : α} {P : Emb → List Ob → α → Prop} (r : ORel env w m os) (h : P m os a) : Ghost env w (.ret a) m os P := by
  intro n b os' n' hr _
  simp only [HM.runAt, Option.some.injEq, Prod.mk.injEq] at hr
  obtain ⟨rfl, rfl, rfl⟩ := hr
  exact ⟨m, .refl r, h⟩
theorem Ghost.bind {α β : Type} {x : HM α} {f : α → HM β} {P : Emb → List Ob → α → Prop} {Q : Emb → List Ob → β → Prop}
    (hx : Ghost env w x m os P)
    (hf : ∀ m1 os1 a, ORel env w m1 os1 → Goes w m os w m1 os1 → P m1 os1 a → Ghost env w (f a) m1 os1 Q) : Ghost env w (x.bind f) m os Q := by
  intro n b os' n' hr hfr
  obtain ⟨a, os1, n1, h1, h2⟩ := runAt_bind.1 hr
  obtain ⟨m1, h3, h4⟩ := hx n a os1 n1 h1 (hfr.mono (runAt_le h2))
  obtain ⟨m2, h5, h6⟩ := hf m1 os1 a h3.rel h3.goes h4 n1 b os' n' h2 (h3.fresh hfr)
  exact ⟨m2, h3.trans h5, h6⟩
theorem Ghost.mono {α : Type} {x : HM α} {P Q : Emb → List Ob → α → Prop} (hx : Ghost env w x m os P) (h : ∀ m' os' a, ORel env w m' os' → Goes w m os w m' os' → P m' os' a → Q m' os' a) :
    Ghost env w x m os Q := by
  intro n a os' n' hr hfr
  obtain ⟨m', h1, h2⟩ := hx n a os' n' hr hfr
  exact ⟨m', h1, h _ _ _ h1.rel h1.goes h2⟩

theorem freeze0_ok {v : AV} {x : Value} (r : ORel env w m os) (hv : RV w m os v x) : Ghost env w (freeze0 v) m os fun m' os' a => RV w m' os' a x ∧ a.plain = v.plain := by
  cases v with
  | arr o off len ext =>
    intro n a os' n' h _
    obtain ⟨m', h1, h2⟩ := giveUp_ok r hv h
    refine ⟨m', h1, h2, ?_⟩
    simp only [freeze0, giveUp, HM.runAt] at h
    split at h
    · split at h
      · split at h
        · simp only [HM.runAt, Option.some.injEq, Prod.mk.injEq] at h
          rw [← h.1]; rfl
        · simp [HM.runAt] at h
      · simp [HM.runAt] at h
    · simp [HM.runAt] at h
  | nils =>
    refine .ret r ⟨?_, rfl⟩
    obtain ⟨a, rfl⟩ := RV_nils.1 hv
    exact RV_sl.2 ⟨by rw [AV.clsL], a, 0, rfl, Nat.le_refl _, .inl rfl⟩
  | _ => exact .ret r ⟨hv, rfl⟩
theorem RVL_cons {c : AV} {cs : List AV} {l : List Value} : RVL w m os (c :: cs) l ↔ ∃ v t, l = v :: t ∧ RV w m os c v ∧ RVL w m os cs t := by rw [RVL]
theorem freeze0s_ok : ∀ {cs : List AV} {xs : List Value} {m : Emb} {os : List Ob}, ORel env w m os → RVL w m os cs xs →
    Ghost env w (freeze0s cs) m os fun m' os' as => RVL w m' os' as xs ∧ as.all AV.plain = cs.all AV.plain
  | [], xs, _, _, r, hv => .ret r ⟨hv, rfl⟩
  | c :: cs, xs, m, os, r, hv => by
    obtain ⟨v, t, h1, h2, h3⟩ := RVL_cons.1 hv
    refine (freeze0_ok r h2).bind fun m1 os1 a r1 g1 ⟨h4, h5⟩ => ?_
    refine (freeze0s_ok r1 (h3.go g1 r)).bind fun m2 os2 as r2 g2 ⟨h6, h7⟩ => ?_
    exact .ret r2 ⟨RVL_cons.2 ⟨v, t, h1, RV.go g2 r1 _ h4, h6⟩, by simp [h5, h7]⟩

theorem RVC_agg {cs : List AV} {l : List Value} : RVC w m os (.agg cs) l ↔ cs.all AV.plain = true ∧ RVL w m os cs l := .rfl
theorem RVC_plain {e : AV} (h : e.plain = true) {l : List Value} : RVC w m os e l ↔ ∃ v, l = [v] ∧ RV w m os e v := by
  cases e <;> first
    | (simp [AV.plain] at h; done)
    | exact ⟨fun h => h.2, fun h => ⟨rfl, h⟩⟩
/-- not a struct, yet no cell: nothing -/
theorem RVC_cases {e : AV} {l : List Value} (h : RVC w m os e l) : (∃ cs, e = .agg cs) ∨ e.plain = true := by
  cases e <;> first
    | exact .inl ⟨_, rfl⟩
    | exact .inr h.1

theorem freezeE0_ok {e : AV} {xs : List Value} (r : ORel env w m os) (hv : RVC w m os e xs) : Ghost env w (freezeE0 e) m os fun m' os' a => RVC w m' os' a xs := by
  rcases RVC_cases hv with ⟨cs, rfl⟩ | hp
  · have hv := RVC_agg.1 hv
    exact (freeze0s_ok r hv.2).bind fun m1 os1 a r1 g1 ⟨h4, h5⟩ => .ret r1 (RVC_agg.2 ⟨h5.trans hv.1, h4⟩)
  · obtain ⟨v, h1, h2⟩ := (RVC_plain hp).1 hv
    have : freezeE0 e = freeze0 e := by cases e <;> first | rfl | simp [AV.plain] at hp
    rw [this]
    exact (freeze0_ok r h2).mono fun m1 os1 a r1 g1 ⟨h4, h5⟩ => (RVC_plain (h5.trans hp)).2 ⟨v, h1, h4⟩
theorem freezeE0s_ok {size : Nat} : ∀ {es : List AV} {xs : List Value} {m : Emb} {os : List Ob}, ORel env w m os → RVE w m os size es xs →
    Ghost env w (freezeE0s es) m os fun m' os' as => RVE w m' os' size as xs ∧ as.length = es.length
  | [], xs, _, _, r, hv => .ret r ⟨hv, rfl⟩
  | c :: cs, xs, m, os, r, hv => by
    obtain ⟨us, t, h1, h2, h3, h0⟩ := RVE_cons.1 hv
    refine (freezeE0_ok r h3).bind fun m1 os1 a r1 g1 h4 => ?_
    refine (freezeE0s_ok r1 (h0.go g1 r)).bind fun m2 os2 as r2 g2 ⟨h6, h7⟩ => ?_
    exact .ret r2 ⟨RVE_cons.2 ⟨us, t, h1, h2, h4.go g2 r1, h6⟩, by simp [h7]⟩

/-- Another reading of a row: the memory stays as it is. -/
theorem reread {o s n : Nat} {es es' : List AV} (r : ORel env w m os) (hob : obAt os o = .row es s .mine) (hl : es'.length = es.length)
    (he : ∀ b cs T fr, w.heap[b]? = some (.cells cs T fr) → m.blk o = some b → RVE w m os s es cs.toList → RVE w m os s es' cs.toList) :
    Next env w m os n w m (setOb os o (.row es' s .mine)) n := by
  have g : Goes w m os w m (setOb os o (.row es' s .mine)) := ⟨.refl _ _, fun p => by
    rw [obAt_setOb]
    split
    · rename_i hp; subst hp; rw [hob]; exact ⟨rfl, by omega, fun _ => rfl⟩
    · exact .refl _ _ _⟩
  have hr := r.obs o
  rw [hob] at hr
  refine ⟨r.set g ?_ (fun p hp => ⟨rfl, fun b h => ⟨rfl, h⟩⟩) (fun b p h => ?_) r.frozen, g, Nat.le_refl _, fun p _ hf => ?_⟩
  · rcases hr with ⟨h1, h2⟩ | ⟨b, cs, T, fr, h1, h2, h3, h4, h5⟩
    · exact .inl ⟨by subst h1; exact List.length_eq_zero_iff.1 hl, h2⟩
    · exact .inr ⟨b, cs, T, fr, h1, h2, h3, (he b cs T fr h2 h1 h4).go g r, h5⟩
  · by_cases hpo : p = o
    · subst hpo
      obtain ⟨h1, h2, _⟩ := r.mine b p h
      exact .inr ⟨rfl, h1, h2, rfl⟩
    · exact .inl ⟨hpo, h⟩
  · rw [obAt_setOb]; split
    · rename_i hp'; subst hp'; rw [hob] at hf; simp at hf
    · exact hf

theorem deepen_ok {o : Nat} (r : ORel env w m os) : Ghost env w (deepen o) m os fun _ _ _ => True := by
  intro n a os' n' h hfr
  simp only [deepen, HM.runAt] at h
  split at h
  · rename_i es s hob
    split at h
    · exact Ghost.ret (P := fun _ _ _ => True) r trivial n a os' n' h hfr
    · obtain ⟨es', os1, n1, h1, h2⟩ := runAt_bind.1 h
      have hr := r.obs o
      rw [hob] at hr
      have hfr1 : Fresh os n n1 := hfr.mono (runAt_le h2)
      simp only [HM.runAt] at h2
      split at h2
      · rename_i es1 s1 hob1
        split at h2
        · rename_i hl
          simp only [HM.runAt, Option.some.injEq, Prod.mk.injEq] at h2
          obtain ⟨_, rfl, rfl⟩ := h2
          rcases hr with ⟨h3, h4⟩ | ⟨b, cs, T, fr, h3, h4, h5, h6, h7⟩
          · subst h3
            obtain ⟨m1, h8, h9⟩ := freezeE0s_ok (size := s) (xs := []) r RVE_nil n es' os1 n1 h1 hfr1
            have h10 : es' = [] := List.length_eq_zero_iff.1 h9.2
            have hg := h8.goes.obj o
            rw [hob, hob1] at hg
            obtain ⟨hg1, hg2, hg3⟩ := hg
            subst hg1 h10
            exact ⟨m1, h8.trans (reread h8.rel hob1 hl.symm fun _ _ _ _ _ _ _ => RVE_nil), trivial⟩
          · obtain ⟨m1, h8, h9, h10⟩ := freezeE0s_ok r h6 n es' os1 n1 h1 hfr1
            have hg := h8.goes.obj o
            rw [hob, hob1] at hg
            obtain ⟨hg1, hg2, hg3⟩ := hg
            subst hg1
            refine ⟨m1, h8.trans (reread h8.rel hob1 hl.symm fun c cs' T' fr' h11 h12 _ => ?_), trivial⟩
            rw [hg3 (by omega), h3] at h12
            injection h12 with h12
            subst h12
            rw [h4] at h11
            injection h11 with h11
            injection h11 with h11
            subst h11
            exact h9
        · simp [HM.runAt] at h2
      · simp [HM.runAt] at h2
  · exact Ghost.ret (P := fun _ _ _ => True) r trivial n a os' n' h hfr

theorem freeze_ok {v : AV} {x : Value} (r : ORel env w m os) (hv : RV w m os v x) : Ghost env w (freeze v) m os fun m' os' a => RV w m' os' a x ∧ a.plain = v.plain := by
  cases v with
  | arr o off len ext => exact (deepen_ok r).bind fun m1 os1 _ r1 g1 _ => freeze0_ok r1 (RV.go g1 r _ hv)
  | nils => exact freeze0_ok r hv
  | _ => exact .ret r ⟨hv, rfl⟩
theorem freezeCs_ok : ∀ {cs : List AV} {xs : List Value} {m : Emb} {os : List Ob}, ORel env w m os → RVL w m os cs xs →
    Ghost env w (freezeCs cs) m os fun m' os' as => RVL w m' os' as xs ∧ as.all AV.plain = cs.all AV.plain
  | [], xs, _, _, r, hv => .ret r ⟨hv, rfl⟩
  | c :: cs, xs, m, os, r, hv => by
    obtain ⟨v, t, h1, h2, h3⟩ := RVL_cons.1 hv
    refine (freeze_ok r h2).bind fun m1 os1 a r1 g1 ⟨h4, h5⟩ => ?_
    refine (freezeCs_ok r1 (h3.go g1 r)).bind fun m2 os2 as r2 g2 ⟨h6, h7⟩ => ?_
    exact .ret r2 ⟨RVL_cons.2 ⟨v, t, h1, RV.go g2 r1 _ h4, h6⟩, by simp [h5, h7]⟩
theorem plain_storable {e : AV} (h : e.plain = true) : e.storable = true := by cases e <;> first | rfl | simp [AV.plain] at h
theorem storable_plain {e : AV} (h : e.storable = true) : (∃ cs, e = .agg cs) ∨ e.plain = true := by
  cases e <;> first
    | exact .inl ⟨_, rfl⟩
    | exact .inr rfl
    | simp [AV.storable] at h
/-- Of a value of any kind: a struct's cells are frozen, one by one. -/
theorem freezeE_ok {e : AV} {x : Value} (r : ORel env w m os) (hv : RV w m os e x) : Ghost env w (freezeE e) m os fun m' os' a => RV w m' os' a x ∧ a.plain = e.plain ∧ (e.storable = true → a.storable = true) := by
  cases e with
  | agg cs =>
    have hv : ∃ vs, x = .agg vs ∧ cs.all AV.plain = true ∧ RVL w m os cs vs.toList := by simpa only [RV] using hv
    obtain ⟨vs, h1, h2, h3⟩ := hv
    refine (freezeCs_ok r h3).bind fun m1 os1 a r1 g1 ⟨h4, h5⟩ => .ret r1 ⟨?_, rfl, fun _ => rfl⟩
    simp only [RV]
    exact ⟨vs, h1, h5.trans h2, h4⟩
  | _ =>
    refine (freeze_ok r hv).mono fun m1 os1 a r1 g1 ⟨h4, h5⟩ => ⟨h4, h5, fun h => ?_⟩
    rcases storable_plain h with ⟨cs, h6⟩ | h6
    · simp at h6
    · exact plain_storable (h5.trans h6)
theorem putE_ok {nest : Bool} {e : AV} {x : Value} (r : ORel env w m os) (hv : RV w m os e x) : Ghost env w (putE nest e) m os fun m' os' a => RV w m' os' a x ∧ a.plain = e.plain ∧ (e.storable = true → a.storable = true) := by
  cases nest with
  | true => exact .ret r ⟨hv, rfl, fun h => h⟩
  | false => exact freezeE_ok r hv
end
end Go.V
namespace Go.V
section
variable {env : Env} {w w' : World} {m m' : Emb} {os os' : List Ob}

theorem RV_agg {cs : List AV} {v : Value} : RV w m os (.agg cs) v ↔ ∃ vs, v = .agg vs ∧ cs.all AV.plain = true ∧ RVL w m os cs vs.toList := by simp only [RV]
theorem RV_plain {e : AV} {x : Value} (hp : e.plain = true) (h : RV w m os e x) : Value.plain x := by
  cases e <;> first
    | (simp [AV.plain] at hp; done)
    | (simp only [RV] at h; subst h; trivial)
    | (simp only [RV] at h; obtain ⟨_, a, cap, rfl, _⟩ := h; trivial)
    | (simp only [RV] at h; obtain ⟨a, rfl⟩ := h; trivial)
    | (simp only [RV] at h; obtain ⟨⟨a, l, c, rfl⟩, _⟩ := h; trivial)
    | (simp only [RV] at h; obtain ⟨⟨a, rfl⟩, _⟩ := h; trivial)
    | (obtain ⟨_, b, off, cs, T, fr, rfl, _⟩ := RV_fp.1 h; trivial)
    | (simp only [RV] at h; obtain ⟨vs, rfl, _⟩ := h; trivial)
    | (simp only [RV] at h; exact h)
theorem cells_plain {x : Value} (h : Value.plain x) : x.cells = #[x] := by
  cases x <;> first | rfl | exact h.elim
theorem RVL_length : ∀ {cs : List AV} {l : List Value}, RVL w m os cs l → l.length = cs.length
  | [], _, h => by rw [RVL] at h; subst h; rfl
  | _ :: _, _, h => by obtain ⟨v, t, h1, h2, h3⟩ := RVL_cons.1 h; subst h1; simp [RVL_length h3]
theorem RVC_length {e : AV} {l : List Value} (h : RVC w m os e l) : l.length = e.cells.length := by
  rcases RVC_cases h with ⟨cs, rfl⟩ | hp
  · exact RVL_length h.2
  · obtain ⟨v, rfl, _⟩ := (RVC_plain hp).1 h
    cases e <;> first | rfl | simp [AV.plain] at hp
/-- A value's cells. -/
theorem RVC_of_RV {e : AV} {x : Value} (hs : (∃ cs, e = .agg cs) ∨ e.plain = true) (h : RV w m os e x) : RVC w m os e x.cells.toList := by
  rcases hs with ⟨cs, rfl⟩ | hp
  · obtain ⟨vs, rfl, h2, h3⟩ := RV_agg.1 h
    exact ⟨h2, h3⟩
  · rw [RVC_plain hp, cells_plain (RV_plain hp h)]
    exact ⟨x, rfl, h⟩
theorem RVL_append : ∀ {as bs : List AV} {xs ys : List Value}, RVL w m os as xs → RVL w m os bs ys → RVL w m os (as ++ bs) (xs ++ ys)
  | [], _, _, _, h, k => by rw [RVL] at h; subst h; exact k
  | _ :: _, _, _, _, h, k => by
    obtain ⟨v, t, h1, h2, h3⟩ := RVL_cons.1 h
    subst h1
    exact RVL_cons.2 ⟨v, _, rfl, h2, RVL_append h3 k⟩
theorem RVL_drop : ∀ (n : Nat) {as : List AV} {xs : List Value}, RVL w m os as xs → RVL w m os (as.drop n) (xs.drop n)
  | 0, _, _, h => h
  | _ + 1, [], _, h => by rw [RVL] at h; subst h; rw [List.drop_nil, List.drop_nil, RVL]
  | n + 1, _ :: _, _, h => by obtain ⟨v, t, h1, h2, h3⟩ := RVL_cons.1 h; subst h1; exact RVL_drop n h3
theorem RVL_take : ∀ (n : Nat) {as : List AV} {xs : List Value}, RVL w m os as xs → RVL w m os (as.take n) (xs.take n)
  | 0, _, _, h => by rw [List.take_zero, List.take_zero, RVL]
  | _ + 1, [], _, h => by rw [RVL] at h; subst h; rw [List.take_nil, List.take_nil, RVL]
  | n + 1, _ :: _, _, h => by obtain ⟨v, t, h1, h2, h3⟩ := RVL_cons.1 h; subst h1; exact RVL_cons.2 ⟨v, _, rfl, h2, RVL_take n h3⟩
theorem RVL_get : ∀ {i : Nat} {as : List AV} {xs : List Value} {c : AV}, RVL w m os as xs → as[i]? = some c → ∃ x, xs[i]? = some x ∧ RV w m os c x
  | _, [], _, _, _, hc => by simp at hc
  | 0, _ :: _, _, _, h, hc => by
    obtain ⟨v, t, h1, h2, h3⟩ := RVL_cons.1 h; subst h1
    simp only [List.getElem?_cons_zero, Option.some.injEq] at hc; subst hc
    exact ⟨v, rfl, h2⟩
  | i + 1, _ :: _, _, _, h, hc => by
    obtain ⟨v, t, h1, h2, h3⟩ := RVL_cons.1 h; subst h1
    simp only [List.getElem?_cons_succ] at hc ⊢
    exact RVL_get h3 hc
/-- the cells of an element, each a plain value -/
theorem RVC_cells {e : AV} {l : List Value} (h : RVC w m os e l) : RVL w m os e.cells l ∧ e.cells.all AV.plain = true := by
  rcases RVC_cases h with ⟨cs, rfl⟩ | hp
  · exact ⟨h.2, h.1⟩
  · obtain ⟨v, rfl, h1⟩ := (RVC_plain hp).1 h
    have : e.cells = [e] := by cases e <;> first | rfl | simp [AV.plain] at hp
    rw [this]
    exact ⟨RVL_cons.2 ⟨v, [], rfl, h1, by rw [RVL]⟩, by simp [hp]⟩
/-- the element `j` of an array -/
theorem RVE_get {size : Nat} : ∀ {j : Nat} {es : List AV} {l : List Value} {e : AV}, RVE w m os size es l → es[j]? = some e →
    RVC w m os e ((l.drop (j * size)).take size) ∧ j * size + size ≤ l.length
  | _, [], _, _, _, hc => by simp at hc
  | 0, _ :: _, _, _, h, hc => by
    obtain ⟨vs, rest, h1, h2, h3, h4⟩ := RVE_cons.1 h
    simp only [List.getElem?_cons_zero, Option.some.injEq] at hc; subst hc
    subst h1
    rw [Nat.zero_mul, List.drop_zero, ← h2, List.take_left]
    exact ⟨h3, by simp⟩
  | j + 1, _ :: _, _, _, h, hc => by
    obtain ⟨vs, rest, h1, h2, h3, h4⟩ := RVE_cons.1 h
    simp only [List.getElem?_cons_succ] at hc
    obtain ⟨h5, h6⟩ := RVE_get h4 hc
    subst h1
    rw [Nat.succ_mul, Nat.add_comm, ← List.drop_drop, ← h2, List.drop_left, h2]
    refine ⟨h5, ?_⟩
    rw [List.length_append]; omega
end
end Go.V
