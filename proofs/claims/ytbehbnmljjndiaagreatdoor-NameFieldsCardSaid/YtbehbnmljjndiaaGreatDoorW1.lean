/-
  Tables of known calls, tables of a program, limits: more fuel gives the same answer.
-/
import Derived.Test.YtbehbnmljjndiaaGreatDoorV5
import Derived.Attr
set_option linter.unusedVariables false
set_option linter.unusedSimpArgs false
namespace Go.V
/-! ### Calls that are known: tables of closed arguments and results -/
mutual
def AV.beq : AV → AV → Bool
  | .int k a, .int j b => k == j && a == b
  | .bool a, .bool b => a == b
  | .str a, .str b => a.toList == b.toList
  | .agg a, .agg b => AV.beqL a b
  | .sl a, .sl b => AV.beqL a b
  | .nils, .nils => true
  | .nilp, .nilp => true
  | .nilm, .nilm => true
  | .nilf, .nilf => true
  | .fn f a, .fn g b => f == g && a.isEmpty && b.isEmpty
  | _, _ => false
def AV.beqL : List AV → List AV → Bool
  | [], [] => true
  | a :: as, b :: bs => a.beq b && AV.beqL as bs
  | _, _ => false
end
theorem bytes_eq {a b : ByteArray} (h : a.toList = b.toList) : a = b := by
  rw [ByteArray.toList_eq, ByteArray.toList_eq] at h
  exact ByteArray.ext (Array.ext' h)
mutual
theorem AV.beq_eq : ∀ (a b : AV), a.beq b = true → a = b
  | .int k a, b, h => by cases b <;> simp [AV.beq] at h; rw [h.1, h.2]
  | .bool a, b, h => by cases b <;> simp [AV.beq] at h; rw [h]
  | .str a, b, h => by cases b <;> simp [AV.beq] at h; rw [bytes_eq h]
  | .agg a, b, h => by
    cases b <;> simp [AV.beq] at h
    rw [AV.beqL_eq _ _ h]
  | .sl a, b, h => by
    cases b <;> simp [AV.beq] at h
    rw [AV.beqL_eq _ _ h]
  | .nils, b, h => by cases b <;> simp [AV.beq] at h; rfl
  | .nilp, b, h => by cases b <;> simp [AV.beq] at h; rfl
  | .nilm, b, h => by cases b <;> simp [AV.beq] at h; rfl
  | .nilf, b, h => by cases b <;> simp [AV.beq] at h; rfl
  | .fn f a, b, h => by cases b <;> simp [AV.beq] at h; rw [h.1.1, h.1.2, h.2]
  | .arr .., b, h => by simp [AV.beq] at h
  | .ptr .., b, h => by simp [AV.beq] at h
  | .ep .., b, h => by simp [AV.beq] at h
  | .fp .., b, h => by simp [AV.beq] at h
  | .mp .., b, h => by simp [AV.beq] at h
  | .tup .., b, h => by simp [AV.beq] at h
  | .stamp .., b, h => by simp [AV.beq] at h
  | .und, b, h => by simp [AV.beq] at h
  | .any, b, h => by simp [AV.beq] at h
  | .lsl .., b, h => by simp [AV.beq] at h
  | .gone, b, h => by simp [AV.beq] at h
theorem AV.beqL_eq : ∀ (a b : List AV), AV.beqL a b = true → a = b
  | [], [], _ => rfl
  | [], _ :: _, h => by simp [AV.beqL] at h
  | _ :: _, [], h => by simp [AV.beqL] at h
  | a :: as, b :: bs, h => by
    rw [AV.beqL, Bool.and_eq_true] at h
    rw [AV.beq_eq a b h.1, AV.beqL_eq as bs h.2]
end
mutual
theorem cls_refs : ∀ (v : AV), v.cls = true → v.refs = []
  | .agg cs, h => by rw [AV.cls] at h; rw [AV.refs, clsL_refs cs h]
  | .fn f cs, h => by
    rw [AV.cls] at h
    rw [List.isEmpty_iff.1 h, AV.refs, AV.refsL]
  | .int .., _ | .bool .., _ | .str .., _ | .sl .., _ | .nils, _ | .nilp, _ | .nilm, _ | .nilf, _ | .any, _ | .und, _ | .gone, _ | .fp .., _ | .lsl .., _ => by simp only [AV.refs]
  | .arr .., h => by simp [AV.cls] at h
  | .ptr .., h => by simp [AV.cls] at h
  | .ep .., h => by simp [AV.cls] at h
  | .mp .., h => by simp [AV.cls] at h
  | .tup .., h => by simp [AV.cls] at h
  | .stamp .., h => by simp [AV.cls] at h
theorem clsL_refs : ∀ (vs : List AV), AV.clsL vs = true → AV.refsL vs = []
  | [], _ => by rw [AV.refsL]
  | v :: vs, h => by
    rw [clsL_cons, Bool.and_eq_true] at h
    rw [AV.refsL, cls_refs v h.1, clsL_refs vs h.2, List.append_nil]
end
def resCls : AV → Bool
  | .tup vs => AV.clsL vs
  | v => v.cls
theorem resCls_rn {x : Bool} {f : Nat → Option Nat} {v : AV} (h : resCls v = true) : v.rn x f = v := by
  cases v <;> first
    | exact cls_rn _ h
    | (rw [AV.rn, clsL_rn _ h])
theorem freezeArgs_nil : ∀ as, freezeArgs [] as = .ret as
  | [] => rfl
  | a :: as => by
    rw [freezeArgs]
    show (HM.ret a).bind _ = _
    rw [HM.bind]
    show (freezeArgs [] as).bind _ = _
    rw [freezeArgs_nil as]; rfl
theorem lendArgs_nil : ∀ as, lendArgs [] as = .ret as
  | [] => rfl
  | a :: as => by
    rw [lendArgs]
    show (HM.ret a).bind _ = _
    rw [HM.bind]
    show (lendArgs [] as).bind _ = _
    rw [lendArgs_nil as]; rfl
theorem ownOf_nil : ∀ as, ownOf [] as = as
  | [] => rfl
  | a :: as => by rw [ownOf, if_neg (by decide)]; show a :: ownOf [] as = _; rw [ownOf_nil as]
theorem lentOf_nil : ∀ as, lentOf [] as = []
  | [] => rfl
  | a :: as => by rw [lentOf, if_neg (by decide)]; exact lentOf_nil as
theorem callE_closed {env : Env} {run : FuncId → List AV → List Ob → Option (AV × List Ob)} {f : FuncId} {args : List AV} {v : AV} (hm : env.pol.mode f = []) (ha : AV.clsL args = true) (h : run f args [] = some (v, [])) (hv : resCls v = true) :
    callE env run f args = .ret v := by
  unfold callE
  rw [hm, freezeArgs_nil, HM.bind, lendArgs_nil, HM.bind, ownOf_nil, lentOf_nil, clsL_refs args ha]
  show HM.bind (.ret []) _ = _
  rw [HM.bind]
  show HM.bind (.ret []) _ = _
  rw [HM.bind]
  show HM.bind (.ret []) _ = _
  rw [HM.bind]
  show HM.bind (.ret []) _ = _
  rw [HM.bind, clsL_rn _ ha]
  show (match run f args [] with | none => HM.fail | some (v, objs2) => _) = _
  rw [h]
  show HM.ret (v.rn true _) = _
  rw [resCls_rn hv]
def memo (tab : List (List AV × AV)) (args : List AV) : HM AV :=
  match tab.find? fun e => AV.beqL e.1 args with
  | some e => .ret e.2
  | none => .fail
theorem ORel.glob_eq {w : World} {m : Emb} {os : List Ob} {env env0 : Env} (h : env0.glob = env.glob) (r : ORel env w m os) : ORel env0 w m os := ⟨r.obs, r.mine, r.frozen, fun g e hg => r.glob g e (by rw [← h]; exact hg)⟩
/-- **A table of known calls is a law.** -/
theorem memo_ok {P : Program} {env env0 : Env} (ok : EnvOK P env0) (hglob : env0.glob = env.glob) {g : FuncId} {N : Nat} {tab : List (List AV × AV)} (hm : env0.pol.mode g = [])
    (ht : ∀ e ∈ tab, AV.clsL e.1 = true ∧ resCls e.2 = true ∧ callN env0 N g e.1 [] = some (e.2, [])) : ExtOK P env g (memo tab) := by
  intro w m os args argv r ha n a os' n' hr hfr
  unfold memo at hr
  split at hr
  case h_2 => simp [HM.runAt] at hr
  rename_i e he
  obtain ⟨h1, h2, h3⟩ := ht e (List.mem_of_find?_eq_some he)
  have hb := List.find?_some he
  have hargs : e.1 = args := AV.beqL_eq _ _ hb
  simp only [HM.runAt, Option.some.injEq, Prod.mk.injEq] at hr
  obtain ⟨rfl, rfl, rfl⟩ := hr
  have hE := callE_closed (env := env0) (run := fun g as os => callN env0 N g as os) hm h1 h3 h2
  rw [hargs] at hE
  obtain ⟨_, hC, hK⟩ := ev_ok ok N
  obtain ⟨hcall, _⟩ := callE_ok (env := env0) hC hK (r.glob_eq hglob) ha (f := g) (n := n) (n' := n) (a := e.2) (os' := os) (by rw [hE]; rfl) hfr
  refine hcall.mono ?_
  rintro e' w' ⟨m', vv, rfl, nx, hv⟩
  exact ⟨m', vv, rfl, ⟨nx.rel.glob_eq hglob.symm, nx.goes, nx.le, nx.free⟩, hv⟩
end Go.V
namespace Go.V
/-! ### Tables of types and functions of a program -/
/-- A table as a search tree. -/
inductive Tab (α : Type) where
  | leaf
  | node (l : Tab α) (k : Nat) (v : α) (r : Tab α)
def Tab.get {α : Type} : Tab α → Nat → Option α
  | .leaf, _ => none
  | .node l k v r, n => match Nat.beq n k with
    | true => some v
    | false => match Nat.ble n k with
      | true => l.get n
      | false => r.get n
theorem Tab.get_node {α : Type} {l : Tab α} {k : Nat} {v : α} {r : Tab α} {n : Nat} : (Tab.node l k v r).get n = if n = k then some v else if n ≤ k then l.get n else r.get n := by
  rw [Tab.get]
  cases h : Nat.beq n k with
  | true => rw [if_pos (Nat.eq_of_beq_eq_true h)]
  | false =>
    rw [if_neg (Nat.ne_of_beq_eq_false h)]
    cases h : Nat.ble n k with
    | true => rw [if_pos (Nat.le_of_ble_eq_true h)]
    | false => rw [if_neg (Nat.not_le_of_not_ble_eq_true (by simp [h]))]
def Tab.all {α : Type} (p : Nat → α → Bool) : Tab α → Bool
  | .leaf => true
  | .node l k v r => l.all p && p k v && r.all p
def Tab.All {α : Type} (p : Nat → α → Prop) : Tab α → Prop
  | .leaf => True
  | .node l k v r => l.All p ∧ p k v ∧ r.All p
theorem Tab.all_get {α : Type} {p : Nat → α → Bool} : ∀ {t : Tab α}, t.all p = true → ∀ {n v}, t.get n = some v → p n v = true
  | .leaf, _, _, _, h => by simp [Tab.get] at h
  | .node l k x r, h, n, v, hg => by
    simp only [Tab.all, Bool.and_eq_true] at h
    rw [Tab.get_node] at hg
    split at hg
    · rename_i hn; subst hn; injection hg with hg; subst hg; exact h.1.2
    · split at hg
      · exact Tab.all_get h.1.1 hg
      · exact Tab.all_get h.2 hg
theorem Tab.All_get {α : Type} {p : Nat → α → Prop} : ∀ {t : Tab α}, t.All p → ∀ {n v}, t.get n = some v → p n v
  | .leaf, _, _, _, h => by simp [Tab.get] at h
  | .node l k x r, h, n, v, hg => by
    rw [Tab.get_node] at hg
    split at hg
    · rename_i hn; subst hn; injection hg with hg; subst hg; exact h.2.1
    · split at hg
      · exact Tab.All_get h.1 hg
      · exact Tab.All_get h.2.2 hg

def tydOK (P : Program) (t : TypeId) : TyD → Bool
  | .int k => match P.underlying t with | some (.int j) => k == j | _ => false
  | .bool => match P.underlying t with | some .bool => true | _ => false
  | .string => match P.underlying t with | some .string => true | _ => false
  | .slice e => match P.underlying t with | some (.slice e') => e == e' | _ => false
  | .array n e => match P.underlying t with | some (.array n' e') => n == n' && e == e' | _ => false
  | .struct fs => match P.underlying t with | some (.struct F) => (F.toList.map fun f => (f.offset, f.type)) == fs && F.toList.all fun f => P.cellsOf f.type != 0 | _ => false
  | .map k e => match P.underlying t with | some (.map k' e') => k == k' && e == e' | _ => false
  | .pointer e => match P.underlying t with | some (.pointer e') => e == e' | _ => false
  | .func => match P.underlying t with | some (.func _ _ _) => true | _ => false
  | .other => match P.underlying t with | some (.struct _) => false | some (.array _ _) => false | some _ => true | none => false
theorem tydOK_ok {P : Program} {t : TypeId} {d : TyD} (h : tydOK P t d = true) : d.ok P t := by
  cases d with
  | struct fs =>
    simp only [tydOK] at h
    split at h
    · rename_i F hF
      simp only [Bool.and_eq_true, beq_iff_eq, List.all_eq_true, bne_iff_ne] at h
      exact ⟨F, hF, h.1.symm, h.2⟩
    · simp at h
  | func =>
    simp only [tydOK] at h
    split at h
    · rename_i a b c hF; exact ⟨a, b, c, hF⟩
    · simp at h
  | other =>
    simp only [tydOK] at h
    split at h
    · simp at h
    · simp at h
    · rename_i d h1 h2 hF; exact ⟨d, hF, fun F hd => h1 F hd, fun n e hd => h2 n e hd⟩
    · simp at h
  | _ =>
    simp only [tydOK] at h
    split at h
    · rename_i hF; simp at h; first | exact hF | (obtain ⟨rfl, rfl⟩ := h; exact hF) | (subst h; exact hF)
    · simp at h
def zeroOK (z : Option AV) (v : Option Value) : Bool :=
  match z with
  | none => true
  | some (.agg cs) => match v with | some (.agg vs) => AV.beqL cs (vs.toList.map ofConst) | _ => false
  | some z => match v with | some v => z.beq (ofConst v) | none => false
theorem beq_gone {a : AV} (h : a.beq .gone = true) : False := by cases a <;> simp [AV.beq] at h
theorem beqL_gone : ∀ {as bs : List AV}, AV.beqL as bs = true → ∀ b ∈ bs, b ≠ .gone
  | [], [], _, b, hb => by simp at hb
  | [], _ :: _, h, _, _ => by simp [AV.beqL] at h
  | _ :: _, [], h, _, _ => by simp [AV.beqL] at h
  | a :: as, c :: bs, h, b, hb => by
    rw [AV.beqL, Bool.and_eq_true] at h
    rcases List.mem_cons.1 hb with rfl | hb
    · rintro rfl; exact beq_gone h.1
    · exact beqL_gone h.2 b hb
theorem zeroOK_ok {z : Option AV} {v : Option Value} (h : zeroOK z v = true) : ∀ x, z = some x → ∃ y, v = some y ∧ zeroRel x y := by
  rintro x rfl
  cases x with
  | agg cs =>
    simp only [zeroOK] at h
    split at h
    · rename_i vs
      refine ⟨_, rfl, vs, rfl, AV.beqL_eq _ _ h, fun y hy => ?_⟩
      exact beqL_gone h _ (List.mem_map.2 ⟨y, hy, rfl⟩)
    · simp at h
  | _ =>
    simp only [zeroOK] at h
    split at h
    · rename_i y
      have := AV.beq_eq _ _ h
      exact ⟨y, rfl, this, by first | (simp; done) | (simp [AV.beq] at h)⟩
    · simp at h
def tyOK (P : Program) (t : TypeId) (ti : TyI) : Bool :=
  match P.info? t with
  | some i => i.size == ti.size && i.bytes == ti.bytes && tydOK P t ti.d && zeroOK ti.zero i.zero
  | none => false
theorem tyOK_ok {P : Program} {t : TypeId} {ti : TyI} (h : tyOK P t ti = true) : ∃ i, P.info? t = some i ∧ i.size = ti.size ∧ i.bytes = ti.bytes ∧ ti.d.ok P t ∧ ∀ z, ti.zero = some z → ∃ v, i.zero = some v ∧ zeroRel z v := by
  unfold tyOK at h
  split at h
  · rename_i i hi
    simp only [Bool.and_eq_true, beq_iff_eq] at h
    exact ⟨i, hi, h.1.1.1, h.1.1.2, tydOK_ok h.1.2, zeroOK_ok h.2⟩
  · simp at h
def fiOf (fn : Func) : Option FnI := fn.body.map fun c => { code := c, ntmps := fn.ntmps, results := fn.results.toList }
def fnOK (_ : Nat) (fn : Func) : Bool := !(fn.name == "runtime.NumGoroutine") && match fn.body with | some c => fine fn.ntmps c | none => false
theorem fnOK_ok {P : Program} {g : FuncId} {fn : Func} {fi : FnI} (h : fnOK g fn = true) (hf : fiOf fn = some fi) (hp : P.funcs[g]? = some fn) :
    ∃ fn, P.funcs[g]? = some fn ∧ fn.body = some fi.code ∧ fn.ntmps = fi.ntmps ∧ fn.results.toList = fi.results ∧ fn.name ≠ "runtime.NumGoroutine" ∧ fine fi.ntmps fi.code = true := by
  unfold fiOf at hf
  rw [Option.map_eq_some_iff] at hf
  obtain ⟨c, hc, rfl⟩ := hf
  unfold fnOK at h
  rw [hc] at h
  simp only [Bool.and_eq_true, Bool.not_eq_true', beq_eq_false_iff_ne] at h
  exact ⟨fn, hp, hc, rfl, rfl, h.1, h.2⟩
end Go.V
namespace Go.V

/-! ### More fuel, the same answer -/
def HM.le {α : Type} (x y : HM α) : Prop := ∀ os n r, x.runF os n = some r → y.runF os n = some r
theorem HM.le_refl {α : Type} (x : HM α) : x.le x := fun _ _ _ h => h
theorem HM.fail_le {α : Type} (y : HM α) : HM.fail.le y := fun _ _ _ h => by simp [HM.runF] at h
theorem HM.le_bind {α β : Type} {x : HM α} {f g : α → HM β} (h : ∀ a, (f a).le (g a)) : (x.bind f).le (x.bind g) := by
  induction x with
  | ret a => exact h a
  | fail => exact HM.le_refl _
  | get o k ih =>
    intro os n r hr
    simp only [HM.bind, HM.runF] at hr ⊢
    cases hk : ((k (obAt os o)).bind f).runF os n with
    | none => rw [hk] at hr; simp at hr
    | some p => rw [hk] at hr; rw [ih _ _ _ _ hk]; exact hr
  | set o b k ih =>
    intro os n r hr
    simp only [HM.bind, HM.runF] at hr ⊢
    cases hk : (k.bind f).runF (setOb os o b) n with
    | none => rw [hk] at hr; simp at hr
    | some p => rw [hk] at hr; rw [ih _ _ _ hk]; exact hr
  | new b k ih =>
    intro os n r hr
    simp only [HM.bind, HM.runF] at hr ⊢
    cases hk : ((k n).bind f).runF (setOb os n b) (n + 1) with
    | none => rw [hk] at hr; simp at hr
    | some p => rw [hk] at hr; rw [ih _ _ _ _ hk]; exact hr
theorem runF_of {α : Type} {x : HM α} : ∀ {os : List Ob} {n : Nat} {a : α} {os' : List Ob} {n' : Nat}, x.runAt os n = some (a, os', n') → ∃ ft wr, x.runF os n = some (a, os', n', ft, wr) := by
  induction x with
  | ret b => intro os n a os' n' h; simp only [HM.runAt, Option.some.injEq, Prod.mk.injEq] at h; obtain ⟨rfl, rfl, rfl⟩ := h; exact ⟨[], [], rfl⟩
  | fail => intro os n a os' n' h; simp [HM.runAt] at h
  | get o k ih => intro os n a os' n' h; obtain ⟨ft, wr, h1⟩ := ih _ h; exact ⟨o :: ft, wr, by simp only [HM.runF, h1]⟩
  | set o b k ih => intro os n a os' n' h; obtain ⟨ft, wr, h1⟩ := ih h; exact ⟨o :: ft, o :: wr, by simp only [HM.runF, h1]⟩
  | new b k ih => intro os n a os' n' h; obtain ⟨ft, wr, h1⟩ := ih _ h; exact ⟨n :: ft, n :: wr, by simp only [HM.runF, h1]⟩
theorem HM.le.run {α : Type} {x y : HM α} (h : x.le y) {os : List Ob} {r : α × List Ob} (hr : x.run os = some r) : y.run os = some r := by
  unfold HM.run at hr ⊢
  cases hx : x.runAt os os.length with
  | none => rw [hx] at hr; simp at hr
  | some p =>
    obtain ⟨a, os', n'⟩ := p
    rw [hx] at hr
    obtain ⟨ft, wr, h1⟩ := runF_of hx
    rw [(runF_local (h _ _ _ h1)).1]
    exact hr

abbrev Run := FuncId → List AV → List Ob → Option (AV × List Ob)
def runLe (r s : Run) : Prop := ∀ f a o q, r f a o = some q → s f a o = some q
section
variable {env : Env} {r s : Run}
theorem callE_le (h : runLe r s) (f : FuncId) (args : List AV) : (callE env r f args).le (callE env s f args) := by
  unfold callE
  refine HM.le_bind fun args0 => HM.le_bind fun args1 => HM.le_bind fun own => HM.le_bind fun lent => HM.le_bind fun obs => HM.le_bind fun obl => ?_
  split
  · cases hr : r f (AV.rnL false (own ++ lent).idxOf? args1) (obs.map (Ob.rn false (own ++ lent).idxOf?) ++ obl.map fun b => (b.rn false (own ++ lent).idxOf?).lend) with
    | none => exact HM.fail_le _
    | some q => rw [h _ _ _ _ hr]; exact HM.le_refl _
  · exact HM.le_refl _
theorem opE_le (h : runLe r s) (f : FuncId) (o : Op) (t : TypeId) (ρ : Operand → AV) : (opE env f r o t ρ).le (opE env f s o t ρ) := by
  cases o with
  | call c =>
    obtain ⟨callee, args, ats⟩ := c
    cases callee with
    | value x =>
      simp only [opE]
      cases ρ x <;> try exact HM.le_refl _
      rename_i g caps
      dsimp only
      cases env.ext g with
      | none => exact callE_le h _ _
      | some x => exact HM.le_refl _
    | _ => exact HM.le_refl _
  | makeFunc fn first captured => cases fn <;> exact HM.le_refl _
  | makeMap t r => cases r <;> exact HM.le_refl _
  | slice t x lo hi mx => cases mx <;> exact HM.le_refl _
  | _ => exact HM.le_refl _
theorem opsE_le (h : runLe r s) (f : FuncId) (ds : List (Option Tmp)) : ∀ (l : List Oper) (fr fr' : Fr), opsE env f r ds l fr = some fr' → opsE env f s ds l fr = some fr'
  | [], fr, fr', he => he
  | o :: l, fr, fr', he => by
    rw [opsE] at he ⊢
    cases hw : wantedV ds fr.tmps o.guard with
    | none => rw [hw] at he; simp at he
    | some b =>
      rw [hw] at he
      cases b with
      | false => exact opsE_le h f ds l _ fr' he
      | true =>
        dsimp only at he ⊢
        cases hr : (opE env f r o.op o.type (evalT env fr.tmps)).run fr.objs with
        | none => rw [hr] at he; simp at he
        | some p =>
          rw [hr] at he
          rw [(opE_le h f o.op o.type _).run hr]
          exact opsE_le h f ds l _ fr' he
theorem opsD_le (h : runLe r s) (f : FuncId) (ds : List (Option Tmp)) : ∀ (l : List Oper) (fr : Fr) q, opsD env f r ds l fr = some q → opsD env f s ds l fr = some q
  | [], fr, q, he => he
  | o :: l, fr, q, he => by
    rw [opsD] at he ⊢
    cases hw : wantedV ds fr.tmps o.guard with
    | none => rw [hw] at he; simp at he
    | some b =>
      rw [hw] at he
      cases b with
      | false =>
        dsimp only at he ⊢
        cases hd : opsD env f r ds l { fr with tmps := putT fr.tmps o.dst .und } with
        | none => rw [hd] at he; simp at he
        | some p => rw [hd] at he; rw [opsD_le h f ds l _ _ hd]; exact he
      | true =>
        dsimp only at he ⊢
        cases hr : (opE env f r o.op o.type (evalT env fr.tmps)).runF fr.objs fr.objs.length with
        | none => rw [hr] at he; simp at he
        | some p =>
          obtain ⟨v, objs, n', ft, wr⟩ := p
          rw [hr] at he
          rw [opE_le h f o.op o.type _ _ _ _ hr]
          dsimp only at he ⊢
          cases hd : opsD env f r ds l { tmps := putT fr.tmps o.dst v, objs } with
          | none => rw [hd] at he; simp at he
          | some p => rw [hd] at he; rw [opsD_le h f ds l _ _ hd]; exact he
end

theorem roundsE_le {env : Env} {r1 r2 : Code → Fr → Option (Out × Fr)} (h : ∀ c fr q, r1 c fr = some q → r2 c fr = some q) {te : TypeId} {o : Nat} {ps : List Tmp} {assign body : Code} {tm : List (Nat × AV)} : ∀ (i : Nat) (os : List Ob) (q), roundsE env r1 te o ps assign body tm i os = some q → roundsE env r2 te o ps assign body tm i os = some q
  | 0, os, q, hq => hq
  | i + 1, os, q, hq => by
    rw [roundsE] at hq ⊢
    cases hob : obAt os o <;> rw [hob] at hq <;> try (simp at hq; done)
    rename_i e s lk
    cases e <;> try (simp at hq; done)
    rename_i es
    dsimp only at hq ⊢
    cases hx : es[i]? with
    | none => rw [hx] at hq; simp at hq
    | some x =>
      rw [hx] at hq
      dsimp only at hq ⊢
      split at hq
      case h_2 => simp at hq
      rename_i v p q2 hv
      cases ha : r1 assign { tmps := setT (setT tm p (.int .i64 i)) q2 v, objs := os } with
      | none => rw [ha] at hq; simp at hq
      | some w =>
        obtain ⟨o1, fr1⟩ := w
        rw [ha] at hq
        rw [h _ _ _ ha]
        cases o1 with
        | normal =>
          dsimp only at hq ⊢
          cases hb : r1 body fr1 with
          | none => rw [hb] at hq; simp at hq
          | some w2 =>
            obtain ⟨o2, fr2⟩ := w2
            rw [hb] at hq
            rw [h _ _ _ hb]
            cases o2 with
            | normal => exact roundsE_le h i fr2.objs q hq
            | _ => exact hq
        | _ => simp at hq
section
variable {env : Env}
theorem more : ∀ (n : Nat), (∀ f k lv c fr r, ev env f k lv n c fr = some r → ev env f k lv (n + 1) c fr = some r) ∧ runLe (callN env n) (callN env (n + 1))
  | 0 => ⟨fun f k lv c fr r h => by simp [ev] at h, fun f a o q h => by simp [callN] at h⟩
  | n + 1 => by
    obtain ⟨ihE, ihC⟩ := more n
    refine ⟨fun f k lv c fr r h => ?_, fun f a o q h => ?_⟩
    · cases c with
      | region id ops draw =>
        cases draw with
        | false =>
          simp only [ev, Bool.false_eq_true, if_false] at h ⊢
          cases he : opsE env f (fun g as os => callN env n g as os) (ops.toList.map (·.dst)) ops.toList fr with
          | none => rw [he] at h; simp at h
          | some fr1 => rw [he] at h; rw [opsE_le ihC f _ _ _ _ he]; exact h
        | true =>
          simp only [ev, if_true] at h ⊢
          cases he : opsD env f (fun g as os => callN env n g as os) (ops.toList.map (·.dst)) ops.toList fr with
          | none => rw [he] at h; simp at h
          | some p => rw [he] at h; rw [opsD_le ihC f _ _ _ _ he]; exact h
      | seq x y =>
        rw [ev] at h ⊢
        cases hx : ev env f k none n x fr with
        | none => rw [hx] at h; simp at h
        | some p =>
          obtain ⟨o, fr1⟩ := p
          rw [hx] at h
          rw [ihE _ _ _ _ _ _ hx]
          cases o with
          | normal => exact ihE _ _ _ _ _ _ h
          | _ => exact h
      | cond c x y =>
        rw [ev] at h ⊢
        cases hv : evalT env fr.tmps c <;> rw [hv] at h <;> try (simp at h; done)
        rename_i t
        dsimp only at h ⊢
        cases hn : normO k (env.pol.live f 0 (condKey c)) fr with
        | none => rw [hn] at h; simp at h
        | some fr0 =>
          rw [hn] at h
          dsimp only at h ⊢
          cases hb : ev env f k none n (if t then x else y) fr0 with
          | none => rw [hb] at h; simp at h
          | some p => rw [hb] at h; rw [ihE _ _ _ _ _ _ hb]; exact h
      | block id b =>
        rw [ev] at h ⊢
        cases hb : ev env f k (env.pol.live f 2 id) n b fr with
        | none => rw [hb] at h; simp at h
        | some p => rw [hb] at h; rw [ihE _ _ _ _ _ _ hb]; exact h
      | loop b =>
        rw [ev] at h ⊢
        cases hn : normO k lv fr with
        | none => rw [hn] at h; simp at h
        | some fr0 =>
          rw [hn] at h
          dsimp only at h ⊢
          cases hb : ev env f k none n b fr0 with
          | none => rw [hb] at h; simp at h
          | some p =>
            obtain ⟨o, fr1⟩ := p
            rw [hb] at h
            rw [ihE _ _ _ _ _ _ hb]
            cases o with
            | normal => exact ihE _ _ _ _ _ _ h
            | _ => exact h
      | rangeFunc g ps assign body =>
        rw [ev] at h ⊢
        cases hb : backOf env fr.objs (evalT env fr.tmps g) with
        | none => rw [hb] at h; simp at h
        | some p =>
          obtain ⟨te, ob, len⟩ := p
          rw [hb] at h
          dsimp only at h ⊢
          cases hr : roundsE env (fun c fr' => ev env f fr.objs.length none n c fr') te ob ps.toList assign body fr.tmps len fr.objs with
          | none => rw [hr] at h; simp at h
          | some p => rw [hr] at h; rw [roundsE_le (fun c fr' q hq => ihE _ _ _ _ _ _ hq) _ _ _ hr]; exact h
      | _ => first | exact h | (simp [ev] at h)
    · rw [callN] at h ⊢
      cases hf : env.fn f with
      | none => rw [hf] at h; simp at h
      | some fi =>
        rw [hf] at h
        dsimp only at h ⊢
        cases he : ev env f o.length none n fi.code { tmps := paramsT 0 a, objs := o } with
        | none => rw [he] at h; simp at h
        | some p => rw [he] at h; rw [ihE _ _ _ _ _ _ he]; exact h

/-! ### Limits -/
def Mono {α : Type} (g : Nat → Option α) : Prop := ∀ n r, g n = some r → g (n + 1) = some r
theorem Mono.le {α : Type} {g : Nat → Option α} (h : Mono g) {n m : Nat} {r : α} (hr : g n = some r) (hm : n ≤ m) : g m = some r := by
  induction hm with
  | refl => exact hr
  | step _ ih => exact h _ _ ih
open Classical in
noncomputable def lim {α : Type} (g : Nat → Option α) : Option α := if h : ∃ n, (g n).isSome = true then g (Classical.choose h) else none
theorem lim_iff {α : Type} {g : Nat → Option α} (hm : Mono g) {r : α} : lim g = some r ↔ ∃ n, g n = some r := by
  unfold lim
  constructor
  · intro h
    split at h
    · exact ⟨_, h⟩
    · simp at h
  · rintro ⟨n, hn⟩
    have hex : ∃ n, (g n).isSome = true := ⟨n, by rw [hn]; rfl⟩
    rw [dif_pos hex]
    obtain ⟨q, hq⟩ := Option.isSome_iff_exists.1 (Classical.choose_spec hex)
    have h1 := hm.le hq (Nat.le_max_left _ n)
    have h2 := hm.le hn (Nat.le_max_right (Classical.choose hex) n)
    rw [h1] at h2
    rw [hq]; exact h2
theorem lim_bind {α β : Type} {g : Nat → Option α} {h : α → Nat → Option β} (hg : Mono g) (hh : ∀ a, Mono (h a)) : lim (fun n => (g n).bind fun a => h a n) = (lim g).bind fun a => lim (h a) := by
  have hm : Mono (fun n => (g n).bind fun a => h a n) := by
    intro n r hr
    obtain ⟨a, h1, h2⟩ := Option.bind_eq_some_iff.1 hr
    exact Option.bind_eq_some_iff.2 ⟨a, hg _ _ h1, hh a _ _ h2⟩
  apply Option.ext
  intro r
  rw [lim_iff hm, Option.bind_eq_some_iff]
  constructor
  · rintro ⟨n, hr⟩
    obtain ⟨a, h1, h2⟩ := Option.bind_eq_some_iff.1 hr
    exact ⟨a, (lim_iff hg).2 ⟨n, h1⟩, (lim_iff (hh a)).2 ⟨n, h2⟩⟩
  · rintro ⟨a, h1, h2⟩
    obtain ⟨n1, h1⟩ := (lim_iff hg).1 h1
    obtain ⟨n2, h2⟩ := (lim_iff (hh a)).1 h2
    exact ⟨max n1 n2, Option.bind_eq_some_iff.2 ⟨a, hg.le h1 (Nat.le_max_left _ _), (hh a).le h2 (Nat.le_max_right _ _)⟩⟩
theorem lim_const {α : Type} (x : Option α) : lim (fun _ => x) = x := by
  have hm : Mono (fun _ => x) := fun _ _ h => h
  apply Option.ext
  intro r
  rw [lim_iff hm]
  exact ⟨fun ⟨_, h⟩ => h, fun h => ⟨0, h⟩⟩
theorem lim_succ {α : Type} {g : Nat → Option α} (hm : Mono g) : lim g = lim fun n => g (n + 1) := by
  have hm' : Mono fun n => g (n + 1) := fun n r h => hm _ _ h
  apply Option.ext
  intro r
  rw [lim_iff hm, lim_iff hm']
  exact ⟨fun ⟨n, h⟩ => ⟨n, hm _ _ h⟩, fun ⟨n, h⟩ => ⟨n + 1, h⟩⟩

theorem ev_mono (f k lv c fr) : Mono (fun n => ev env f k lv n c fr) := fun n r h => (more n).1 _ _ _ _ _ _ h
theorem callN_mono (f a o) : Mono (fun n => callN env n f a o) := fun n q h => (more n).2 _ _ _ _ h
end
end Go.V
namespace Go.V
section
variable {env : Env} {f : FuncId} {k : Nat} {lv : Option (List Nat)}

/-- What a call comes to; what code comes to. -/
noncomputable def callL (env : Env) (f : FuncId) (args : List AV) (objs : List Ob) : Option (AV × List Ob) := lim fun n => callN env n f args objs
noncomputable def evL (env : Env) (f : FuncId) (k : Nat) (lv : Option (List Nat)) (c : Code) (fr : Fr) : Option (Out × Fr) := lim fun n => ev env f k lv n c fr
noncomputable def opL (env : Env) (f : FuncId) (o : Op) (t : TypeId) (ρ : Operand → AV) : HM AV := opE env f (callL env) o t ρ

theorem callN_le (n : Nat) : runLe (callN env n) (callL env) := fun f a o q h => (lim_iff (callN_mono f a o)).2 ⟨n, h⟩

theorem runF_bind {α β : Type} {x : HM α} {g : α → HM β} : ∀ {os : List Ob} {n : Nat} {r}, (x.bind g).runF os n = some r → ∃ a os1 n1 f1 w1, x.runF os n = some (a, os1, n1, f1, w1) ∧ ∃ r2, (g a).runF os1 n1 = some r2 ∧ r = (r2.1, r2.2.1, r2.2.2.1, f1 ++ r2.2.2.2.1, w1 ++ r2.2.2.2.2) := by
  induction x with
  | ret a => intro os n r h; exact ⟨a, os, n, [], [], rfl, r, h, by simp⟩
  | fail => intro os n r h; simp [HM.bind, HM.runF] at h
  | get o k ih =>
    intro os n r h
    simp only [HM.bind, HM.runF] at h
    cases hk : ((k (obAt os o)).bind g).runF os n with
    | none => rw [hk] at h; simp at h
    | some p =>
      obtain ⟨a1, os', n', f', w'⟩ := p
      rw [hk] at h
      simp only [Option.some.injEq] at h
      obtain ⟨a, os1, n1, f1, w1, h1, r2, h2, h3⟩ := ih _ hk
      refine ⟨a, os1, n1, o :: f1, w1, by simp only [HM.runF, h1], r2, h2, ?_⟩
      rw [← h]
      simp only [Prod.mk.injEq] at h3 ⊢
      obtain ⟨q1, q2, q3, q4, q5⟩ := h3
      exact ⟨q1, q2, q3, by rw [q4]; rfl, q5⟩
  | set o b k ih =>
    intro os n r h
    simp only [HM.bind, HM.runF] at h
    cases hk : (k.bind g).runF (setOb os o b) n with
    | none => rw [hk] at h; simp at h
    | some p =>
      obtain ⟨a1, os', n', f', w'⟩ := p
      rw [hk] at h
      simp only [Option.some.injEq] at h
      obtain ⟨a, os1, n1, f1, w1, h1, r2, h2, h3⟩ := ih hk
      refine ⟨a, os1, n1, o :: f1, o :: w1, by simp only [HM.runF, h1], r2, h2, ?_⟩
      rw [← h]
      simp only [Prod.mk.injEq] at h3 ⊢
      obtain ⟨q1, q2, q3, q4, q5⟩ := h3
      exact ⟨q1, q2, q3, by rw [q4]; rfl, by rw [q5]; rfl⟩
  | new b k ih =>
    intro os n r h
    simp only [HM.bind, HM.runF] at h
    cases hk : ((k n).bind g).runF (setOb os n b) (n + 1) with
    | none => rw [hk] at h; simp at h
    | some p =>
      obtain ⟨a1, os', n', f', w'⟩ := p
      rw [hk] at h
      simp only [Option.some.injEq] at h
      obtain ⟨a, os1, n1, f1, w1, h1, r2, h2, h3⟩ := ih _ hk
      refine ⟨a, os1, n1, n :: f1, n :: w1, by simp only [HM.runF, h1], r2, h2, ?_⟩
      rw [← h]
      simp only [Prod.mk.injEq] at h3 ⊢
      obtain ⟨q1, q2, q3, q4, q5⟩ := h3
      exact ⟨q1, q2, q3, by rw [q4]; rfl, by rw [q5]; rfl⟩
/-- Some run of a step needs one evaluator only. -/
def Near (x : HM AV) (y : Nat → HM AV) : Prop := ∀ os n r, x.runF os n = some r → ∃ i, (y i).runF os n = some r
theorem near_bind {α : Type} {x : HM α} {g : α → HM AV} {h : α → Nat → HM AV} (hg : ∀ a, Near (g a) (h a)) : Near (x.bind g) fun i => x.bind fun a => h a i := by
  induction x with
  | ret a => exact hg a
  | fail => intro os n r hr; simp [HM.bind, HM.runF] at hr
  | get o k ih =>
    intro os n r hr
    simp only [HM.bind, HM.runF] at hr ⊢
    cases hk : ((k (obAt os o)).bind g).runF os n with
    | none => rw [hk] at hr; simp at hr
    | some p => rw [hk] at hr; obtain ⟨i, hi⟩ := ih _ _ _ _ hk; exact ⟨i, by rw [hi]; exact hr⟩
  | set o b k ih =>
    intro os n r hr
    simp only [HM.bind, HM.runF] at hr ⊢
    cases hk : (k.bind g).runF (setOb os o b) n with
    | none => rw [hk] at hr; simp at hr
    | some p => rw [hk] at hr; obtain ⟨i, hi⟩ := ih _ _ _ hk; exact ⟨i, by rw [hi]; exact hr⟩
  | new b k ih =>
    intro os n r hr
    simp only [HM.bind, HM.runF] at hr ⊢
    cases hk : ((k n).bind g).runF (setOb os n b) (n + 1) with
    | none => rw [hk] at hr; simp at hr
    | some p => rw [hk] at hr; obtain ⟨i, hi⟩ := ih _ _ _ _ hk; exact ⟨i, by rw [hi]; exact hr⟩
theorem callE_near (f : FuncId) (args : List AV) : Near (callE env (callL env) f args) fun i => callE env (callN env i) f args := by
  unfold callE
  refine near_bind fun args0 => near_bind fun args1 => near_bind fun own => near_bind fun lent => near_bind fun obs => near_bind fun obl => ?_
  intro os n r hr
  split at hr
  case isFalse => simp [HM.runF] at hr
  rename_i hc
  cases hq : callL env f (AV.rnL false (own ++ lent).idxOf? args1) (obs.map (Ob.rn false (own ++ lent).idxOf?) ++ obl.map fun b => (b.rn false (own ++ lent).idxOf?).lend) with
  | none => rw [hq] at hr; simp [HM.runF] at hr
  | some q =>
    rw [hq] at hr
    obtain ⟨i, hi⟩ := (lim_iff (callN_mono _ _ _)).1 hq
    refine ⟨i, ?_⟩
    show HM.runF (if _ then _ else _) os n = _
    rw [if_pos hc, hi]
    exact hr
theorem opE_near (f : FuncId) (o : Op) (t : TypeId) (ρ : Operand → AV) : Near (opL env f o t ρ) fun i => opE env f (callN env i) o t ρ := by
  have triv : ∀ {x : HM AV}, Near x fun _ => x := fun os n r h => ⟨0, h⟩
  unfold opL
  cases o with
  | call c =>
    obtain ⟨callee, args, ats⟩ := c
    cases callee with
    | value x =>
      simp only [opE]
      cases ρ x <;> try exact triv
      rename_i g caps
      dsimp only
      cases env.ext g with
      | none => exact callE_near _ _
      | some x => exact triv
    | _ => exact triv
  | makeFunc fn first captured => cases fn <;> exact triv
  | makeMap t r => cases r <;> exact triv
  | slice t x lo hi mx => cases mx <;> exact triv
  | _ => exact triv
theorem opE_run_lim (o : Op) (t : TypeId) (ρ : Operand → AV) (os : List Ob) : (lim fun n => (opE env f (callN env n) o t ρ).run os) = (opL env f o t ρ).run os := by
  have hm : Mono fun n => (opE env f (callN env n) o t ρ).run os := fun n r h => (opE_le (more n).2 f o t ρ).run h
  apply Option.ext
  intro r
  rw [lim_iff hm]
  constructor
  · rintro ⟨n, h⟩
    exact (opE_le (callN_le n) f o t ρ).run h
  · intro h
    unfold HM.run at h
    cases hx : (opL env f o t ρ).runAt os os.length with
    | none => rw [hx] at h; simp at h
    | some p =>
      obtain ⟨a, os', n'⟩ := p
      rw [hx] at h
      obtain ⟨ft, wr, h1⟩ := runF_of hx
      obtain ⟨i, h2⟩ := opE_near f o t ρ _ _ _ h1
      exact ⟨i, by unfold HM.run; rw [(runF_local h2).1]; exact h⟩
theorem opE_runF_lim (o : Op) (t : TypeId) (ρ : Operand → AV) (os : List Ob) (m : Nat) : (lim fun n => (opE env f (callN env n) o t ρ).runF os m) = (opL env f o t ρ).runF os m := by
  have hm : Mono fun n => (opE env f (callN env n) o t ρ).runF os m := fun n r h => (opE_le (more n).2 f o t ρ) _ _ _ h
  apply Option.ext
  intro r
  rw [lim_iff hm]
  exact ⟨fun ⟨n, h⟩ => opE_le (callN_le n) f o t ρ _ _ _ h, fun h => opE_near f o t ρ _ _ _ h⟩

/-! ### Operations in a row -/
noncomputable def opsL (env : Env) (f : FuncId) (ds : List (Option Tmp)) (l : List Oper) (fr : Fr) : Option Fr := lim fun n => opsE env f (callN env n) ds l fr
noncomputable def opsDL (env : Env) (f : FuncId) (ds : List (Option Tmp)) (l : List Oper) (fr : Fr) : Option (Fr × List (List Nat × List Nat)) := lim fun n => opsD env f (callN env n) ds l fr
theorem opsE_mono (ds l fr) : Mono fun n => opsE env f (callN env n) ds l fr := fun n _ h => opsE_le (more n).2 f ds l fr _ h
theorem opsD_mono (ds l fr) : Mono fun n => opsD env f (callN env n) ds l fr := fun n _ h => opsD_le (more n).2 f ds l fr _ h
theorem opsL_nil {ds fr} : opsL env f ds [] fr = some fr := lim_const _
theorem opsL_cons {ds : List (Option Tmp)} {o : Oper} {rest : List Oper} {fr : Fr} : opsL env f ds (o :: rest) fr =
    (wantedV ds fr.tmps o.guard).bind fun b => if b then ((opL env f o.op o.type (evalT env fr.tmps)).run fr.objs).bind fun p => opsL env f ds rest { tmps := putT fr.tmps o.dst p.1, objs := p.2 } else opsL env f ds rest { fr with tmps := putT fr.tmps o.dst .und } := by
  unfold opsL
  cases hw : wantedV ds fr.tmps o.guard with
  | none =>
    rw [Option.bind_none]
    have : (fun n => opsE env f (callN env n) ds (o :: rest) fr) = fun _ => none := by funext n; rw [opsE, hw]
    rw [this, lim_const]
  | some b =>
    rw [Option.bind_some]
    cases b with
    | false =>
      have : (fun n => opsE env f (callN env n) ds (o :: rest) fr) = fun n => opsE env f (callN env n) ds rest { fr with tmps := putT fr.tmps o.dst .und } := by funext n; rw [opsE, hw]
      rw [this]; rfl
    | true =>
      rw [if_pos rfl, ← opE_run_lim]
      have hm : Mono fun n => (opE env f (callN env n) o.op o.type (evalT env fr.tmps)).run fr.objs := fun n r h => (opE_le (more n).2 f _ _ _).run h
      rw [← lim_bind hm fun p => opsE_mono _ _ _]
      congr 1
      funext n
      rw [opsE, hw]
      dsimp only
      cases (opE env f (callN env n) o.op o.type (evalT env fr.tmps)).run fr.objs <;> rfl
theorem opsDL_nil {ds fr} : opsDL env f ds [] fr = some (fr, []) := lim_const _
theorem lim_map {α β : Type} {g : Nat → Option α} (hg : Mono g) (h : α → β) : lim (fun n => (g n).map h) = (lim g).map h := by
  have := lim_bind (h := fun a _ => some (h a)) hg fun a n r h => h
  simp only [lim_const] at this
  rw [show (fun n => (g n).map h) = fun n => (g n).bind fun a => some (h a) by funext n; cases g n <;> rfl, this]
  cases lim g <;> rfl
theorem opsDL_cons {ds : List (Option Tmp)} {o : Oper} {rest : List Oper} {fr : Fr} : opsDL env f ds (o :: rest) fr =
    (wantedV ds fr.tmps o.guard).bind fun b => if b then ((opL env f o.op o.type (evalT env fr.tmps)).runF fr.objs fr.objs.length).bind fun p => (opsDL env f ds rest { tmps := putT fr.tmps o.dst p.1, objs := p.2.1 }).map fun q => (q.1, (p.2.2.2.1, p.2.2.2.2) :: q.2)
      else (opsDL env f ds rest { fr with tmps := putT fr.tmps o.dst .und }).map fun q => (q.1, ([], []) :: q.2) := by
  unfold opsDL
  cases hw : wantedV ds fr.tmps o.guard with
  | none =>
    rw [Option.bind_none]
    have : (fun n => opsD env f (callN env n) ds (o :: rest) fr) = fun _ => none := by funext n; rw [opsD, hw]
    rw [this, lim_const]
  | some b =>
    rw [Option.bind_some]
    cases b with
    | false =>
      rw [if_neg (by simp), ← lim_map (opsD_mono _ _ _)]
      congr 1
      funext n
      rw [opsD, hw]
      dsimp only
      cases opsD env f (callN env n) ds rest { fr with tmps := putT fr.tmps o.dst .und } <;> rfl
    | true =>
      rw [if_pos rfl, ← opE_runF_lim]
      have hm : Mono fun n => (opE env f (callN env n) o.op o.type (evalT env fr.tmps)).runF fr.objs fr.objs.length := fun n r h => opE_le (more n).2 f _ _ _ _ _ _ h
      have : (fun p : AV × List Ob × Nat × List Nat × List Nat => (lim fun n => opsD env f (callN env n) ds rest { tmps := putT fr.tmps o.dst p.1, objs := p.2.1 }).map fun q => (q.1, (p.2.2.2.1, p.2.2.2.2) :: q.2)) =
          fun p => lim fun n => (opsD env f (callN env n) ds rest { tmps := putT fr.tmps o.dst p.1, objs := p.2.1 }).map fun q => (q.1, (p.2.2.2.1, p.2.2.2.2) :: q.2) := by
        funext p; rw [lim_map (opsD_mono _ _ _)]
      rw [this, ← lim_bind hm fun p n r h => by
        obtain ⟨q, h1, h2⟩ := Option.map_eq_some_iff.1 h
        exact Option.map_eq_some_iff.2 ⟨q, opsD_mono _ _ _ _ _ h1, h2⟩]
      congr 1
      funext n
      rw [opsD, hw]
      dsimp only
      cases (opE env f (callN env n) o.op o.type (evalT env fr.tmps)).runF fr.objs fr.objs.length with
      | none => rfl
      | some p =>
        obtain ⟨v, objs, n', ft, wr⟩ := p
        dsimp only [Option.bind_some]
        cases opsD env f (callN env n) ds rest { tmps := putT fr.tmps o.dst v, objs } <;> rfl

/-! ### Code -/
def onN (K : Fr → Option (Out × Fr)) (p : Out × Fr) : Option (Out × Fr) := match p.1 with | .normal => K p.2 | _ => some p
theorem evL_step (c : Code) (fr : Fr) : evL env f k lv c fr = lim fun n => ev env f k lv (n + 1) c fr := lim_succ (ev_mono _ _ _ _ _)
theorem evL_skip {fr} : evL env f k lv .skip fr = some (.normal, fr) := by rw [evL_step]; exact lim_const _
theorem evL_label {l fr} : evL env f k lv (.label l) fr = some (.normal, fr) := by rw [evL_step]; exact lim_const _
theorem evL_exit {i fr} : evL env f k lv (.exit i) fr = some (.exit i, fr) := by rw [evL_step]; exact lim_const _
theorem evL_ret {fr} : evL env f k lv .ret fr = some (.ret, fr) := by rw [evL_step]; exact lim_const _
theorem evL_region {id ops fr} : evL env f k lv (.region id ops false) fr = (opsL env f (ops.toList.map (·.dst)) ops.toList fr).map fun fr' => (.normal, fr') := by
  rw [evL_step, opsL, ← lim_map (opsE_mono _ _ _)]
  congr 1
  funext n
  simp only [ev, Bool.false_eq_true, if_false]
  show (match opsE env f (callN env n) _ _ _ with | some fr' => _ | none => _) = _
  cases opsE env f (callN env n) (ops.toList.map (·.dst)) ops.toList fr <;> rfl
theorem evL_draw {id ops fr} : evL env f k lv (.region id ops true) fr = (opsDL env f (ops.toList.map (·.dst)) ops.toList fr).bind fun p => if indep (unord ops.toList) p.2 then some (.normal, p.1) else none := by
  have := lim_bind (h := fun (p : Fr × List (List Nat × List Nat)) (_ : Nat) => if indep (unord ops.toList) p.2 then some (Out.normal, p.1) else none) (opsD_mono (env := env) (f := f) (ops.toList.map (·.dst)) ops.toList fr) fun a n r h => h
  simp only [lim_const] at this
  rw [evL_step, opsDL, ← this]
  congr 1
  funext n
  simp only [ev, if_true]
  show (match opsD env f (callN env n) _ _ _ with | some (fr', feet) => _ | none => _) = _
  cases opsD env f (callN env n) (ops.toList.map (·.dst)) ops.toList fr <;> rfl
theorem onN_lim {α : Type} {x : Nat → Option (Out × Fr)} (hx : Mono x) {K : Fr → Nat → Option (Out × Fr)} (hK : ∀ fr, Mono (K fr)) : lim (fun n => (x n).bind (onN fun fr => K fr n)) = (lim x).bind (onN fun fr => lim (K fr)) := by
  have := lim_bind (h := fun (p : Out × Fr) n => onN (fun fr => K fr n) p) hx fun p n r h => by
    obtain ⟨o, fr⟩ := p
    cases o with
    | normal => exact hK fr n r h
    | _ => exact h
  rw [this]
  congr 1
  funext p
  obtain ⟨o, fr⟩ := p
  cases o with
  | normal => rfl
  | _ => exact lim_const _
theorem evL_seq {a b fr} : evL env f k lv (.seq a b) fr = (evL env f k none a fr).bind (onN fun fr' => evL env f k none b fr') := by
  rw [evL_step]
  unfold evL
  rw [← onN_lim (α := Unit) (ev_mono _ _ _ _ _) fun fr => ev_mono _ _ _ _ _]
  congr 1
  funext n
  simp only [ev]
  cases hx : ev env f k none n a fr with
  | none => rfl
  | some p => obtain ⟨o, fr1⟩ := p; cases o <;> rfl
def boolOf : AV → Option Bool
  | .bool t => some t
  | _ => none
theorem evL_cond {c a b fr} : evL env f k lv (.cond c a b) fr = (boolOf (evalT env fr.tmps c)).bind fun t => (normO k (env.pol.live f 0 (condKey c)) fr).bind fun fr0 =>
    (evL env f k none (if t then a else b) fr0).bind (onN fun fr1 => (normO k (env.pol.live f 1 (condKey c)) fr1).map fun fr2 => (.normal, fr2)) := by
  rw [evL_step]
  unfold evL
  cases hv : evalT env fr.tmps c with
  | bool t =>
    show _ = (some t).bind _
    rw [Option.bind_some]
    cases hn : normO k (env.pol.live f 0 (condKey c)) fr with
    | none =>
      rw [Option.bind_none]
      have : (fun n => ev env f k lv (n + 1) (.cond c a b) fr) = fun _ => none := by funext n; simp only [ev, hv, hn]
      rw [this, lim_const]
    | some fr0 =>
      rw [Option.bind_some]
      have := onN_lim (α := Unit) (x := fun n => ev env f k none n (if t then a else b) fr0) (ev_mono _ _ _ _ _) (K := fun fr1 _ => (normO k (env.pol.live f 1 (condKey c)) fr1).map fun fr2 => (Out.normal, fr2)) fun fr n r h => h
      simp only [lim_const] at this
      rw [← this]
      congr 1
      funext n
      simp only [ev, hv, hn]
      cases hx : ev env f k none n (if t then a else b) fr0 with
      | none => rfl
      | some p => obtain ⟨o, fr1⟩ := p; cases o <;> rfl
  | _ =>
    show _ = (none : Option Bool).bind _
    rw [Option.bind_none]
    have : (fun n => ev env f k lv (n + 1) (.cond c a b) fr) = fun _ => none := by funext n; simp only [ev, hv]
    rw [this, lim_const]
/-- behind a block -/
def onB (id : Nat) (K : Fr → Option (Out × Fr)) (p : Out × Fr) : Option (Out × Fr) := match p.1 with | .normal => K p.2 | .exit i => if i = id then K p.2 else some p | .ret => some p
theorem evL_block {id b fr} : evL env f k lv (.block id b) fr = (evL env f k (env.pol.live f 2 id) b fr).bind (onB id fun fr1 => (normO k (env.pol.live f 3 id) fr1).map fun fr2 => (.normal, fr2)) := by
  rw [evL_step]
  unfold evL
  have := lim_bind (g := fun n => ev env f k (env.pol.live f 2 id) n b fr) (h := fun p _ => onB id (fun fr1 => (normO k (env.pol.live f 3 id) fr1).map fun fr2 => (Out.normal, fr2)) p) (ev_mono _ _ _ _ _) fun p n r h => h
  simp only [lim_const] at this
  rw [← this]
  congr 1
  funext n
  simp only [ev]
  cases hx : ev env f k (env.pol.live f 2 id) n b fr with
  | none => rfl
  | some p =>
    obtain ⟨o, fr1⟩ := p
    cases o with
    | exit i =>
      show (if i = id then _ else _) = (if i = id then _ else _)
      split <;> rfl
    | _ => rfl
theorem evL_loop {b fr} : evL env f k lv (.loop b) fr = (normO k lv fr).bind fun fr0 => (evL env f k none b fr0).bind (onN fun fr1 => evL env f k lv (.loop b) fr1) := by
  rw [evL_step]
  cases hn : normO k lv fr with
  | none =>
    rw [Option.bind_none]
    have : (fun n => ev env f k lv (n + 1) (.loop b) fr) = fun _ => none := by funext n; simp only [ev, hn]
    rw [this, lim_const]
  | some fr0 =>
    rw [Option.bind_some]
    unfold evL
    rw [← onN_lim (α := Unit) (ev_mono _ _ _ _ _) fun fr => ev_mono _ _ _ _ _]
    congr 1
    funext n
    simp only [ev, hn]
    cases hx : ev env f k none n b fr0 with
    | none => rfl
    | some p => obtain ⟨o, fr1⟩ := p; cases o <;> rfl

/-- the end of a body -/
def endOf (env : Env) (f : FuncId) (fi : FnI) (k : Nat) (p : Out × Fr) : Option (AV × List Ob) := match p.1 with | .exit _ => none | _ => finishE env (env.pol.own f) fi.results k p.2
theorem callL_eq {f : FuncId} {args : List AV} {objs : List Ob} {fi : FnI} (h : env.fn f = some fi) : callL env f args objs = (evL env f objs.length none fi.code { tmps := paramsT 0 args, objs }).bind (endOf env f fi objs.length) := by
  unfold callL evL
  rw [lim_succ (callN_mono f args objs)]
  have := lim_bind (g := fun n => ev env f objs.length none n fi.code { tmps := paramsT 0 args, objs }) (h := fun p _ => endOf env f fi objs.length p) (ev_mono _ _ _ _ _) fun p n r h => h
  simp only [lim_const] at this
  rw [← this]
  congr 1
  funext n
  simp only [callN, h]
  cases hx : ev env f objs.length none n fi.code { tmps := paramsT 0 args, objs } with
  | none => rfl
  | some p => obtain ⟨o, fr1⟩ := p; cases o <;> rfl
end
/-- The contracts hold in the machine. -/
theorem callsL {P : Program} {env : Env} (ok : EnvOK P env) : CallsV P env (callL env) := by
  intro f args objs v objs' h w m argv ha r
  obtain ⟨n, hn⟩ := (lim_iff (callN_mono _ _ _)).1 h
  exact (ev_ok ok n).2.1 f args objs v objs' hn w m argv ha r
end Go.V
namespace Go.V
/-! ### A frame's slots count by what they hold -/
def TEq (a b : List (Nat × AV)) : Prop := ∀ t, getT a t = getT b t
theorem TEq.refl (a : List (Nat × AV)) : TEq a a := fun _ => rfl
theorem TEq.symm {a b : List (Nat × AV)} (h : TEq a b) : TEq b a := fun t => (h t).symm
theorem TEq.trans {a b c : List (Nat × AV)} (h : TEq a b) (k : TEq b c) : TEq a c := fun t => (h t).trans (k t)
theorem TEq.set {a b : List (Nat × AV)} (h : TEq a b) (d : Nat) (v : AV) : TEq (setT a d v) (setT b d v) := fun t => by rw [getT_setT, getT_setT, h t]
theorem TEq.put {a b : List (Nat × AV)} (h : TEq a b) (d : Option Tmp) (v : AV) : TEq (putT a d v) (putT b d v) := by
  cases d with
  | none => exact h
  | some d => exact h.set d v
theorem TEq.cons (a : List (Nat × AV)) (d : Nat) (v : AV) : TEq (setT a d v) ((d, v) :: a) := fun t => by
  rw [getT_setT, getT_cons0]
  by_cases h : t = d
  · rw [if_pos h, if_pos h.symm]
  · rw [if_neg h, if_neg fun e => h e.symm]
theorem TEq.eval {env : Env} {a b : List (Nat × AV)} (h : TEq a b) : evalT env a = evalT env b := by
  funext x
  cases x with
  | tmp t => exact h t
  | _ => rfl
theorem TEq.wanted {ds : List (Option Tmp)} {a b : List (Nat × AV)} (h : TEq a b) (g : Option (Nat × Bool)) : wantedV ds a g = wantedV ds b g := by
  cases g with
  | none => rfl
  | some g =>
    obtain ⟨j, w⟩ := g
    simp only [wantedV]
    cases (ds[j]?).join with
    | none => rfl
    | some d => simp only [h d]
section
variable {env : Env} {f : FuncId}
theorem opsE_teq {r : Run} {ds : List (Option Tmp)} : ∀ (l : List Oper) {a b : List (Nat × AV)} (os : List Ob), TEq a b → ∀ {x}, opsE env f r ds l ⟨a, os⟩ = some x → ∃ tm, opsE env f r ds l ⟨b, os⟩ = some ⟨tm, x.objs⟩ ∧ TEq x.tmps tm
  | [], a, b, os, h, x, hx => by
    rw [opsE] at hx; injection hx with hx; subst hx
    exact ⟨b, rfl, h⟩
  | o :: l, a, b, os, h, x, hx => by
    rw [opsE] at hx ⊢
    simp only [h.wanted, h.eval] at hx
    cases hw : wantedV ds b o.guard with
    | none => rw [hw] at hx; simp at hx
    | some w =>
      rw [hw] at hx
      cases w with
      | false => exact opsE_teq l os (h.put o.dst .und) hx
      | true =>
        dsimp only at hx ⊢
        cases hr : (opE env f r o.op o.type (evalT env b)).run os with
        | none => rw [hr] at hx; simp at hx
        | some p =>
          obtain ⟨v, os'⟩ := p
          rw [hr] at hx
          exact opsE_teq l os' (h.put o.dst v) hx
theorem opsD_teq {r : Run} {ds : List (Option Tmp)} : ∀ (l : List Oper) {a b : List (Nat × AV)} (os : List Ob), TEq a b → ∀ {x}, opsD env f r ds l ⟨a, os⟩ = some x → ∃ tm, opsD env f r ds l ⟨b, os⟩ = some (⟨tm, x.1.objs⟩, x.2) ∧ TEq x.1.tmps tm
  | [], a, b, os, h, x, hx => by
    rw [opsD] at hx; injection hx with hx; subst hx
    exact ⟨b, rfl, h⟩
  | o :: l, a, b, os, h, x, hx => by
    rw [opsD] at hx ⊢
    simp only [h.wanted, h.eval] at hx
    cases hw : wantedV ds b o.guard with
    | none => rw [hw] at hx; simp at hx
    | some w =>
      rw [hw] at hx
      cases w with
      | false =>
        dsimp only at hx ⊢
        cases hd : opsD env f r ds l ⟨putT a o.dst .und, os⟩ with
        | none => rw [hd] at hx; simp at hx
        | some p =>
          rw [hd] at hx
          obtain ⟨tm, h1, h2⟩ := opsD_teq l os (h.put o.dst .und) hd
          rw [h1]
          simp only [Option.some.injEq] at hx
          subst hx
          exact ⟨tm, rfl, h2⟩
      | true =>
        dsimp only at hx ⊢
        cases hr : (opE env f r o.op o.type (evalT env b)).runF os os.length with
        | none => rw [hr] at hx; simp at hx
        | some p =>
          obtain ⟨v, os', n', ft, wr⟩ := p
          rw [hr] at hx
          dsimp only at hx ⊢
          cases hd : opsD env f r ds l ⟨putT a o.dst v, os'⟩ with
          | none => rw [hd] at hx; simp at hx
          | some p =>
            rw [hd] at hx
            obtain ⟨tm, h1, h2⟩ := opsD_teq l os' (h.put o.dst v) hd
            rw [h1]
            simp only [Option.some.injEq] at hx
            subst hx
            exact ⟨tm, rfl, h2⟩
theorem normO_teq {k : Nat} {l : Option (List Nat)} {a b : List (Nat × AV)} {os : List Ob} (h : TEq a b) {x : Fr} (hx : normO k l ⟨a, os⟩ = some x) : ∃ tm, normO k l ⟨b, os⟩ = some ⟨tm, x.objs⟩ ∧ TEq x.tmps tm := by
  cases l with
  | none =>
    simp only [normO, Option.some.injEq] at hx
    subst hx
    exact ⟨b, rfl, h⟩
  | some l =>
    simp only [normO] at hx ⊢
    have e : Fr.norm k l ⟨a, os⟩ = Fr.norm k l ⟨b, os⟩ := by
      unfold Fr.norm
      have e1 : l.map (getT a) = l.map (getT b) := by
        congr 1; funext t; exact h t
      have e2 : (l.map fun t => (t, getT a t)) = l.map fun t => (t, getT b t) := by
        congr 1; funext t; rw [h t]
      simp only [e1, e2]
    rw [← e, hx]
    exact ⟨x.tmps, rfl, .refl _⟩
theorem roundsE_teq {r : Code → Fr → Option (Out × Fr)} (hr : ∀ c a b os x, TEq a b → r c ⟨a, os⟩ = some x → ∃ tm, r c ⟨b, os⟩ = some (x.1, ⟨tm, x.2.objs⟩) ∧ TEq x.2.tmps tm) {te : TypeId} {o : Nat} {ps : List Tmp} {assign body : Code} {a b : List (Nat × AV)} (h : TEq a b) :
    ∀ (i : Nat) (os : List Ob) x, roundsE env r te o ps assign body a i os = some x → roundsE env r te o ps assign body b i os = some x
  | 0, os, x, hx => hx
  | i + 1, os, x, hx => by
    rw [roundsE] at hx ⊢
    cases hob : obAt os o <;> rw [hob] at hx <;> try (simp at hx; done)
    rename_i e s lk
    cases e <;> try (simp at hx; done)
    rename_i es
    dsimp only at hx ⊢
    cases hy : es[i]? with
    | none => rw [hy] at hx; simp at hx
    | some y =>
      rw [hy] at hx
      dsimp only at hx ⊢
      split at hx
      case h_2 => simp at hx
      rename_i v p q hv
      cases ha : r assign ⟨setT (setT a p (.int .i64 i)) q v, os⟩ with
      | none => rw [ha] at hx; simp at hx
      | some w =>
        obtain ⟨o1, fr1⟩ := w
        obtain ⟨tm1, h1, h2⟩ := hr _ _ _ _ _ ((h.set p (.int .i64 i)).set q v) ha
        rw [ha] at hx
        rw [h1]
        cases o1 with
        | normal =>
          dsimp only at hx ⊢
          cases hb : r body fr1 with
          | none => rw [hb] at hx; simp at hx
          | some w2 =>
            obtain ⟨o2, fr2⟩ := w2
            obtain ⟨tm2, h3, h4⟩ := hr _ fr1.tmps tm1 fr1.objs _ h2 hb
            rw [hb] at hx
            rw [h3]
            cases o2 with
            | normal => exact roundsE_teq hr h i fr2.objs x hx
            | _ => exact hx
        | _ => simp at hx
theorem ev_teq : ∀ (n : Nat) (k : Nat) (lv : Option (List Nat)) (c : Code) (a b : List (Nat × AV)) (os : List Ob) (x), TEq a b → ev env f k lv n c ⟨a, os⟩ = some x → ∃ tm, ev env f k lv n c ⟨b, os⟩ = some (x.1, ⟨tm, x.2.objs⟩) ∧ TEq x.2.tmps tm
  | 0, _, _, _, _, _, _, _, _, hx => by simp [ev] at hx
  | n + 1, k, lv, c, a, b, os, x, h, hx => by
    cases c with
    | region id ops draw =>
      cases draw with
      | false =>
        simp only [ev, Bool.false_eq_true, if_false] at hx ⊢
        cases he : opsE env f (fun g as os => callN env n g as os) (ops.toList.map (·.dst)) ops.toList ⟨a, os⟩ with
        | none => rw [he] at hx; simp at hx
        | some y =>
          rw [he] at hx
          obtain ⟨tm, h1, h2⟩ := opsE_teq _ os h he
          rw [h1]
          simp only [Option.some.injEq] at hx
          subst hx
          exact ⟨tm, rfl, h2⟩
      | true =>
        simp only [ev, if_true] at hx ⊢
        cases he : opsD env f (fun g as os => callN env n g as os) (ops.toList.map (·.dst)) ops.toList ⟨a, os⟩ with
        | none => rw [he] at hx; simp at hx
        | some y =>
          rw [he] at hx
          obtain ⟨tm, h1, h2⟩ := opsD_teq _ os h he
          rw [h1]
          dsimp only at hx ⊢
          split at hx
          · rename_i hi
            simp only [Option.some.injEq] at hx
            subst hx
            rw [if_pos hi]
            exact ⟨tm, rfl, h2⟩
          · simp at hx
    | seq p q =>
      rw [ev] at hx ⊢
      cases hp : ev env f k none n p ⟨a, os⟩ with
      | none => rw [hp] at hx; simp at hx
      | some y =>
        obtain ⟨o, fr1⟩ := y
        obtain ⟨tm, h1, h2⟩ := ev_teq n k none p a b os _ h hp
        rw [hp] at hx
        rw [h1]
        cases o with
        | normal => exact ev_teq n k none q fr1.tmps tm fr1.objs x h2 hx
        | _ =>
          simp only [Option.some.injEq] at hx
          subst hx
          exact ⟨tm, rfl, h2⟩
    | cond c p q =>
      rw [ev] at hx ⊢
      simp only [h.eval] at hx
      cases hv : evalT env b c <;> rw [hv] at hx <;> try (simp at hx; done)
      rename_i t
      dsimp only at hx ⊢
      cases hn : normO k (env.pol.live f 0 (condKey c)) ⟨a, os⟩ with
      | none => rw [hn] at hx; simp at hx
      | some fr0 =>
        obtain ⟨tm0, h1, h2⟩ := normO_teq h hn
        rw [hn] at hx
        rw [h1]
        dsimp only at hx ⊢
        cases hb : ev env f k none n (if t then p else q) fr0 with
        | none => rw [hb] at hx; simp at hx
        | some y =>
          obtain ⟨o, fr1⟩ := y
          obtain ⟨tm1, h3, h4⟩ := ev_teq n k none _ fr0.tmps tm0 fr0.objs _ h2 hb
          rw [hb] at hx
          rw [h3]
          cases o with
          | normal =>
            dsimp only at hx ⊢
            obtain ⟨z, h5, h6⟩ := Option.map_eq_some_iff.1 hx
            obtain ⟨tm2, h7, h8⟩ := normO_teq h4 h5
            rw [h7]
            subst h6
            exact ⟨tm2, rfl, h8⟩
          | _ =>
            simp only [Option.some.injEq] at hx
            subst hx
            exact ⟨tm1, rfl, h4⟩
    | block id p =>
      rw [ev] at hx ⊢
      cases hb : ev env f k (env.pol.live f 2 id) n p ⟨a, os⟩ with
      | none => rw [hb] at hx; simp at hx
      | some y =>
        obtain ⟨o, fr1⟩ := y
        obtain ⟨tm1, h3, h4⟩ := ev_teq n k _ p a b os _ h hb
        rw [hb] at hx
        rw [h3]
        have fin : ∀ x, (normO k (env.pol.live f 3 id) fr1).map (fun fr2 => (Out.normal, fr2)) = some x → ∃ tm, (normO k (env.pol.live f 3 id) ⟨tm1, fr1.objs⟩).map (fun fr2 => (Out.normal, fr2)) = some (x.1, ⟨tm, x.2.objs⟩) ∧ TEq x.2.tmps tm := by
          intro x hx
          obtain ⟨z, h5, h6⟩ := Option.map_eq_some_iff.1 hx
          obtain ⟨tm2, h7, h8⟩ := normO_teq h4 h5
          rw [h7]
          subst h6
          exact ⟨tm2, rfl, h8⟩
        cases o with
        | normal => exact fin x hx
        | exit i =>
          dsimp only at hx ⊢
          split at hx
          · rename_i hi
            rw [if_pos hi]
            exact fin x hx
          · rename_i hi
            rw [if_neg hi]
            simp only [Option.some.injEq] at hx
            subst hx
            exact ⟨tm1, rfl, h4⟩
        | ret =>
          simp only [Option.some.injEq] at hx
          subst hx
          exact ⟨tm1, rfl, h4⟩
    | loop p =>
      rw [ev] at hx ⊢
      cases hn : normO k lv ⟨a, os⟩ with
      | none => rw [hn] at hx; simp at hx
      | some fr0 =>
        obtain ⟨tm0, h1, h2⟩ := normO_teq h hn
        rw [hn] at hx
        rw [h1]
        dsimp only at hx ⊢
        cases hb : ev env f k none n p fr0 with
        | none => rw [hb] at hx; simp at hx
        | some y =>
          obtain ⟨o, fr1⟩ := y
          obtain ⟨tm1, h3, h4⟩ := ev_teq n k none p fr0.tmps tm0 fr0.objs _ h2 hb
          rw [hb] at hx
          rw [h3]
          cases o with
          | normal => exact ev_teq n k lv (.loop p) fr1.tmps tm1 fr1.objs x h4 hx
          | _ =>
            simp only [Option.some.injEq] at hx
            subst hx
            exact ⟨tm1, rfl, h4⟩
    | rangeFunc g ps assign body =>
      rw [ev] at hx ⊢
      simp only [h.eval] at hx
      cases hb : backOf env os (evalT env b g) with
      | none => rw [hb] at hx; simp at hx
      | some p =>
        obtain ⟨te, ob, len⟩ := p
        rw [hb] at hx
        dsimp only at hx ⊢
        cases hr : roundsE env (fun c fr' => ev env f os.length none n c fr') te ob ps.toList assign body a len os with
        | none => rw [hr] at hx; simp at hx
        | some p =>
          rw [hr] at hx
          rw [roundsE_teq (fun c a b os x hab hx => ev_teq n _ none c a b os x hab hx) h len os p hr]
          simp only [Option.some.injEq] at hx
          subst hx
          exact ⟨b, rfl, h⟩
    | exit i => simp only [ev, Option.some.injEq] at hx ⊢; subst hx; exact ⟨b, rfl, h⟩
    | ret => simp only [ev, Option.some.injEq] at hx ⊢; subst hx; exact ⟨b, rfl, h⟩
    | skip => simp only [ev, Option.some.injEq] at hx ⊢; subst hx; exact ⟨b, rfl, h⟩
    | label i => simp only [ev, Option.some.injEq] at hx ⊢; subst hx; exact ⟨b, rfl, h⟩
    | _ => simp [ev] at hx
end
end Go.V
